/-
  12 texts of mine in one.
-/
import Derived.Test.YtdnhbfmlklaldaaGreatC83c7f3cb
import Derived.Test.YtdnhbfmlklaldaaGreatCd5c88767
import Derived.Test.YtdnhbfmlklaldaaGreatCf58b87d4
import Derived.Test.YtdnhbfmlklaldaaGreatCf196b68c
open List (map_take map_drop map_set map_append drop_one)
set_option linter.unusedSimpArgs false
set_option linter.unusedVariables false
namespace Go.Proofs.YtdnhbfmlklaldaaGreat
open Go Go.Am
def a65:AFn where
  code:=(.seq (.region false [⟨none,(some 1),.box (.t 0)⟩,
    ⟨none,(some 2),.mov (.k (.bool false))⟩])
  (.seq (.region false [⟨none,(some 2),.mov (.k (.bool true))⟩])
  .ret))
  ntmps:=3
  res:=[.tmp 2]
theorem zh04:zsjc P Tryz.f65=some a65:=by kernel_rfl
def a66:AFn where
  code:=(.seq (.region false [⟨none,(some 2),.box (.t 0)⟩,
    ⟨none,(some 3),.mov (.k (.bool false))⟩])
  (.seq (.region true [⟨none,(some 4),.load 71 true (.t 2)⟩,
    ⟨none,(some 6),.load 34 true (.t 1)⟩,
    ⟨none,(some 5),.callN (.k (.fn (.func 33) [] [])) [(.t 4)]⟩,
    ⟨none,(some 7),.eqa false [(32,0),(2,1)] (.t 5) (.t 6)⟩,
    ⟨none,(some 3),.mov (.t 7)⟩])
  .ret))
  ntmps:=8
  res:=[.tmp 3]
theorem z3a6:zsjc P Tryz.f66=some a66:=by kernel_rfl
def a67:AFn where
  code:=(.seq (.region false [⟨none,(some 2),.box (.t 0)⟩,
    ⟨none,(some 3),.mov (.k (.bool false))⟩])
  (.seq (.region false [⟨none,(some 4),.fld 2 (.t 2)⟩,
    ⟨none,(some 5),.load 32 true (.t 4)⟩,
    ⟨none,(some 6),.fld 0 (.t 1)⟩,
    ⟨none,(some 7),.load 32 true (.t 6)⟩,
    ⟨none,(some 8),.eqa false [(32,0)] (.t 5) (.t 7)⟩,
    ⟨none,(some 3),.mov (.t 8)⟩])
  .ret))
  ntmps:=9
  res:=[.tmp 3]
theorem zy8u:zsjc P Tryz.f67=some a67:=by kernel_rfl
def a71:AFn where
  code:=(.seq (.region false [⟨none,(some 3),.box (.t 0)⟩,
    ⟨none,(some 4),.mov (.k (.bool false))⟩])
  (.seq (.region false [⟨none,(some 5),.load 1 false (.t 1)⟩,
    ⟨none,(some 6),.load 71 true (.t 3)⟩,
    ⟨none,(some 7),.call (.t 5) [(.t 6)]⟩,
    ⟨none,(some 8),.mov (.t 7)⟩,
    ⟨(some (8,true)),(some 9),.fld 34 (.t 3)⟩,
    ⟨(some (8,true)),(some 10),.load 1 false (.t 9)⟩,
    ⟨(some (8,true)),(some 11),.fld 3 (.t 2)⟩,
    ⟨(some (8,true)),(some 12),.load 1 false (.t 11)⟩,
    ⟨(some (8,true)),(some 13),.bin .eql (.t 10) (.t 12)⟩,
    ⟨none,(some 14),.pick (.t 8) (.t 13) (.k (.bool false))⟩,
    ⟨none,(some 4),.mov (.t 14)⟩])
  .ret))
  ntmps:=15
  res:=[.tmp 4]
theorem zbtg:zsjc P Tryz.f71=some a71:=by kernel_rfl
def a76:AFn where
  code:=(.seq (.region false [⟨none,(some 4),.box (.t 0)⟩,
    ⟨none,(some 5),.mov (.k (.bool false))⟩])
  (.seq (.region false [⟨none,(some 6),.load 1 false (.t 1)⟩,
    ⟨none,(some 7),.load 71 true (.t 4)⟩,
    ⟨none,(some 8),.call (.t 6) [(.t 7)]⟩,
    ⟨none,(some 9),.mov (.t 8)⟩,
    ⟨(some (9,true)),(some 10),.fld 36 (.t 4)⟩,
    ⟨(some (9,true)),(some 11),.load 1 false (.t 10)⟩,
    ⟨(some (9,true)),(some 12),.call (.k (.fn (.func 77) [] [])) [(.t 11)]⟩,
    ⟨none,(some 13),.pick (.t 9) (.t 12) (.k (.bool false))⟩,
    ⟨none,(some 14),.mov (.t 13)⟩,
    ⟨(some (14,true)),(some 15),.fld 32 (.t 2)⟩,
    ⟨(some (14,true)),(some 16),.load 1 false (.t 15)⟩,
    ⟨(some (14,true)),(some 17),.call (.k (.fn (.func 77) [] [])) [(.t 16)]⟩,
    ⟨none,(some 18),.pick (.t 14) (.t 17) (.k (.bool false))⟩,
    ⟨none,(some 19),.mov (.t 18)⟩,
    ⟨(some (19,true)),(some 20),.fld 36 (.t 4)⟩,
    ⟨(some (19,true)),(some 21),.load 1 false (.t 20)⟩,
    ⟨(some (19,true)),(some 22),.fld 32 (.t 2)⟩,
    ⟨(some (19,true)),(some 23),.load 1 false (.t 22)⟩,
    ⟨(some (19,true)),(some 24),.bin .leq (.t 21) (.t 23)⟩,
    ⟨none,(some 25),.pick (.t 19) (.t 24) (.k (.bool false))⟩,
    ⟨none,(some 26),.mov (.t 25)⟩,
    ⟨(some (26,true)),(some 27),.fld 32 (.t 2)⟩,
    ⟨(some (26,true)),(some 28),.load 1 false (.t 27)⟩,
    ⟨(some (26,true)),(some 29),.fld 36 (.t 4)⟩,
    ⟨(some (26,true)),(some 30),.load 1 false (.t 29)⟩,
    ⟨(some (26,true)),(some 31),.bin .sub (.t 28) (.t 30)⟩,
    ⟨(some (26,true)),(some 32),.fld 1 (.t 3)⟩,
    ⟨(some (26,true)),(some 33),.load 1 false (.t 32)⟩,
    ⟨(some (26,true)),(some 34),.bin .leq (.t 31) (.t 33)⟩,
    ⟨none,(some 35),.pick (.t 26) (.t 34) (.k (.bool false))⟩,
    ⟨none,(some 5),.mov (.t 35)⟩])
  .ret))
  ntmps:=36
  res:=[.tmp 5]
theorem zqxf:zsjc P Tryz.f76=some a76:=by kernel_rfl
def a111:AFn where
  code:=(.seq (.region false [⟨none,(some 2),.box (.t 0)⟩,
    ⟨none,(some 3),.mov (.k (.bool false))⟩])
  (.seq (.region false [⟨none,(some 4),.fld 38 (.t 2)⟩,
    ⟨none,(some 5),.load 32 true (.t 4)⟩,
    ⟨none,(some 6),.load 32 true (.t 1)⟩,
    ⟨none,(some 7),.eqa false [(32,0)] (.t 5) (.t 6)⟩,
    ⟨none,(some 3),.mov (.t 7)⟩])
  .ret))
  ntmps:=8
  res:=[.tmp 3]
theorem zmlq:zsjc P Tryz.f111=some a111:=by kernel_rfl
def a33:AFn where
  code:=(.seq (.region false [⟨none,(some 1),.box (.t 0)⟩,
    ⟨none,(some 2),.alloc [(w8 0#8),(w8 0#8),(w8 0#8),(w8 0#8),(w8 0#8),(w8 0#8),(w8 0#8),(w8 0#8),(w8 0#8),(w8 0#8),(w8 0#8),(w8 0#8),(w8 0#8),(w8 0#8),(w8 0#8),(w8 0#8),(w8 0#8),(w8 0#8),(w8 0#8),(w8 0#8),(w8 0#8),(w8 0#8),(w8 0#8),(w8 0#8),(w8 0#8),(w8 0#8),(w8 0#8),(w8 0#8),(w8 0#8),(w8 0#8),(w8 0#8),(w8 0#8),(.str []),(.str [])]⟩])
  (.seq (.region false [⟨none,(some 3),.fld 2 (.t 1)⟩,
    ⟨none,(some 4),.load 32 true (.t 3)⟩,
    ⟨none,(some 5),.fld 34 (.t 1)⟩,
    ⟨none,(some 6),.load 1 false (.t 5)⟩,
    ⟨none,(some 7),.fld 35 (.t 1)⟩,
    ⟨none,(some 8),.load 1 false (.t 7)⟩,
    ⟨none,(some 9),.build [(w8 0#8),(w8 0#8),(w8 0#8),(w8 0#8),(w8 0#8),(w8 0#8),(w8 0#8),(w8 0#8),(w8 0#8),(w8 0#8),(w8 0#8),(w8 0#8),(w8 0#8),(w8 0#8),(w8 0#8),(w8 0#8),(w8 0#8),(w8 0#8),(w8 0#8),(w8 0#8),(w8 0#8),(w8 0#8),(w8 0#8),(w8 0#8),(w8 0#8),(w8 0#8),(w8 0#8),(w8 0#8),(w8 0#8),(w8 0#8),(w8 0#8),(w8 0#8),(.str []),(.str [])] [(0,32,(.t 4)),(32,1,(.t 6)),(33,1,(.t 8))]⟩,
    ⟨none,none,.store 34 (.t 2) (.t 9)⟩])
  .ret))
  ntmps:=10
  res:=[.cell 2 34 true]
theorem zojn:zsjc P Tryz.f33=some a33:=by kernel_rfl
def a77:AFn where
  code:=(.seq (.region false [⟨none,(some 2),.mov (.k (.bool false))⟩])
  (.seq (.region false [⟨none,(some 3),.mov (.t 0)⟩,
    ⟨none,(some 4),.bin .geq (.t 3) (.k (.int .i64 0))⟩,
    ⟨none,(some 5),.mov (.t 4)⟩,
    ⟨(some (5,true)),(some 6),.mov (.t 0)⟩,
    ⟨(some (5,true)),(some 7),.bin .leq (.t 6) (.k (.int .i64 1099511627776))⟩,
    ⟨none,(some 8),.pick (.t 5) (.t 7) (.k (.bool false))⟩,
    ⟨none,(some 2),.mov (.t 8)⟩])
  .ret))
  ntmps:=9
  res:=[.tmp 2]
theorem z20a:zsjc P Tryz.f77=some a77:=by kernel_rfl
def z0bm:ACode :=
  (.seq (.region false [⟨none,(some 13),.bin .lss (.t 12) (.t 11)⟩])
  (.seq (.cond (.t 13) .skip
  (.exit 0))
  (.seq (.block 1 (.seq (.region false [⟨none,(some 14),.idxS 71 (.t 10) (.t 12)⟩,
    ⟨none,(some 15),.load 71 true (.t 14)⟩,
    ⟨none,(some 9),.alloc [(.int .i64 0),(.str []),(w8 0#8),(w8 0#8),(w8 0#8),(w8 0#8),(w8 0#8),(w8 0#8),(w8 0#8),(w8 0#8),(w8 0#8),(w8 0#8),(w8 0#8),(w8 0#8),(w8 0#8),(w8 0#8),(w8 0#8),(w8 0#8),(w8 0#8),(w8 0#8),(w8 0#8),(w8 0#8),(w8 0#8),(w8 0#8),(w8 0#8),(w8 0#8),(w8 0#8),(w8 0#8),(w8 0#8),(w8 0#8),(w8 0#8),(w8 0#8),(w8 0#8),(w8 0#8),(.str []),(.str []),(.int .i64 0),(.bool false),(w8 0#8),(w8 0#8),(w8 0#8),(w8 0#8),(w8 0#8),(w8 0#8),(w8 0#8),(w8 0#8),(w8 0#8),(w8 0#8),(w8 0#8),(w8 0#8),(w8 0#8),(w8 0#8),(w8 0#8),(w8 0#8),(w8 0#8),(w8 0#8),(w8 0#8),(w8 0#8),(w8 0#8),(w8 0#8),(w8 0#8),(w8 0#8),(w8 0#8),(w8 0#8),(w8 0#8),(w8 0#8),(w8 0#8),(w8 0#8),(w8 0#8),(w8 0#8),.nils]⟩,
    ⟨none,none,.store 71 (.t 9) (.t 15)⟩])
  (.seq (.region false [⟨none,(some 16),.fld 0 (.t 9)⟩,
    ⟨none,(some 17),.load 1 false (.t 16)⟩,
    ⟨none,(some 18),.mov (.t 1)⟩,
    ⟨none,(some 19),.bin .eql (.t 17) (.t 18)⟩,
    ⟨none,(some 20),.mov (.t 19)⟩,
    ⟨(some (20,true)),(some 21),.mov (.t 2)⟩,
    ⟨(some (20,true)),(some 22),.load 71 true (.t 9)⟩,
    ⟨(some (20,true)),(some 23),.call (.t 21) [(.t 22)]⟩,
    ⟨none,(some 24),.pick (.t 20) (.t 23) (.k (.bool false))⟩])
  (.cond (.t 24) (.region false [⟨none,(some 25),.mov (.t 7)⟩,
    ⟨none,(some 26),.load 71 true (.t 9)⟩,
    ⟨none,(some 27),.bsl 71 1 [(.int .i64 0),(.str []),(w8 0#8),(w8 0#8),(w8 0#8),(w8 0#8),(w8 0#8),(w8 0#8),(w8 0#8),(w8 0#8),(w8 0#8),(w8 0#8),(w8 0#8),(w8 0#8),(w8 0#8),(w8 0#8),(w8 0#8),(w8 0#8),(w8 0#8),(w8 0#8),(w8 0#8),(w8 0#8),(w8 0#8),(w8 0#8),(w8 0#8),(w8 0#8),(w8 0#8),(w8 0#8),(w8 0#8),(w8 0#8),(w8 0#8),(w8 0#8),(w8 0#8),(w8 0#8),(.str []),(.str []),(.int .i64 0),(.bool false),(w8 0#8),(w8 0#8),(w8 0#8),(w8 0#8),(w8 0#8),(w8 0#8),(w8 0#8),(w8 0#8),(w8 0#8),(w8 0#8),(w8 0#8),(w8 0#8),(w8 0#8),(w8 0#8),(w8 0#8),(w8 0#8),(w8 0#8),(w8 0#8),(w8 0#8),(w8 0#8),(w8 0#8),(w8 0#8),(w8 0#8),(w8 0#8),(w8 0#8),(w8 0#8),(w8 0#8),(w8 0#8),(w8 0#8),(w8 0#8),(w8 0#8),(w8 0#8),.nils] [(0,71,(.t 26))]⟩,
    ⟨none,(some 28),.app 71 160 (.t 25) (.t 27)⟩,
    ⟨none,(some 7),.mov (.t 28)⟩])
  .skip))))
  (.region false [⟨none,(some 29),.bin .add (.t 12) (.k (.int .i64 1))⟩,
    ⟨none,(some 12),.mov (.t 29)⟩]))))
def zd78 (x1 x2 x7 x10 x11 x12:DV) (h:List AObj):St:=⟨[.junk,x1,x2]++js 4++[x7,.junk,.junk,x10,x11,x12]++js 18,h⟩
def a68:AFn where
  code:=(.seq (.region false [⟨none,(some 6),.mov (.k .nils)⟩])
  (.seq (.region false [⟨none,(some 7),.mov (.k .nils)⟩])
  (.seq (.seq (.region false [⟨none,(some 10),.mov (.t 0)⟩,
    ⟨none,(some 11),.len (.t 10)⟩,
    ⟨none,(some 12),.mov (.k (.int .i64 0))⟩])
  (.block 0 (.loop z0bm)))
  (.seq (.region false [⟨none,(some 30),.mov (.t 7)⟩,
    ⟨none,(some 6),.mov (.t 30)⟩])
  .ret))))
  ntmps:=31
  res:=[.tmp 6]
theorem z20i:zsjc P Tryz.f68=some a68:=by kernel_rfl
def z0tq:ACode :=
  (.seq (.region false [⟨none,(some 9),.bin .lss (.t 8) (.t 7)⟩])
  (.seq (.cond (.t 9) .skip
  (.exit 0))
  (.seq (.block 1 (.seq (.region false [⟨none,(some 10),.idxS 71 (.t 6) (.t 8)⟩,
    ⟨none,(some 11),.load 71 true (.t 10)⟩,
    ⟨none,(some 5),.alloc [(.int .i64 0),(.str []),(w8 0#8),(w8 0#8),(w8 0#8),(w8 0#8),(w8 0#8),(w8 0#8),(w8 0#8),(w8 0#8),(w8 0#8),(w8 0#8),(w8 0#8),(w8 0#8),(w8 0#8),(w8 0#8),(w8 0#8),(w8 0#8),(w8 0#8),(w8 0#8),(w8 0#8),(w8 0#8),(w8 0#8),(w8 0#8),(w8 0#8),(w8 0#8),(w8 0#8),(w8 0#8),(w8 0#8),(w8 0#8),(w8 0#8),(w8 0#8),(w8 0#8),(w8 0#8),(.str []),(.str []),(.int .i64 0),(.bool false),(w8 0#8),(w8 0#8),(w8 0#8),(w8 0#8),(w8 0#8),(w8 0#8),(w8 0#8),(w8 0#8),(w8 0#8),(w8 0#8),(w8 0#8),(w8 0#8),(w8 0#8),(w8 0#8),(w8 0#8),(w8 0#8),(w8 0#8),(w8 0#8),(w8 0#8),(w8 0#8),(w8 0#8),(w8 0#8),(w8 0#8),(w8 0#8),(w8 0#8),(w8 0#8),(w8 0#8),(w8 0#8),(w8 0#8),(w8 0#8),(w8 0#8),(w8 0#8),.nils]⟩,
    ⟨none,none,.store 71 (.t 5) (.t 11)⟩])
  (.region false [⟨none,(some 12),.mov (.t 3)⟩,
    ⟨none,(some 13),.fld 1 (.t 5)⟩,
    ⟨none,(some 14),.load 1 false (.t 13)⟩,
    ⟨none,(some 15),.bsl 1 1 [(.str [])] [(0,1,(.t 14))]⟩,
    ⟨none,(some 16),.app 1 16 (.t 12) (.t 15)⟩,
    ⟨none,(some 3),.mov (.t 16)⟩])))
  (.region false [⟨none,(some 17),.bin .add (.t 8) (.k (.int .i64 1))⟩,
    ⟨none,(some 8),.mov (.t 17)⟩]))))
def zfq0 (x3 x6 x7 x8:DV) (h:List AObj):St:=⟨[.junk,.junk,.junk,x3,.junk,.junk,x6,x7,x8]++js 13,h⟩
def a105:AFn where
  code:=(.seq (.region false [⟨none,(some 2),.mov (.k .nils)⟩])
  (.seq (.region false [⟨none,(some 3),.mov (.k .nils)⟩])
  (.seq (.seq (.region false [⟨none,(some 6),.mov (.t 0)⟩,
    ⟨none,(some 7),.len (.t 6)⟩,
    ⟨none,(some 8),.mov (.k (.int .i64 0))⟩])
  (.block 0 (.loop z0tq)))
  (.seq (.region false [⟨none,(some 18),.mov (.t 3)⟩,
    ⟨none,(some 19),.call (.k (.fn (.func 125) [] [])) [(.t 18)]⟩])
  (.seq (.region false [⟨none,(some 20),.mov (.t 3)⟩,
    ⟨none,(some 21),.call (.k (.fn (.func 126) [] [])) [(.t 20)]⟩,
    ⟨none,(some 2),.mov (.t 21)⟩])
  .ret)))))
  ntmps:=22
  res:=[.tmp 2]
theorem z9rf:zsjc P Tryz.f105=some a105:=by kernel_rfl
def a127:AFn where
  code:=(.seq (.region false [⟨none,(some 2),.box (.t 0)⟩,
    ⟨none,(some 3),.mov (.k (.bool false))⟩])
  (.seq (.region false [⟨none,(some 4),.fld 1 (.t 2)⟩,
    ⟨none,(some 5),.load 1 false (.t 4)⟩,
    ⟨none,(some 6),.load 1 false (.t 1)⟩,
    ⟨none,(some 7),.bin .eql (.t 5) (.t 6)⟩,
    ⟨none,(some 3),.mov (.t 7)⟩])
  .ret))
  ntmps:=8
  res:=[.tmp 3]
theorem z6yq:zsjc P Tryz.f127=some a127:=by kernel_rfl
def z08j:ACode :=
  (.seq (.region false [⟨none,(some 9),.bin .lss (.t 8) (.t 7)⟩])
  (.seq (.cond (.t 9) .skip
  (.exit 0))
  (.seq (.block 1 (.seq (.region false [⟨none,(some 10),.mov (.t 8)⟩,
    ⟨none,(some 5),.mov (.t 10)⟩])
  (.seq (.region false [⟨none,(some 11),.mov (.t 1)⟩,
    ⟨none,(some 12),.mov (.t 0)⟩,
    ⟨none,(some 13),.mov (.t 5)⟩,
    ⟨none,(some 14),.idxS 71 (.t 12) (.t 13)⟩,
    ⟨none,(some 15),.load 71 true (.t 14)⟩,
    ⟨none,(some 16),.call (.t 11) [(.t 15)]⟩])
  (.cond (.t 16) (.seq (.region false [⟨none,(some 17),.mov (.t 5)⟩,
    ⟨none,(some 4),.mov (.t 17)⟩])
  .ret)
  .skip))))
  (.region false [⟨none,(some 18),.bin .add (.t 8) (.k (.int .i64 1))⟩,
    ⟨none,(some 8),.mov (.t 18)⟩]))))
def z5pk (x0 x1 x7 x8:DV) (h:List AObj):St:=⟨[x0,x1]++js 5++[x7,x8]++js 10,h⟩
def a90:AFn where
  code:=(.seq (.region false [⟨none,(some 4),.mov (.k (.int .i64 0))⟩])
  (.seq (.seq (.region false [⟨none,(some 6),.mov (.t 0)⟩,
    ⟨none,(some 7),.len (.t 6)⟩,
    ⟨none,(some 8),.mov (.k (.int .i64 0))⟩])
  (.block 0 (.loop z08j)))
  (.seq (.region false [⟨none,(some 4),.mov (.k (.int .i64 (-1)))⟩])
  .ret)))
  ntmps:=19
  res:=[.tmp 4]
theorem z9pi:zsjc P Tryz.f90=some a90:=by kernel_rfl
def z990:ACode :=
  (.seq (.region false [⟨none,(some 12),.bin .lss (.t 11) (.t 10)⟩])
  (.seq (.cond (.t 12) .skip
  (.exit 0))
  (.seq (.block 1 (.seq (.region false [⟨none,(some 13),.idxS 1 (.t 9) (.t 11)⟩,
    ⟨none,(some 14),.load 1 false (.t 13)⟩,
    ⟨none,(some 7),.alloc [(.str [])]⟩,
    ⟨none,none,.store 1 (.t 7) (.t 14)⟩])
  (.seq (.region false [⟨none,(some 15),.mov (.t 0)⟩,
    ⟨none,(some 16),.mkf (.func 127) [] [(.t 7)]⟩,
    ⟨none,(some 17),.call (.k (.fn (.func 90) [] [])) [(.t 15),(.t 16)]⟩,
    ⟨none,(some 8),.mov (.t 17)⟩])
  (.region false [⟨none,(some 18),.mov (.t 5)⟩,
    ⟨none,(some 19),.mov (.t 0)⟩,
    ⟨none,(some 20),.mov (.t 8)⟩,
    ⟨none,(some 21),.idxS 71 (.t 19) (.t 20)⟩,
    ⟨none,(some 22),.fld 70 (.t 21)⟩,
    ⟨none,(some 23),.load 1 false (.t 22)⟩,
    ⟨none,(some 24),.app 32 32 (.t 18) (.t 23)⟩,
    ⟨none,(some 5),.mov (.t 24)⟩]))))
  (.region false [⟨none,(some 25),.bin .add (.t 11) (.k (.int .i64 1))⟩,
    ⟨none,(some 11),.mov (.t 25)⟩]))))
def z3x7 (x0 x5 x9 x10 x11:DV) (h:List AObj):St:=⟨[x0]++js 4++[x5,.junk,.junk,.junk,x9,x10,x11]++js 15,h⟩
def a108:AFn where
  code:=(.seq (.region false [⟨none,(some 4),.mov (.k .nils)⟩])
  (.seq (.region false [⟨none,(some 5),.mov (.k .nils)⟩])
  (.seq (.seq (.region false [⟨none,(some 9),.mov (.t 1)⟩,
    ⟨none,(some 10),.len (.t 9)⟩,
    ⟨none,(some 11),.mov (.k (.int .i64 0))⟩])
  (.block 0 (.loop z990)))
  (.seq (.region false [⟨none,(some 26),.mov (.t 5)⟩,
    ⟨none,(some 4),.mov (.t 26)⟩])
  .ret))))
  ntmps:=27
  res:=[.tmp 4]
theorem zh50:zsjc P Tryz.f108=some a108:=by kernel_rfl
def a106:AFn where
  code:=(.seq (.region false [⟨none,(some 2),.alloc [(.bool false),.nils,(.int .i64 0)]⟩])
  (.seq (.region false [⟨none,(some 3),.mov (.t 0)⟩,
    ⟨none,(some 4),.build [(.bool false),.nils,(.int .i64 0)] [(2,1,(.t 3))]⟩,
    ⟨none,none,.store 3 (.t 2) (.t 4)⟩])
  .ret))
  ntmps:=5
  res:=[.cell 2 3 true]
theorem zex6:zsjc P Tryz.f106=some a106:=by kernel_rfl
def a107:AFn where
  code:=(.seq (.region false [⟨none,(some 2),.alloc [(.bool false),.nils,(.int .i64 0)]⟩])
  (.seq (.region false [⟨none,(some 3),.mov (.t 0)⟩,
    ⟨none,(some 4),.call (.k (.fn (.func 110) [] [])) [(.t 3)]⟩,
    ⟨none,(some 5),.build [(.bool false),.nils,(.int .i64 0)] [(0,1,(.k (.bool true))),(1,1,(.t 4))]⟩,
    ⟨none,none,.store 3 (.t 2) (.t 5)⟩])
  .ret))
  ntmps:=6
  res:=[.cell 2 3 true]
theorem z38u:zsjc P Tryz.f107=some a107:=by kernel_rfl
def a69:AFn where
  code:=(.seq (.region false [⟨none,(some 4),.alloc [(.bool false),.nils,(.int .i64 0)]⟩])
  (.seq (.region false [⟨none,(some 7),.mov (.t 0)⟩,
    ⟨none,(some 8),.call (.k (.fn (.func 105) [] [])) [(.t 7)]⟩,
    ⟨none,(some 5),.mov (.t 8)⟩])
  (.seq (.seq (.region false [⟨none,(some 9),.mov (.t 1)⟩,
    ⟨none,(some 10),.mov (.t 5)⟩,
    ⟨none,(some 11),.len (.t 10)⟩,
    ⟨none,(some 12),.bin .sub (.t 9) (.t 11)⟩,
    ⟨none,(some 6),.mov (.t 12)⟩])
  (.seq (.region false [⟨none,(some 13),.mov (.t 6)⟩,
    ⟨none,(some 14),.bin .gtr (.t 13) (.k (.int .i64 0))⟩])
  (.cond (.t 14) (.seq (.region false [⟨none,(some 15),.mov (.t 6)⟩,
    ⟨none,(some 16),.call (.k (.fn (.func 106) [] [])) [(.t 15)]⟩,
    ⟨none,none,.store 3 (.t 4) (.t 16)⟩])
  .ret)
  .skip)))
  (.seq (.region false [⟨none,(some 17),.mov (.t 0)⟩,
    ⟨none,(some 18),.mov (.t 5)⟩,
    ⟨none,(some 19),.mov (.t 1)⟩,
    ⟨none,(some 20),.slcS 1 (.t 18) none (some (.t 19)) none⟩,
    ⟨none,(some 21),.call (.k (.fn (.func 108) [] [])) [(.t 17),(.t 20)]⟩,
    ⟨none,(some 22),.call (.k (.fn (.func 107) [] [])) [(.t 21)]⟩,
    ⟨none,none,.store 3 (.t 4) (.t 22)⟩])
  .ret))))
  ntmps:=23
  res:=[.cell 4 3 true]
theorem z713:zsjc P Tryz.f69=some a69:=by kernel_rfl
def a70:AFn where
  code:=(.seq (.region false [⟨none,(some 2),.alloc [(.bool false),.nils,(.int .i64 0)]⟩])
  (.seq (.seq (.region false [⟨none,(some 3),.mov (.t 0)⟩,
    ⟨none,(some 4),.len (.t 3)⟩,
    ⟨none,(some 5),.bin .eql (.t 4) (.k (.int .i64 0))⟩])
  (.cond (.t 5) (.seq (.region false [⟨none,(some 6),.call (.k (.fn (.func 106) [] [])) [(.k (.int .i64 1))]⟩,
    ⟨none,none,.store 3 (.t 2) (.t 6)⟩])
  .ret)
  .skip))
  (.seq (.region false [⟨none,(some 7),.mov (.t 0)⟩,
    ⟨none,(some 8),.idxS 71 (.t 7) (.k (.int .i64 0))⟩,
    ⟨none,(some 9),.fld 70 (.t 8)⟩,
    ⟨none,(some 10),.load 1 false (.t 9)⟩,
    ⟨none,(some 11),.call (.k (.fn (.func 107) [] [])) [(.t 10)]⟩,
    ⟨none,none,.store 3 (.t 2) (.t 11)⟩])
  .ret)))
  ntmps:=12
  res:=[.cell 2 3 true]
theorem zhcw:zsjc P Tryz.f70=some a70:=by kernel_rfl
def a128:AFn where
  code:=(.seq (.region false [⟨none,(some 1),.box (.t 0)⟩,
    ⟨none,(some 2),.mov (.k (.bool false))⟩])
  (.seq (.region false [⟨none,(some 3),.fld 37 (.t 1)⟩,
    ⟨none,(some 4),.load 1 false (.t 3)⟩,
    ⟨none,(some 2),.mov (.t 4)⟩])
  .ret))
  ntmps:=5
  res:=[.tmp 2]
theorem zv7v:zsjc P Tryz.f128=some a128:=by kernel_rfl
def a130:AFn where
  code:=(.seq (.region false [⟨none,(some 3),.mov (.k (.bool false))⟩])
  (.seq (.region false [⟨none,(some 4),.load 1 false (.t 1)⟩,
    ⟨none,(some 5),.mov (.t 0)⟩,
    ⟨none,(some 6),.call (.k (.fn (.func 131) [] [])) [(.t 4),(.t 5)]⟩,
    ⟨none,(some 3),.mov (.t 6)⟩])
  .ret))
  ntmps:=7
  res:=[.tmp 3]
theorem zndb:zsjc P Tryz.f130=some a130:=by kernel_rfl
def zuys:ACode :=
  (.seq (.seq (.region false [⟨none,(some 16),.mov (.t 6)⟩,
    ⟨none,(some 17),.mov (.t 0)⟩,
    ⟨none,(some 18),.len (.t 17)⟩,
    ⟨none,(some 19),.bin .lss (.t 16) (.t 18)⟩])
  (.cond (.t 19) .skip
  (.exit 0)))
  (.seq (.block 1 (.seq (.region false [⟨none,(some 22),.mov (.t 0)⟩,
    ⟨none,(some 23),.mov (.t 6)⟩,
    ⟨none,(some 24),.idxS 71 (.t 22) (.t 23)⟩,
    ⟨none,(some 25),.load 71 true (.t 24)⟩,
    ⟨none,(some 7),.alloc [(.int .i64 0),(.str []),(w8 0#8),(w8 0#8),(w8 0#8),(w8 0#8),(w8 0#8),(w8 0#8),(w8 0#8),(w8 0#8),(w8 0#8),(w8 0#8),(w8 0#8),(w8 0#8),(w8 0#8),(w8 0#8),(w8 0#8),(w8 0#8),(w8 0#8),(w8 0#8),(w8 0#8),(w8 0#8),(w8 0#8),(w8 0#8),(w8 0#8),(w8 0#8),(w8 0#8),(w8 0#8),(w8 0#8),(w8 0#8),(w8 0#8),(w8 0#8),(w8 0#8),(w8 0#8),(.str []),(.str []),(.int .i64 0),(.bool false),(w8 0#8),(w8 0#8),(w8 0#8),(w8 0#8),(w8 0#8),(w8 0#8),(w8 0#8),(w8 0#8),(w8 0#8),(w8 0#8),(w8 0#8),(w8 0#8),(w8 0#8),(w8 0#8),(w8 0#8),(w8 0#8),(w8 0#8),(w8 0#8),(w8 0#8),(w8 0#8),(w8 0#8),(w8 0#8),(w8 0#8),(w8 0#8),(w8 0#8),(w8 0#8),(w8 0#8),(w8 0#8),(w8 0#8),(w8 0#8),(w8 0#8),(w8 0#8),.nils]⟩,
    ⟨none,none,.store 71 (.t 7) (.t 25)⟩])
  (.seq (.region false [⟨none,(some 26),.mov (.t 1)⟩,
    ⟨none,(some 27),.load 71 true (.t 7)⟩,
    ⟨none,(some 28),.call (.t 26) [(.t 27)]⟩,
    ⟨none,(some 29),.un .not (.t 28)⟩])
  (.cond (.t 29) (.seq (.region false [⟨none,(some 30),.mov (.t 0)⟩,
    ⟨none,(some 31),.mov (.t 5)⟩,
    ⟨none,(some 32),.load 71 true (.t 7)⟩,
    ⟨none,(some 33),.idxS 71 (.t 30) (.t 31)⟩,
    ⟨none,none,.store 71 (.t 33) (.t 32)⟩])
  (.region false [⟨none,(some 34),.mov (.t 5)⟩,
    ⟨none,(some 35),.bin .add (.t 34) (.k (.int .i64 1))⟩,
    ⟨none,(some 5),.mov (.t 35)⟩]))
  .skip))))
  (.region false [⟨none,(some 20),.mov (.t 6)⟩,
    ⟨none,(some 21),.bin .add (.t 20) (.k (.int .i64 1))⟩,
    ⟨none,(some 6),.mov (.t 21)⟩])))
def zvur (x0 x1 x5 x6:DV) (h:List AObj):St:=⟨[x0,x1,.junk,.junk,.junk,x5,x6]++js 35,h⟩
def a49:AFn where
  code:=(.seq (.region false [⟨none,(some 4),.mov (.k .nils)⟩])
  (.seq (.region false [⟨none,(some 8),.mov (.t 0)⟩,
    ⟨none,(some 9),.mov (.t 1)⟩,
    ⟨none,(some 10),.call (.k (.fn (.func 90) [] [])) [(.t 8),(.t 9)]⟩,
    ⟨none,(some 5),.mov (.t 10)⟩])
  (.seq (.seq (.region false [⟨none,(some 11),.mov (.t 5)⟩,
    ⟨none,(some 12),.bin .eql (.t 11) (.k (.int .i64 (-1)))⟩])
  (.cond (.t 12) (.seq (.region false [⟨none,(some 13),.mov (.t 0)⟩,
    ⟨none,(some 4),.mov (.t 13)⟩])
  .ret)
  .skip))
  (.seq (.seq (.region false [⟨none,(some 14),.mov (.t 5)⟩,
    ⟨none,(some 15),.bin .add (.t 14) (.k (.int .i64 1))⟩,
    ⟨none,(some 6),.mov (.t 15)⟩])
  (.block 0 (.loop zuys)))
  (.seq (.region false [⟨none,(some 36),.mov (.t 0)⟩,
    ⟨none,(some 37),.mov (.t 5)⟩,
    ⟨none,(some 38),.slcS 71 (.t 36) (some (.t 37)) none none⟩,
    ⟨none,none,.clr 71 [(.int .i64 0),(.str []),(w8 0#8),(w8 0#8),(w8 0#8),(w8 0#8),(w8 0#8),(w8 0#8),(w8 0#8),(w8 0#8),(w8 0#8),(w8 0#8),(w8 0#8),(w8 0#8),(w8 0#8),(w8 0#8),(w8 0#8),(w8 0#8),(w8 0#8),(w8 0#8),(w8 0#8),(w8 0#8),(w8 0#8),(w8 0#8),(w8 0#8),(w8 0#8),(w8 0#8),(w8 0#8),(w8 0#8),(w8 0#8),(w8 0#8),(w8 0#8),(w8 0#8),(w8 0#8),(.str []),(.str []),(.int .i64 0),(.bool false),(w8 0#8),(w8 0#8),(w8 0#8),(w8 0#8),(w8 0#8),(w8 0#8),(w8 0#8),(w8 0#8),(w8 0#8),(w8 0#8),(w8 0#8),(w8 0#8),(w8 0#8),(w8 0#8),(w8 0#8),(w8 0#8),(w8 0#8),(w8 0#8),(w8 0#8),(w8 0#8),(w8 0#8),(w8 0#8),(w8 0#8),(w8 0#8),(w8 0#8),(w8 0#8),(w8 0#8),(w8 0#8),(w8 0#8),(w8 0#8),(w8 0#8),(w8 0#8),.nils] (.t 38)⟩])
  (.seq (.region false [⟨none,(some 39),.mov (.t 0)⟩,
    ⟨none,(some 40),.mov (.t 5)⟩,
    ⟨none,(some 41),.slcS 71 (.t 39) none (some (.t 40)) none⟩,
    ⟨none,(some 4),.mov (.t 41)⟩])
  .ret))))))
  ntmps:=42
  res:=[.tmp 4]
theorem zdc4:zsjc P Tryz.f49=some a49:=by kernel_rfl
def a50:AFn where
  code:=(.seq (.region false [⟨none,(some 2),.mov (.k .nils)⟩])
  (.seq (.seq (.region false [⟨none,(some 3),.mov (.t 0)⟩,
    ⟨none,(some 4),.eqn 0 false (.t 3) (.k .nils)⟩])
  (.cond (.t 4) (.seq (.region false [⟨none,(some 2),.mov (.k .nils)⟩])
  .ret)
  .skip))
  (.seq (.region false [⟨none,(some 5),.bsl 71 0 [(.int .i64 0),(.str []),(w8 0#8),(w8 0#8),(w8 0#8),(w8 0#8),(w8 0#8),(w8 0#8),(w8 0#8),(w8 0#8),(w8 0#8),(w8 0#8),(w8 0#8),(w8 0#8),(w8 0#8),(w8 0#8),(w8 0#8),(w8 0#8),(w8 0#8),(w8 0#8),(w8 0#8),(w8 0#8),(w8 0#8),(w8 0#8),(w8 0#8),(w8 0#8),(w8 0#8),(w8 0#8),(w8 0#8),(w8 0#8),(w8 0#8),(w8 0#8),(w8 0#8),(w8 0#8),(.str []),(.str []),(.int .i64 0),(.bool false),(w8 0#8),(w8 0#8),(w8 0#8),(w8 0#8),(w8 0#8),(w8 0#8),(w8 0#8),(w8 0#8),(w8 0#8),(w8 0#8),(w8 0#8),(w8 0#8),(w8 0#8),(w8 0#8),(w8 0#8),(w8 0#8),(w8 0#8),(w8 0#8),(w8 0#8),(w8 0#8),(w8 0#8),(w8 0#8),(w8 0#8),(w8 0#8),(w8 0#8),(w8 0#8),(w8 0#8),(w8 0#8),(w8 0#8),(w8 0#8),(w8 0#8),(w8 0#8),.nils] []⟩,
    ⟨none,(some 6),.mov (.t 0)⟩,
    ⟨none,(some 7),.app 71 160 (.t 5) (.t 6)⟩,
    ⟨none,(some 2),.mov (.t 7)⟩])
  .ret)))
  ntmps:=8
  res:=[.tmp 2]
theorem z12y:zsjc P Tryz.f50=some a50:=by kernel_rfl
def a109:AFn where
  code:=(.seq (.region false [⟨none,(some 4),.mov (.k .nils)⟩,
    ⟨none,(some 5),.mov (.k (.int .i64 0))⟩])
  (.seq (.region false [⟨none,(some 7),.mov (.t 1)⟩,
    ⟨none,(some 8),.call (.k (.fn (.func 50) [] [])) [(.t 7)]⟩,
    ⟨none,(some 9),.call (.k (.fn (.func 49) [] [])) [(.t 8),(.k (.fn (.func 128) [] []))]⟩,
    ⟨none,(some 10),.call (.k (.fn (.func 105) [] [])) [(.t 9)]⟩,
    ⟨none,(some 6),.alloc [.nils]⟩,
    ⟨none,none,.store 1 (.t 6) (.t 10)⟩])
  (.seq (.region false [⟨none,(some 11),.mov (.t 0)⟩,
    ⟨none,(some 12),.call (.k (.fn (.func 105) [] [])) [(.t 11)]⟩,
    ⟨none,(some 13),.mkf (.func 130) [] [(.t 6)]⟩,
    ⟨none,(some 14),.call (.k (.fn (.func 129) [] [])) [(.t 12),(.t 13)]⟩,
    ⟨none,(some 4),.mov (.t 14)⟩])
  (.seq (.region true [⟨none,(some 15),.mov (.t 4)⟩,
    ⟨none,(some 16),.load 1 false (.t 6)⟩,
    ⟨none,(some 17),.len (.t 16)⟩,
    ⟨none,(some 4),.mov (.t 15)⟩,
    ⟨none,(some 5),.mov (.t 17)⟩])
  .ret))))
  ntmps:=18
  res:=[.tmp 4,.tmp 5]
theorem zoj0:zsjc P Tryz.f109=some a109:=by kernel_rfl
def a72:AFn where
  code:=(.seq (.region false [⟨none,(some 5),.box (.t 2)⟩,
    ⟨none,(some 6),.alloc [(.bool false),.nils,(.int .i64 0)]⟩])
  (.seq (.region false [⟨none,(some 11),.mov (.t 0)⟩,
    ⟨none,(some 12),.mov (.t 1)⟩,
    ⟨none,(some 13),.call (.k (.fn (.func 109) [] [])) [(.t 11),(.t 12)]⟩,
    ⟨none,(some 10),.mov (.t 13)⟩,
    ⟨none,(some 14),.ext (.t 10) 0⟩,
    ⟨none,(some 15),.ext (.t 10) 1⟩,
    ⟨none,(some 7),.mov (.t 14)⟩,
    ⟨none,(some 8),.mov (.t 15)⟩])
  (.seq (.region false [⟨none,(some 16),.fld 1 (.t 5)⟩,
    ⟨none,(some 17),.load 1 false (.t 16)⟩,
    ⟨none,(some 18),.mov (.t 7)⟩,
    ⟨none,(some 19),.len (.t 18)⟩,
    ⟨none,(some 20),.bin .sub (.t 17) (.t 19)⟩,
    ⟨none,(some 21),.mm true [(.t 20),(.k (.int .i64 0))]⟩,
    ⟨none,(some 22),.mov (.t 8)⟩,
    ⟨none,(some 23),.fld 2 (.t 5)⟩,
    ⟨none,(some 24),.load 1 false (.t 23)⟩,
    ⟨none,(some 25),.bin .sub (.t 22) (.t 24)⟩,
    ⟨none,(some 26),.mm true [(.t 25),(.k (.int .i64 0))]⟩,
    ⟨none,(some 27),.bin .add (.t 21) (.t 26)⟩,
    ⟨none,(some 9),.mov (.t 27)⟩])
  (.seq (.seq (.region false [⟨none,(some 28),.mov (.t 9)⟩,
    ⟨none,(some 29),.bin .gtr (.t 28) (.k (.int .i64 0))⟩])
  (.cond (.t 29) (.seq (.region false [⟨none,(some 30),.mov (.t 9)⟩,
    ⟨none,(some 31),.call (.k (.fn (.func 106) [] [])) [(.t 30)]⟩,
    ⟨none,none,.store 3 (.t 6) (.t 31)⟩])
  .ret)
  .skip))
  (.seq (.region false [⟨none,(some 32),.mov (.t 0)⟩,
    ⟨none,(some 33),.mov (.t 7)⟩,
    ⟨none,(some 34),.fld 1 (.t 5)⟩,
    ⟨none,(some 35),.load 1 false (.t 34)⟩,
    ⟨none,(some 36),.slcS 1 (.t 33) none (some (.t 35)) none⟩,
    ⟨none,(some 37),.call (.k (.fn (.func 108) [] [])) [(.t 32),(.t 36)]⟩,
    ⟨none,(some 38),.call (.k (.fn (.func 107) [] [])) [(.t 37)]⟩,
    ⟨none,none,.store 3 (.t 6) (.t 38)⟩])
  .ret)))))
  ntmps:=39
  res:=[.cell 6 3 true]
theorem z0xs:zsjc P Tryz.f72=some a72:=by kernel_rfl
def zqxw:ACode :=
  (.seq (.region false [⟨none,(some 15),.bin .lss (.t 14) (.t 13)⟩])
  (.seq (.cond (.t 15) .skip
  (.exit 0))
  (.seq (.block 1 (.seq (.region false [⟨none,(some 16),.idxS 71 (.t 12) (.t 14)⟩,
    ⟨none,(some 17),.load 71 true (.t 16)⟩,
    ⟨none,(some 7),.alloc [(.int .i64 0),(.str []),(w8 0#8),(w8 0#8),(w8 0#8),(w8 0#8),(w8 0#8),(w8 0#8),(w8 0#8),(w8 0#8),(w8 0#8),(w8 0#8),(w8 0#8),(w8 0#8),(w8 0#8),(w8 0#8),(w8 0#8),(w8 0#8),(w8 0#8),(w8 0#8),(w8 0#8),(w8 0#8),(w8 0#8),(w8 0#8),(w8 0#8),(w8 0#8),(w8 0#8),(w8 0#8),(w8 0#8),(w8 0#8),(w8 0#8),(w8 0#8),(w8 0#8),(w8 0#8),(.str []),(.str []),(.int .i64 0),(.bool false),(w8 0#8),(w8 0#8),(w8 0#8),(w8 0#8),(w8 0#8),(w8 0#8),(w8 0#8),(w8 0#8),(w8 0#8),(w8 0#8),(w8 0#8),(w8 0#8),(w8 0#8),(w8 0#8),(w8 0#8),(w8 0#8),(w8 0#8),(w8 0#8),(w8 0#8),(w8 0#8),(w8 0#8),(w8 0#8),(w8 0#8),(w8 0#8),(w8 0#8),(w8 0#8),(w8 0#8),(w8 0#8),(w8 0#8),(w8 0#8),(w8 0#8),(w8 0#8),.nils]⟩,
    ⟨none,none,.store 71 (.t 7) (.t 17)⟩])
  (.region false [⟨none,(some 18),.mov (.t 5)⟩,
    ⟨none,(some 19),.fld 38 (.t 7)⟩,
    ⟨none,(some 20),.load 32 true (.t 19)⟩,
    ⟨none,(some 21),.bsl 32 1 (rep 32 (w8 0#8)) [(0,32,(.t 20))]⟩,
    ⟨none,(some 22),.app 32 32 (.t 18) (.t 21)⟩,
    ⟨none,(some 5),.mov (.t 22)⟩])))
  (.region false [⟨none,(some 23),.bin .add (.t 14) (.k (.int .i64 1))⟩,
    ⟨none,(some 14),.mov (.t 23)⟩]))))
def ziva (x0 x1 x4 x5 x12 x13 x14:DV) (h:List AObj):St:=⟨[x0,x1,.junk,.junk,x4,x5]++js 6++[x12,x13,x14]++js 34,h⟩
def zcf7:ACode :=
  (.seq (.region false [⟨none,(some 30),.bin .lss (.t 29) (.t 28)⟩])
  (.seq (.cond (.t 30) .skip
  (.exit 2))
  (.seq (.block 3 (.seq (.region false [⟨none,(some 31),.idxS 32 (.t 27) (.t 29)⟩,
    ⟨none,(some 32),.load 32 true (.t 31)⟩,
    ⟨none,(some 10),.alloc (rep 32 (w8 0#8))⟩,
    ⟨none,none,.store 32 (.t 10) (.t 32)⟩])
  (.seq (.region false [⟨none,(some 33),.mov (.t 0)⟩,
    ⟨none,(some 34),.mkf (.func 111) [] [(.t 10)]⟩,
    ⟨none,(some 35),.call (.k (.fn (.func 68) [] [])) [(.t 33),(.k (.int .i64 5)),(.t 34)]⟩,
    ⟨none,(some 36),.mov (.t 1)⟩,
    ⟨none,(some 37),.call (.k (.fn (.func 69) [] [])) [(.t 35),(.t 36)]⟩,
    ⟨none,(some 11),.alloc [(.bool false),.nils,(.int .i64 0)]⟩,
    ⟨none,none,.store 3 (.t 11) (.t 37)⟩])
  (.seq (.seq (.region false [⟨none,(some 38),.fld 0 (.t 11)⟩,
    ⟨none,(some 39),.load 1 false (.t 38)⟩])
  (.cond (.t 39) (.seq (.region false [⟨none,(some 40),.load 3 true (.t 11)⟩,
    ⟨none,none,.store 3 (.t 4) (.t 40)⟩])
  .ret)
  .skip))
  (.region false [⟨none,(some 41),.fld 2 (.t 8)⟩,
    ⟨none,(some 42),.load 1 false (.t 41)⟩,
    ⟨none,(some 43),.fld 2 (.t 11)⟩,
    ⟨none,(some 44),.load 1 false (.t 43)⟩,
    ⟨none,(some 45),.mm false [(.t 42),(.t 44)]⟩,
    ⟨none,(some 46),.fld 2 (.t 8)⟩,
    ⟨none,none,.store 1 (.t 46) (.t 45)⟩])))))
  (.region false [⟨none,(some 47),.bin .add (.t 29) (.k (.int .i64 1))⟩,
    ⟨none,(some 29),.mov (.t 47)⟩]))))
def zx7a (x0 x1 x4 x8 x27 x28 x29:DV) (h:List AObj):St:=⟨[x0,x1,.junk,.junk,x4,.junk,.junk,.junk,x8]++js 18++[x27,x28,x29]++js 19,h⟩
def a73:AFn where
  code:=(.seq (.region false [⟨none,(some 4),.alloc [(.bool false),.nils,(.int .i64 0)]⟩])
  (.seq (.region false [⟨none,(some 5),.mov (.k .nils)⟩])
  (.seq (.seq (.region false [⟨none,(some 12),.mov (.t 0)⟩,
    ⟨none,(some 13),.len (.t 12)⟩,
    ⟨none,(some 14),.mov (.k (.int .i64 0))⟩])
  (.block 0 (.loop zqxw)))
  (.seq (.region false [⟨none,(some 24),.mov (.t 1)⟩,
    ⟨none,(some 25),.call (.k (.fn (.func 106) [] [])) [(.t 24)]⟩,
    ⟨none,(some 8),.alloc [(.bool false),.nils,(.int .i64 0)]⟩,
    ⟨none,none,.store 3 (.t 8) (.t 25)⟩])
  (.seq (.seq (.region false [⟨none,(some 26),.mov (.t 5)⟩,
    ⟨none,(some 27),.call (.k (.fn (.func 110) [] [])) [(.t 26)]⟩,
    ⟨none,(some 28),.len (.t 27)⟩,
    ⟨none,(some 29),.mov (.k (.int .i64 0))⟩])
  (.block 2 (.loop zcf7)))
  (.seq (.region false [⟨none,(some 48),.load 3 true (.t 8)⟩,
    ⟨none,none,.store 3 (.t 4) (.t 48)⟩])
  .ret))))))
  ntmps:=49
  res:=[.cell 4 3 true]
theorem zn06:zsjc P Tryz.f73=some a73:=by kernel_rfl
end Go.Proofs.YtdnhbfmlklaldaaGreat
set_option linter.unusedSimpArgs false
set_option linter.unusedVariables false
namespace Go.Proofs.YtdnhbfmlklaldaaGreat
open Go Go.Am
def Sel.fid:Sel→Nat
  | .every=>65
  | .same _=>66
  | .source _=>67
  | .chained _ _=>71
  | .fresh _ _ _=>76
  | .target _=>111
def smF (o:Org):DV := .fn (.func 66) [] [.ref (orC o)]
def Sel.cap:Sel→List DV
  | .every=>[]
  | .same o=>[.ref (orC o)]
  | .source o=>[.ref (orC o)]
  | .chained o q=>[.ref [smF o],.ref (rqC q)]
  | .fresh o c q=>[.ref [smF o],.ref (caC c),.ref (rqC q)]
  | .target d=>[.ref (dgC d)]
def Sel.dv (s:Sel):DV := .fn (.func s.fid) [] s.cap
theorem zogt {a b:Org} (h:smF a=smF b):a=b:=by
  simp only [smF,DV.fn.injEq,List.cons.injEq,DV.ref.injEq,and_true,true_and] at h
  exact zc65 h
theorem Sel.inj : ∀ {a b:Sel},a.fid=b.fid→a.cap=b.cap→a=b:=by
  intro a b h1 h2
  cases a<;>cases b<;>first
    | rfl
    | (simp [Sel.fid] at h1; done)
    | (simp only [Sel.cap,List.cons.injEq,DV.ref.injEq,and_true] at h2; first|rw [zc65 h2]|rw [zib9 h2]|rw [zogt h2.1,z82b h2.2]|rw [zogt h2.1,zejx h2.2.1,z82b h2.2.2])
theorem Sel.dv_inj {a b:Sel} (h:a.dv=b.dv):a=b:=by
  simp only [Sel.dv,DV.fn.injEq,Fn.func.injEq,true_and] at h
  exact Sel.inj h.1 h.2
theorem zdkr (o:Org):zyp8 (smF o)=true:=by simp [smF,zyp8,zbao,ztvh]
theorem zu6j (s:Sel):zbao s.cap=true:=by
  cases s<;>simp [Sel.cap,zbao,zyp8,ztvh,zhqv,zkih,z3ot,zdkr]
theorem z5m1 (s:Sel):zyp8 s.dv=true:=by simp [Sel.dv,zyp8,zbao,zu6j]
theorem z3lz {h:List AObj} {k:Nat} {s:Sel}:z4tt h k s.cap=some s.cap:=z619 (zu6j s)
theorem zi4g {h:List AObj} {k:Nat} {s:Sel}:snap h k s.dv=some s.dv:=z6nl (z5m1 s)
attribute [simp] z3lz zi4g
noncomputable def cSel (k:Nat):List DV→Option DV:=con (fun a:Sel × Fct=>a.1.fid=k) (fun a => .agg (faC a.2)::a.1.cap) (fun a => .bool (a.1.p a.2))
theorem zfuw {s:Sel} {f:Fct}:cSel s.fid (.agg (faC f)::s.cap)=some (.bool (s.p f)) :=
  z400 (a:=(s,f)) (by
    rintro ⟨a,f⟩ ⟨b,g⟩ h1 h2 e
    simp only [List.cons.injEq,DV.agg.injEq] at e
    have h1:a.fid=_:=h1
    have h2:b.fid=_:=h2
    rw [z38a e.1,Sel.inj (h1.trans h2.symm) e.2]) rfl
theorem zssk {k:Nat} (h : ∀ (s:Sel) (f:Fct),s.fid=k→Am.Sem P k (.agg (faC f)::s.cap) (.bool (s.p f))):(Con.pure (cSel k)).Sound P k:=z2au fun a ha=>h a.1 a.2 ha
noncomputable def cOr:List DV→Option DV:=con (fun _=>True) (fun f:Fct=>[.agg (faC f)]) (fun f => .agg (orC (z5z5 f)))
theorem z68y {f:Fct}:cOr [.agg (faC f)]=some (.agg (orC (z5z5 f))):=zsn4 (f:=fun f:Fct=>[.agg (faC f)]) (g:=fun f => .agg (orC (z5z5 f))) (fun a b e=>by simp only [List.cons.injEq,DV.agg.injEq,and_true] at e; exact z38a e) f
theorem zipn (f:Fct):Runs tbl0 a33 [.agg (faC f)] (.agg (orC (z5z5 f))):=by
  refine ⟨?_⟩
  have hor:dgC f.rev++[.str f.lay,.str f.run]=orC (z5z5 f):=rfl
  simp (disch:=first|omega|(simp<;>omega)|fail) [-map_take,-map_drop,-map_set,-map_append,-drop_one,a33,hor]
theorem zcra:(Con.pure cOr).Sound P 33:=z2au fun f _=>zljw mix zr5o Tryz.func33 zojn (zipn f)
noncomputable def cTm:List DV→Option DV
  | [.int .i64 t]=>some (.bool (tmB t))|_=>none
theorem zixp {t:Int}:cTm [.int .i64 t]=some (.bool (tmB t)):=rfl
theorem z4qz (t:Int):Runs tbl0 a77 [.int .i64 t] (.bool (tmB t)):=by
  refine ⟨?_⟩
  by_cases h0:0≤t
  · by_cases h1:t≤1099511627776
    · simp (disch:=first|omega|(simp<;>omega)|fail) [-map_take,-map_drop,-map_set,-map_append,-drop_one,a77,h0,h1,tmB]
    · simp (disch:=first|omega|(simp<;>omega)|fail) [-map_take,-map_drop,-map_set,-map_append,-drop_one,a77,h0,h1,tmB]
  · simp (disch:=first|omega|(simp<;>omega)|fail) [-map_take,-map_drop,-map_set,-map_append,-drop_one,a77,h0,tmB]
theorem zvmx:(Con.pure cTm).Sound P 77:=by
  intro args v e
  unfold cTm at e
  split at e
  · simp at e; subst e; exact zljw mix zr5o Tryz.func77 z20a (z4qz _)
  · simp at e
theorem z71a (f:Fct):Runs tbl0 a65 [.agg (faC f)] (.bool true):=by
  refine ⟨?_⟩
  simp (disch:=first|omega|(simp<;>omega)|fail) [-map_take,-map_drop,-map_set,-map_append,-drop_one,a65]
noncomputable def T550:Tbl:=addT 33 (.pure cOr) tbl0
theorem zz4q:T550 33 = .pure cOr:=by simp [T550]
theorem zc66:T550.Sound P:=z0rp zcra zr5o
theorem z83k (o:Org) (f:Fct):Runs T550 a66 [.agg (faC f),.ref (orC o)] (.bool (decide (z5z5 f=o))):=by
  refine ⟨?_⟩
  simp (disch:=first|omega|(simp<;>omega)|fail) [-map_take,-map_drop,-map_set,-map_append,-drop_one,a66,zz4q,z68y]
theorem zxhc (o:Org) (f:Fct):Runs tbl0 a67 [.agg (faC f),.ref (orC o)] (.bool (decide (f.rev=o.rev))):=by
  refine ⟨?_⟩
  simp (disch:=first|omega|(simp<;>omega)|fail) [-map_take,-map_drop,-map_set,-map_append,-drop_one,a67]
theorem z4ko (d:Dg) (f:Fct):Runs tbl0 a111 [.agg (faC f),.ref (dgC d)] (.bool (decide (f.tgt=d))):=by
  refine ⟨?_⟩
  simp (disch:=first|omega|(simp<;>omega)|fail) [-map_take,-map_drop,-map_set,-map_append,-drop_one,a111]
theorem zgg0:(Con.pure (cSel 66)).Sound P 66:=zssk fun s f h=>by
  cases s<;>first
    | (simp [Sel.fid] at h; done)
    | exact zljw mix zc66 Tryz.func66 z3a6 (z83k _ f)
noncomputable def T551:Tbl:=addT 66 (.pure (cSel 66)) (addT 77 (.pure cTm) tbl0)
theorem z1q3:T551 66 = .pure (cSel 66):=by simp [T551]
theorem zdgz:T551 77 = .pure cTm:=by simp [T551]
theorem zn02:T551.Sound P:=z0rp zgg0 (z0rp zvmx zr5o)
theorem z12p {o:Org} {f:Fct}:cSel 66 [.agg (faC f),.ref (orC o)]=some (.bool (decide (z5z5 f=o))):=zfuw (s := .same o) (f:=f)
theorem zig3 (o:Org) (q:Req) (f:Fct):Runs T551 a71 [.agg (faC f),.ref [smF o],.ref (rqC q)] (.bool ((Sel.chained o q).p f)):=by
  refine ⟨?_⟩
  by_cases h:z5z5 f=o
  · simp (disch:=first|omega|(simp<;>omega)|fail) [-map_take,-map_drop,-map_set,-map_append,-drop_one,a71,smF,z1q3,z12p,h,Sel.p]
  · simp (disch:=first|omega|(simp<;>omega)|fail) [-map_take,-map_drop,-map_set,-map_append,-drop_one,a71,smF,z1q3,z12p,h,Sel.p]
theorem zt2k (o:Org) (c:Cas) (q:Req) (f:Fct):Runs T551 a76 [.agg (faC f),.ref [smF o],.ref (caC c),.ref (rqC q)] (.bool ((Sel.fresh o c q).p f)):=by
  refine ⟨?_⟩
  by_cases h:z5z5 f=o
  case neg=>simp (disch:=first|omega|(simp<;>omega)|fail) [-map_take,-map_drop,-map_set,-map_append,-drop_one,a76,smF,z1q3,z12p,h,Sel.p]
  cases h1:tmB f.at_ with
  | false=>simp (disch:=first|omega|(simp<;>omega)|fail) [-map_take,-map_drop,-map_set,-map_append,-drop_one,a76,smF,z1q3,zdgz,zixp,z12p,h,h1,Sel.p]
  | true =>
  cases h2:tmB c.at_ with
  | false=>simp (disch:=first|omega|(simp<;>omega)|fail) [-map_take,-map_drop,-map_set,-map_append,-drop_one,a76,smF,z1q3,zdgz,zixp,z12p,h,h1,h2,Sel.p]
  | true =>
  by_cases h3:f.at_≤c.at_
  case neg=>simp (disch:=first|omega|(simp<;>omega)|fail) [-map_take,-map_drop,-map_set,-map_append,-drop_one,a76,smF,z1q3,zdgz,zixp,z12p,h,h1,h2,h3,Sel.p]
  have h1':=h1
  have h2':=h2
  simp only [tmB,Bool.and_eq_true,decide_eq_true_eq] at h1' h2'
  have hw:IntKind.i64.wrap (c.at_-f.at_)=c.at_-f.at_:=by rw [IntKind.wrap_i64]; omega
  simp (disch:=first|omega|(simp<;>omega)|fail) [-map_take,-map_drop,-map_set,-map_append,-drop_one,a76,smF,z1q3,zdgz,zixp,z12p,h,h1,h2,h3,hw,Sel.p]
noncomputable def T552:Tbl:=addT 65 (.pure (cSel 65)) (addT 66 (.pure (cSel 66)) (addT 67 (.pure (cSel 67)) (addT 71 (.pure (cSel 71)) (addT 76 (.pure (cSel 76)) (addT 111 (.pure (cSel 111)) tbl0)))))
theorem zdg6 (s:Sel):T552 s.fid = .pure (cSel s.fid):=by cases s<;>simp [T552,Sel.fid]
theorem zxjv:(Con.pure (cSel 65)).Sound P 65:=zssk fun s f h=>by
  cases s<;>first
    | (simp [Sel.fid] at h; done)
    | exact zljw mix zr5o Tryz.func65 zh04 (z71a f)
theorem z60j:(Con.pure (cSel 67)).Sound P 67:=zssk fun s f h=>by
  cases s<;>first
    | (simp [Sel.fid] at h; done)
    | exact zljw mix zr5o Tryz.func67 zy8u (zxhc _ f)
theorem z69l:(Con.pure (cSel 71)).Sound P 71:=zssk fun s f h=>by
  cases s<;>first
    | (simp [Sel.fid] at h; done)
    | exact zljw mix zn02 Tryz.func71 zbtg (zig3 _ _ f)
theorem zlew:(Con.pure (cSel 76)).Sound P 76:=zssk fun s f h=>by
  cases s<;>first
    | (simp [Sel.fid] at h; done)
    | exact zljw mix zn02 Tryz.func76 zqxf (zt2k _ _ _ f)
theorem znq2:(Con.pure (cSel 111)).Sound P 111:=zssk fun s f h=>by
  cases s<;>first
    | (simp [Sel.fid] at h; done)
    | exact zljw mix zr5o Tryz.func111 zmlq (z4ko _ f)
theorem z1e7:T552.Sound P:=z0rp zxjv (z0rp zgg0 (z0rp z60j (z0rp z69l (z0rp zlew (z0rp znq2 zr5o)))))
end Go.Proofs.YtdnhbfmlklaldaaGreat
set_option linter.unusedSimpArgs false
set_option linter.unusedVariables false
namespace Go.Proofs.YtdnhbfmlklaldaaGreat
open Go Go.Am
section
variable {α:Type} {f:α→List DV} {K:Nat}
def gV (K:Nat) (l:List α):DV:=if l=[] then .nils else .ms 1 (l.length*K) 0 K l.length (l.length*K)
def gH (f:α→List DV) (o:AObj) (l:List α):List AObj:=if l=[] then [] else [o,.cells (fl f l)]
theorem zq1z:gV K ([]:List α) = .nils:=rfl
theorem z1yk {o:AObj}:gH f o []=[]:=rfl
theorem z6zt {l:List α} (h:l≠[]):gV K l = .ms 1 (l.length*K) 0 K l.length (l.length*K):=if_neg h
theorem zju3 {o:AObj} {l:List α} (h:l≠[]):gH f o l=[o,.cells (fl f l)]:=if_neg h
theorem zjyf {l:List α} {x:α}:gV K (l++[x]) = .ms 1 ((l.length+1)*K) 0 K (l.length+1) ((l.length+1)*K):=by rw [z6zt (by simp),List.length_append]; rfl
theorem zddm {o:AObj} {l:List α} {x:α}:gH f o (l++[x])=[o,.cells (fl f (l++[x]))]:=zju3 (by simp)
theorem zkaf {l m:List α}:fl f (l++m)=fl f l++fl f m:=by unfold fl; exact List.flatMap_append ..
theorem z4hs {x:α}:fl f [x]=f x:=by unfold fl; simp
theorem zvrp {h:List AObj} {id b m:Nat} {l:List α} {cs:List α} (hu : ∀ a,(f a).length=K) (h0:0<K) (hb:b≤16384) (ha : ∀ a,(f a).all DV.one=true) (hm:cs.length=m) (hbig:l.length+m≤4294967296) (ho:objV h id (l.length*K)=some (fl f l)) :
    appX h K b (.ms id (l.length*K) 0 K l.length (l.length*K)) m (cs.flatMap f)=some (.ms id ((l.length+m)*K) 0 K (l.length+m) ((l.length+m)*K),h.set id (.cells (fl f (l++cs)))):=by
  have hc:(cs.flatMap f).length=m*K:=by rw [z1rq hu,hm]
  rw [zbho rfl hb h0 (by rw [hc]) hbig (z9jy ha cs),ho,Option.map_some,hc,← Nat.add_mul,zkaf]
  rfl
theorem zkg3 {h:List AObj} {id b:Nat} {l:List α} {x:α} (hu : ∀ a,(f a).length=K) (h0:0<K) (hb:b≤16384) (ha : ∀ a,(f a).all DV.one=true) (hbig:l.length+1≤4294967296) (ho:objV h id (l.length*K)=some (fl f l)) :
    appX h K b (.ms id (l.length*K) 0 K l.length (l.length*K)) 1 (f x)=some (.ms id ((l.length+1)*K) 0 K (l.length+1) ((l.length+1)*K),h.set id (.cells (fl f (l++[x])))):=by
  have:=zvrp (m:=1) (cs:=[x]) hu h0 hb ha rfl hbig ho
  rwa [show [x].flatMap f=f x by simp] at this
theorem znhj {o:AObj} {l:List α} {X:List AObj} (hu : ∀ a,(f a).length=K) (hp : ∀ a,zbao (f a)=true) (hb:l.length≤4294967296):snap (gH f o l++X) 3 (gV K l)=some ((ownN l).dv K f):=by
  by_cases e:l=[]
  · subst e; rw [z2i7]; rfl
  · rw [z6zt e,zju3 e,zgr3 e hb,zve7]
    have ho:objV ([o,.cells (fl f l)]++X) 1 (l.length*K)=some (fl f l):=by simp [objV,ziu0,z8lx hu]
    rw [ho,Option.bind_some,List.drop_zero,z590 hu,List.take_length,z619 (zp6k hp _)]
    rfl
end
theorem zuk9 {α:Type} {f:α→List DV} {K:Nat} {o:AObj} {l:List α}:Am.below (gH f o l).length (gV K l)=true:=by
  by_cases e:l=[]
  · subst e; rfl
  · rw [z6zt e,zju3 e]; rfl
theorem z5x4 {α:Type} {f:α→List DV} {c:List DV} {l:List α} {n:Nat} (hp : ∀ a,zbao (f a)=true) (hc:zbao c=true):zlf2 n (gH f (.cells c) l)=true:=by
  by_cases e:l=[]
  · subst e; rfl
  · rw [zju3 e]; simp only [zlf2,Bool.and_eq_true]; exact ⟨zmq5 n _ hc,zmq5 n _ (zp6k hp l),trivial⟩
theorem zglh {n:Nat} {s:Sel}:z1r6 n s.cap=true:=zmq5 n _ (zu6j s)
def fct0:Fct:=⟨0,[],dg0,[],[],0,false,dg0,nilS⟩
structure FP where
  i:Nat
  o:Fct
theorem zkkm {l:List Fct} {k:Int} {s:Sel} {i:Nat} (h:i<l.length):zskr (l.take (i+1)) k s=zskr (l.take i) k s++(if decide (l[i].kind=k)&&s.p l[i] then [l[i]] else []):=by
  rw [List.take_succ_eq_append_getElem h,zskr,List.filter_append,← zskr]
  congr 1
  by_cases e:(decide (l[i].kind=k)&&s.p l[i])=true<;>simp [e]
def S553 (x:Sl Fct) (k:Int) (s:Sel) (a:FP):St:=zd78 (.int .i64 k) s.dv (gV 71 (zskr (x.l.take a.i) k s)) (x.dv 71 faC) (.int .i64 x.l.length) (.int .i64 a.i) (gH faC (.cells (faC a.o)) (zskr (x.l.take a.i) k s))
set_option maxRecDepth 20000 in
theorem z6au (x:Sl Fct) (k:Int) (s:Sel):Runs T552 a68 [x.dv 71 faC,.int .i64 k,s.dv] ((ownN (zskr x.l k s)).dv 71 faC):=by
  refine ⟨?_⟩
  have hb:=x.b
  simp (disch:=first|omega|(simp<;>omega)|fail) [-map_take,-map_drop,-map_set,-map_append,-drop_one,a68]
  refine zlm5 (S553 x k s) (fun a=>x.l.length-a.i) (fun a=>a.i≤x.l.length) ⟨0,fct0⟩ (z515 (by simp (disch:=first|omega|(simp<;>omega)|fail) [-map_take,-map_drop,-map_set,-map_append,-drop_one,S553,zd78,zskr,gV]) (by simp (disch:=first|omega|(simp<;>omega)|fail) [-map_take,-map_drop,-map_set,-map_append,-drop_one,S553,zd78,zskr,gH])) (by simp) (fun a hi => ?_)
  obtain ⟨i,o⟩:=a
  simp only at hi
  have hlen:(zskr (x.l.take i) k s).length≤i:=by have:=List.length_filter_le (fun f=>decide (f.kind=k)&&s.p f) (x.l.take i); rw [List.length_take] at this; unfold zskr; omega
  simp only [S553]
  obtain ⟨L,hL⟩ : ∃ L,zskr (x.l.take i) k s=L:=⟨_,rfl⟩
  rw [hL] at hlen ⊢
  by_cases h:i<x.l.length
  · have h':(i:Int)<x.l.length:=by omega
    have hg : ∀ H,zpsc H 71 (x.dv 71 faC) i=some (.ref (faC x.l[i])):=fun H=>zalo zs77 h
    have hn:=zkkm (k:=k) (s:=s) h
    rw [hL] at hn
    obtain ⟨f,hf⟩ : ∃ f,x.l[i]=f:=⟨_,rfl⟩
    rw [hf] at hn hg
    have hcs:=zfuw (s:=s) (f:=f)
    by_cases hk:f.kind=k
    case neg =>
      have hn':zskr (x.l.take (i+1)) k s=L:=by rw [hn]; simp [hk]
      simp (disch:=first|omega|(simp<;>omega)|fail) [-map_take,-map_drop,-map_set,-map_append,-drop_one,z0bm,zd78,h,h',hg,hk]
      exact ⟨⟨i+1,o⟩,zju2 (tail:=[.cells (faC f)]) (by simp (disch:=first|omega|(simp<;>omega)|fail) [-map_take,-map_drop,-map_set,-map_append,-drop_one,S553,zd78,hn',Sel.dv]) (by simp (disch:=first|omega|(simp<;>omega)|fail) [-map_take,-map_drop,-map_set,-map_append,-drop_one,S553,zd78,hn']) (Nat.zero_le _) (by simp (disch:=first|omega|(simp<;>omega)|fail) [-map_take,-map_drop,-map_set,-map_append,-drop_one,S553,zd78,hn',z1r6,Am.below,zuk9,Sel.dv,zglh]) (by simp only [S553,zd78,hn']; exact z5x4 z93p (z93p _)),by simp only; omega,by simp only; omega⟩
    case pos =>
    cases hs:s.p f with
    | false =>
      have hn':zskr (x.l.take (i+1)) k s=L:=by rw [hn]; simp [hk,hs]
      simp (disch:=first|omega|(simp<;>omega)|fail) [-map_take,-map_drop,-map_set,-map_append,-drop_one,z0bm,zd78,h,h',hg,hk,Sel.dv,zdg6,hcs,hs]
      exact ⟨⟨i+1,o⟩,zju2 (tail:=[.cells (faC f)]) (by simp (disch:=first|omega|(simp<;>omega)|fail) [-map_take,-map_drop,-map_set,-map_append,-drop_one,S553,zd78,hn',Sel.dv]) (by simp (disch:=first|omega|(simp<;>omega)|fail) [-map_take,-map_drop,-map_set,-map_append,-drop_one,S553,zd78,hn']) (Nat.zero_le _) (by simp (disch:=first|omega|(simp<;>omega)|fail) [-map_take,-map_drop,-map_set,-map_append,-drop_one,S553,zd78,hn',z1r6,Am.below,zuk9,Sel.dv,zglh]) (by simp only [S553,zd78,hn']; exact z5x4 z93p (z93p _)),by simp only; omega,by simp only; omega⟩
    | true =>
      have hn':zskr (x.l.take (i+1)) k s=L++[f]:=by rw [hn]; simp [hk,hs]
      have hsn:zskr (x.l.take (i+1)) k s=L++[f]:=hn'
      by_cases e:L=[]
      · subst e
        have hap:=zsuq (h:=[AObj.cells (faC f)]) (s:=71) (b:=160) (m:=1) (cs:=faC f) (by decide) (by decide) (by rw [zs77]) (by decide) (by decide)
        simp only [zs77,List.length_cons,List.length_nil] at hap
        simp (disch:=first|omega|(simp<;>omega)|fail) [-map_take,-map_drop,-map_set,-map_append,-drop_one,z0bm,zd78,h,h',hg,hk,Sel.dv,zdg6,hcs,hs,zq1z,z1yk,hap]
        rw [List.nil_append] at hn'
        have e1:gV 71 [f] = .ms 1 71 0 71 1 71:=rfl
        have e2:gH faC (.cells (faC f)) [f]=[.cells (faC f),.cells (faC f)]:=by rw [zju3 (by simp),z4hs]
        exact ⟨⟨i+1,f⟩,z515 (by simp (disch:=first|omega|(simp<;>omega)|fail) [-map_take,-map_drop,-map_set,-map_append,-drop_one,S553,zd78,hn',e1,Sel.dv]) (by simp (disch:=first|omega|(simp<;>omega)|fail) [-map_take,-map_drop,-map_set,-map_append,-drop_one,S553,zd78,hn',e2]),by simp only; omega,by simp only; omega⟩
      · have hap:=zkg3 (h:=[AObj.cells (faC o),.cells (fl faC L),.cells (faC f)]) (id:=1) (b:=160) (l:=L) (x:=f) zs77 (by decide) (by decide) (fun _=>zfgo) (by omega) (by simp [objV,ziu0,z8lx zs77])
        simp (disch:=first|omega|(simp<;>omega)|fail) [-map_take,-map_drop,-map_set,-map_append,-drop_one,z0bm,zd78,h,h',hg,hk,Sel.dv,zdg6,hcs,hs,z6zt e,zju3 e,hap]
        have e1:=zjyf (K:=71) (l:=L) (x:=f)
        have e2:=zddm (f:=faC) (o := .cells (faC o)) (l:=L) (x:=f)
        exact ⟨⟨i+1,o⟩,zju2 (tail:=[.cells (faC f)]) (by simp (disch:=first|omega|(simp<;>omega)|fail) [-map_take,-map_drop,-map_set,-map_append,-drop_one,S553,zd78,hn',e1,Sel.dv]) (by simp (disch:=first|omega|(simp<;>omega)|fail) [-map_take,-map_drop,-map_set,-map_append,-drop_one,S553,zd78,hn',e2]) (Nat.zero_le _) (by simp (disch:=first|omega|(simp<;>omega)|fail) [-map_take,-map_drop,-map_set,-map_append,-drop_one,S553,zd78,hn',z1r6,Am.below,e1,e2,Sel.dv,zglh]) (by simp only [S553,zd78,hn']; exact z5x4 z93p (z93p _)),by simp only; omega,by simp only; omega⟩
  · have h':¬ (i:Int)<x.l.length:=by omega
    have ht:x.l.take i=x.l:=List.take_of_length_le (by omega)
    have hsn:=znhj (o := .cells (faC o)) (l:=L) (X:=[]) zs77 z93p (by omega)
    rw [List.append_nil] at hsn
    rw [ht] at hL
    simp (disch:=first|omega|(simp<;>omega)|fail) [-map_take,-map_drop,-map_set,-map_append,-drop_one,z0bm,zd78,h,h',hL,hsn]
noncomputable def cFct:List DV→Option DV:=con (fun _=>True) (fun a:Sl Fct × Int × Sel=>[a.1.dv 71 faC,.int .i64 a.2.1,a.2.2.dv]) (fun a=>(ownN (zskr a.1.l a.2.1 a.2.2)).dv 71 faC)
theorem zek8 {x:Sl Fct} {k:Int} {s:Sel}:cFct [x.dv 71 faC,.int .i64 k,s.dv]=some ((ownN (zskr x.l k s)).dv 71 faC) :=
  zsn4 (f:=fun a:Sl Fct × Int × Sel=>[a.1.dv 71 faC,.int .i64 a.2.1,a.2.2.dv]) (g:=fun a=>(ownN (zskr a.1.l a.2.1 a.2.2)).dv 71 faC) (by
    rintro ⟨a,b,c⟩ ⟨d,e,f⟩ q
    simp only [List.cons.injEq,DV.int.injEq,and_true,true_and] at q
    rw [z4rf q.1,q.2.1,Sel.dv_inj q.2.2]) (x,k,s)
theorem zbp8:(Con.pure cFct).Sound P 68:=z2au fun a _=>zljw mix z1e7 Tryz.func68 z20i (z6au a.1 a.2.1 a.2.2)
end Go.Proofs.YtdnhbfmlklaldaaGreat
set_option linter.unusedSimpArgs false
set_option linter.unusedVariables false
namespace Go.Proofs.YtdnhbfmlklaldaaGreat
open Go Go.Am
def zlq3:ACode :=
  (.seq (.region false [⟨none,(some 11),.bin .lss (.t 10) (.t 9)⟩])
  (.seq (.cond (.t 11) .skip
  (.exit 0))
  (.seq (.block 1 (.seq (.region false [⟨none,(some 12),.idxS 39 (.t 8) (.t 10)⟩,
    ⟨none,(some 13),.load 39 true (.t 12)⟩,
    ⟨none,(some 7),.alloc [(w8 0#8),(w8 0#8),(w8 0#8),(w8 0#8),(w8 0#8),(w8 0#8),(w8 0#8),(w8 0#8),(w8 0#8),(w8 0#8),(w8 0#8),(w8 0#8),(w8 0#8),(w8 0#8),(w8 0#8),(w8 0#8),(w8 0#8),(w8 0#8),(w8 0#8),(w8 0#8),(w8 0#8),(w8 0#8),(w8 0#8),(w8 0#8),(w8 0#8),(w8 0#8),(w8 0#8),(w8 0#8),(w8 0#8),(w8 0#8),(w8 0#8),(w8 0#8),(.int .i64 0),(.str []),(.int .i64 0),.nils,(.int .i64 0),.nils,(.bool false)]⟩,
    ⟨none,none,.store 39 (.t 7) (.t 13)⟩])
  (.seq (.region false [⟨none,(some 14),.fld 32 (.t 7)⟩,
    ⟨none,(some 15),.fld 2 (.t 14)⟩,
    ⟨none,(some 16),.load 1 false (.t 15)⟩,
    ⟨none,(some 17),.mov (.t 1)⟩,
    ⟨none,(some 18),.bin .geq (.t 16) (.t 17)⟩])
  (.cond (.t 18) (.region false [⟨none,(some 19),.mov (.t 5)⟩,
    ⟨none,(some 20),.fld 36 (.t 7)⟩,
    ⟨none,(some 21),.fld 1 (.t 20)⟩,
    ⟨none,(some 22),.load 1 false (.t 21)⟩,
    ⟨none,(some 23),.app 32 32 (.t 19) (.t 22)⟩,
    ⟨none,(some 5),.mov (.t 23)⟩])
  .skip))))
  (.region false [⟨none,(some 24),.bin .add (.t 10) (.k (.int .i64 1))⟩,
    ⟨none,(some 10),.mov (.t 24)⟩]))))
def zzv7 (x1 x5 x8 x9 x10:DV) (h:List AObj):St:=⟨[.junk,x1,.junk,.junk,.junk,x5,.junk,.junk,x8,x9,x10]++js 15,h⟩
def a48:AFn where
  code:=(.seq (.region false [⟨none,(some 4),.mov (.k .nils)⟩])
  (.seq (.region false [⟨none,(some 5),.mov (.k .nils)⟩])
  (.seq (.seq (.region false [⟨none,(some 8),.mov (.t 0)⟩,
    ⟨none,(some 9),.len (.t 8)⟩,
    ⟨none,(some 10),.mov (.k (.int .i64 0))⟩])
  (.block 0 (.loop zlq3)))
  (.seq (.region false [⟨none,(some 25),.mov (.t 5)⟩,
    ⟨none,(some 4),.mov (.t 25)⟩])
  .ret))))
  ntmps:=26
  res:=[.tmp 4]
theorem zwi2:zsjc P Tryz.f48=some a48:=by kernel_rfl
def a113:AFn where
  code:=(.seq (.region false [⟨none,(some 1),.box (.t 0)⟩,
    ⟨none,(some 2),.mov (.k (.bool false))⟩])
  (.seq (.region false [⟨none,(some 3),.fld 36 (.t 1)⟩,
    ⟨none,(some 4),.fld 0 (.t 3)⟩,
    ⟨none,(some 5),.load 1 false (.t 4)⟩,
    ⟨none,(some 6),.bin .eql (.t 5) (.k (.int .i64 3))⟩,
    ⟨none,(some 7),.mov (.t 6)⟩,
    ⟨(some (7,false)),(some 8),.fld 36 (.t 1)⟩,
    ⟨(some (7,false)),(some 9),.fld 0 (.t 8)⟩,
    ⟨(some (7,false)),(some 10),.load 1 false (.t 9)⟩,
    ⟨(some (7,false)),(some 11),.bin .eql (.t 10) (.k (.int .i64 4))⟩,
    ⟨none,(some 12),.pick (.t 7) (.k (.bool true)) (.t 11)⟩,
    ⟨none,(some 2),.mov (.t 12)⟩])
  .ret))
  ntmps:=13
  res:=[.tmp 2]
theorem zz1e:zsjc P Tryz.f113=some a113:=by kernel_rfl
def zjzl:ACode :=
  (.seq (.region false [⟨none,(some 11),.bin .lss (.t 10) (.t 9)⟩])
  (.seq (.cond (.t 11) .skip
  (.exit 0))
  (.seq (.block 1 (.seq (.region false [⟨none,(some 12),.idxS 39 (.t 8) (.t 10)⟩,
    ⟨none,(some 13),.load 39 true (.t 12)⟩,
    ⟨none,(some 7),.alloc [(w8 0#8),(w8 0#8),(w8 0#8),(w8 0#8),(w8 0#8),(w8 0#8),(w8 0#8),(w8 0#8),(w8 0#8),(w8 0#8),(w8 0#8),(w8 0#8),(w8 0#8),(w8 0#8),(w8 0#8),(w8 0#8),(w8 0#8),(w8 0#8),(w8 0#8),(w8 0#8),(w8 0#8),(w8 0#8),(w8 0#8),(w8 0#8),(w8 0#8),(w8 0#8),(w8 0#8),(w8 0#8),(w8 0#8),(w8 0#8),(w8 0#8),(w8 0#8),(.int .i64 0),(.str []),(.int .i64 0),.nils,(.int .i64 0),.nils,(.bool false)]⟩,
    ⟨none,none,.store 39 (.t 7) (.t 13)⟩])
  (.seq (.region false [⟨none,(some 14),.load 39 true (.t 7)⟩,
    ⟨none,(some 15),.call (.k (.fn (.func 113) [] [])) [(.t 14)]⟩,
    ⟨none,(some 16),.mov (.t 15)⟩,
    ⟨(some (16,true)),(some 17),.fld 32 (.t 7)⟩,
    ⟨(some (16,true)),(some 18),.fld 2 (.t 17)⟩,
    ⟨(some (16,true)),(some 19),.load 1 false (.t 18)⟩,
    ⟨(some (16,true)),(some 20),.mov (.t 1)⟩,
    ⟨(some (16,true)),(some 21),.bin .geq (.t 19) (.t 20)⟩,
    ⟨none,(some 22),.pick (.t 16) (.t 21) (.k (.bool false))⟩])
  (.cond (.t 22) (.seq (.region true [⟨none,(some 23),.fld 32 (.t 7)⟩,
    ⟨none,(some 24),.fld 3 (.t 23)⟩,
    ⟨none,(some 25),.load 1 false (.t 24)⟩,
    ⟨none,(some 27),.fld 36 (.t 7)⟩,
    ⟨none,(some 28),.fld 1 (.t 27)⟩,
    ⟨none,(some 29),.load 1 false (.t 28)⟩,
    ⟨none,(some 26),.callN (.k (.fn (.func 114) [] [])) [(.t 25)]⟩,
    ⟨none,(some 31),.fld 32 (.t 7)⟩,
    ⟨none,(some 32),.fld 3 (.t 31)⟩,
    ⟨none,(some 30),.callN (.k (.fn (.func 114) [] [])) [(.t 29)]⟩,
    ⟨none,none,.store 1 (.t 32) (.t 26)⟩,
    ⟨none,(some 33),.fld 36 (.t 7)⟩,
    ⟨none,(some 34),.fld 1 (.t 33)⟩,
    ⟨none,none,.store 1 (.t 34) (.t 30)⟩])
  (.region false [⟨none,(some 35),.mov (.t 5)⟩,
    ⟨none,(some 36),.load 39 true (.t 7)⟩,
    ⟨none,(some 37),.bsl 39 1 [(w8 0#8),(w8 0#8),(w8 0#8),(w8 0#8),(w8 0#8),(w8 0#8),(w8 0#8),(w8 0#8),(w8 0#8),(w8 0#8),(w8 0#8),(w8 0#8),(w8 0#8),(w8 0#8),(w8 0#8),(w8 0#8),(w8 0#8),(w8 0#8),(w8 0#8),(w8 0#8),(w8 0#8),(w8 0#8),(w8 0#8),(w8 0#8),(w8 0#8),(w8 0#8),(w8 0#8),(w8 0#8),(w8 0#8),(w8 0#8),(w8 0#8),(w8 0#8),(.int .i64 0),(.str []),(.int .i64 0),.nils,(.int .i64 0),.nils,(.bool false)] [(0,39,(.t 36))]⟩,
    ⟨none,(some 38),.app 39 128 (.t 35) (.t 37)⟩,
    ⟨none,(some 5),.mov (.t 38)⟩]))
  .skip))))
  (.region false [⟨none,(some 39),.bin .add (.t 10) (.k (.int .i64 1))⟩,
    ⟨none,(some 10),.mov (.t 39)⟩]))))
def zu12 (x1 x5 x8 x9 x10:DV) (h:List AObj):St:=⟨[.junk,x1,.junk,.junk,.junk,x5,.junk,.junk,x8,x9,x10]++js 30,h⟩
def a75:AFn where
  code:=(.seq (.region false [⟨none,(some 4),.mov (.k .nils)⟩])
  (.seq (.region false [⟨none,(some 5),.mov (.k .nils)⟩])
  (.seq (.seq (.region false [⟨none,(some 8),.mov (.t 0)⟩,
    ⟨none,(some 9),.len (.t 8)⟩,
    ⟨none,(some 10),.mov (.k (.int .i64 0))⟩])
  (.block 0 (.loop zjzl)))
  (.seq (.region false [⟨none,(some 40),.mov (.t 5)⟩,
    ⟨none,(some 4),.mov (.t 40)⟩])
  .ret))))
  ntmps:=41
  res:=[.tmp 4]
theorem zrvd:zsjc P Tryz.f75=some a75:=by kernel_rfl
def a74:AFn where
  code:=(.seq (.region false [⟨none,(some 6),.alloc [(.bool false),.nils,(.int .i64 0)]⟩])
  (.seq (.block 0 (.seq (.region false [⟨none,(some 8),.mov (.t 0)⟩,
    ⟨none,(some 9),.len (.t 8)⟩,
    ⟨none,(some 10),.bin .eql (.t 9) (.k (.int .i64 0))⟩,
    ⟨none,(some 7),.mov (.t 10)⟩])
  (.cond (.t 7) (.seq (.region false [⟨none,(some 11),.call (.k (.fn (.func 106) [] [])) [(.k (.int .i64 1))]⟩,
    ⟨none,none,.store 3 (.t 6) (.t 11)⟩])
  .ret)
  (.seq (.region false [⟨none,(some 13),.mov (.t 1)⟩,
    ⟨none,(some 14),.bin .gtr (.t 13) (.k (.int .i64 0))⟩,
    ⟨none,(some 12),.mov (.t 14)⟩])
  (.cond (.t 12) (.seq (.region false [⟨none,(some 15),.mov (.t 1)⟩,
    ⟨none,(some 16),.call (.k (.fn (.func 106) [] [])) [(.t 15)]⟩,
    ⟨none,none,.store 3 (.t 6) (.t 16)⟩])
  .ret)
  .skip)))))
  (.seq (.region false [⟨none,(some 17),.mov (.t 0)⟩,
    ⟨none,(some 18),.idxS 71 (.t 17) (.k (.int .i64 0))⟩,
    ⟨none,(some 19),.fld 70 (.t 18)⟩,
    ⟨none,(some 20),.load 1 false (.t 19)⟩,
    ⟨none,(some 21),.mov (.t 2)⟩,
    ⟨none,(some 22),.bsl 1 2 [.nils] [(0,1,(.t 20)),(1,1,(.t 21))]⟩,
    ⟨none,(some 23),.call (.k (.fn (.func 112) [] [])) [(.t 22)]⟩,
    ⟨none,(some 24),.call (.k (.fn (.func 107) [] [])) [(.t 23)]⟩,
    ⟨none,none,.store 3 (.t 6) (.t 24)⟩])
  .ret)))
  ntmps:=25
  res:=[.cell 6 3 true]
theorem z26r:zsjc P Tryz.f74=some a74:=by kernel_rfl
def zoac:ACode :=
  (.seq (.region false [⟨none,(some 9),.bin .lss (.t 8) (.t 7)⟩])
  (.seq (.cond (.t 9) .skip
  (.exit 0))
  (.seq (.block 1 (.seq (.region false [⟨none,(some 10),.idxS 39 (.t 6) (.t 8)⟩,
    ⟨none,(some 11),.load 39 true (.t 10)⟩,
    ⟨none,(some 5),.alloc [(w8 0#8),(w8 0#8),(w8 0#8),(w8 0#8),(w8 0#8),(w8 0#8),(w8 0#8),(w8 0#8),(w8 0#8),(w8 0#8),(w8 0#8),(w8 0#8),(w8 0#8),(w8 0#8),(w8 0#8),(w8 0#8),(w8 0#8),(w8 0#8),(w8 0#8),(w8 0#8),(w8 0#8),(w8 0#8),(w8 0#8),(w8 0#8),(w8 0#8),(w8 0#8),(w8 0#8),(w8 0#8),(w8 0#8),(w8 0#8),(w8 0#8),(w8 0#8),(.int .i64 0),(.str []),(.int .i64 0),.nils,(.int .i64 0),.nils,(.bool false)]⟩,
    ⟨none,none,.store 39 (.t 5) (.t 11)⟩])
  (.seq (.region false [⟨none,(some 12),.fld 36 (.t 5)⟩,
    ⟨none,(some 13),.fld 2 (.t 12)⟩,
    ⟨none,(some 14),.load 1 false (.t 13)⟩])
  (.cond (.t 14) (.region false [⟨none,(some 15),.mov (.t 3)⟩,
    ⟨none,(some 16),.bin .add (.t 15) (.k (.int .i64 1))⟩,
    ⟨none,(some 3),.mov (.t 16)⟩])
  .skip))))
  (.region false [⟨none,(some 17),.bin .add (.t 8) (.k (.int .i64 1))⟩,
    ⟨none,(some 8),.mov (.t 17)⟩]))))
def zcu8 (x3 x6 x7 x8:DV) (h:List AObj):St:=⟨[.junk,.junk,.junk,x3,.junk,.junk,x6,x7,x8]++js 10,h⟩
def a78:AFn where
  code:=(.seq (.region false [⟨none,(some 2),.mov (.k (.int .i64 0))⟩])
  (.seq (.region false [⟨none,(some 3),.mov (.k (.int .i64 0))⟩])
  (.seq (.seq (.region false [⟨none,(some 6),.mov (.t 0)⟩,
    ⟨none,(some 7),.len (.t 6)⟩,
    ⟨none,(some 8),.mov (.k (.int .i64 0))⟩])
  (.block 0 (.loop zoac)))
  (.seq (.region false [⟨none,(some 18),.mov (.t 3)⟩,
    ⟨none,(some 2),.mov (.t 18)⟩])
  .ret))))
  ntmps:=19
  res:=[.tmp 2]
theorem zetr:zsjc P Tryz.f78=some a78:=by kernel_rfl
def a138:AFn where
  code:=(.seq (.region false [⟨none,(some 6),.mov (.k (.bool false))⟩])
  (.seq (.region false [⟨none,(some 7),.mov (.t 1)⟩,
    ⟨none,(some 8),.mov (.t 0)⟩,
    ⟨none,(some 9),.bin .leq (.t 7) (.t 8)⟩,
    ⟨none,(some 10),.mov (.t 9)⟩,
    ⟨(some (10,true)),(some 11),.mov (.t 0)⟩,
    ⟨(some (10,true)),(some 12),.mov (.t 2)⟩,
    ⟨(some (10,true)),(some 13),.bin .leq (.t 11) (.t 12)⟩,
    ⟨none,(some 14),.pick (.t 10) (.t 13) (.k (.bool false))⟩,
    ⟨none,(some 6),.mov (.t 14)⟩])
  .ret))
  ntmps:=15
  res:=[.tmp 6]
theorem zno0:zsjc P Tryz.f138=some a138:=by kernel_rfl
def z9lx:ACode :=
  (.seq (.seq (.region false [⟨none,(some 13),.mov (.t 3)⟩,
    ⟨none,(some 14),.mov (.t 0)⟩,
    ⟨none,(some 15),.lenStr (.t 14)⟩,
    ⟨none,(some 16),.bin .lss (.t 13) (.t 15)⟩])
  (.cond (.t 16) .skip
  (.exit 0)))
  (.seq (.block 1 (.seq (.region false [⟨none,(some 19),.mov (.t 0)⟩,
    ⟨none,(some 20),.mov (.t 3)⟩,
    ⟨none,(some 21),.idxStr (.t 19) (.t 20)⟩,
    ⟨none,(some 4),.mov (.t 21)⟩])
  (.seq (.seq (.region false [⟨none,(some 22),.mov (.t 4)⟩,
    ⟨none,(some 23),.bin .geq (.t 22) (.k (w8 97#8))⟩,
    ⟨none,(some 24),.mov (.t 23)⟩,
    ⟨(some (24,true)),(some 25),.mov (.t 4)⟩,
    ⟨(some (24,true)),(some 26),.bin .leq (.t 25) (.k (w8 122#8))⟩,
    ⟨none,(some 27),.pick (.t 24) (.t 26) (.k (.bool false))⟩,
    ⟨none,(some 28),.mov (.t 27)⟩,
    ⟨(some (28,false)),(some 29),.mov (.t 4)⟩,
    ⟨(some (28,false)),(some 30),.bin .geq (.t 29) (.k (w8 48#8))⟩,
    ⟨(some (28,false)),(some 31),.mov (.t 30)⟩,
    ⟨(some (31,true)),(some 32),.mov (.t 4)⟩,
    ⟨(some (31,true)),(some 33),.bin .leq (.t 32) (.k (w8 57#8))⟩,
    ⟨(some (28,false)),(some 34),.pick (.t 31) (.t 33) (.k (.bool false))⟩,
    ⟨none,(some 35),.pick (.t 28) (.k (.bool true)) (.t 34)⟩,
    ⟨none,(some 36),.mov (.t 35)⟩,
    ⟨(some (36,false)),(some 37),.mov (.t 3)⟩,
    ⟨(some (36,false)),(some 38),.bin .gtr (.t 37) (.k (.int .i64 0))⟩,
    ⟨(some (36,false)),(some 39),.mov (.t 38)⟩,
    ⟨(some (39,true)),(some 40),.mov (.t 4)⟩,
    ⟨(some (39,true)),(some 41),.bin .eql (.t 40) (.k (w8 46#8))⟩,
    ⟨(some (39,true)),(some 42),.mov (.t 41)⟩,
    ⟨(some (42,false)),(some 43),.mov (.t 4)⟩,
    ⟨(some (42,false)),(some 44),.bin .eql (.t 43) (.k (w8 95#8))⟩,
    ⟨(some (39,true)),(some 45),.pick (.t 42) (.k (.bool true)) (.t 44)⟩,
    ⟨(some (39,true)),(some 46),.mov (.t 45)⟩,
    ⟨(some (46,false)),(some 47),.mov (.t 4)⟩,
    ⟨(some (46,false)),(some 48),.bin .eql (.t 47) (.k (w8 45#8))⟩,
    ⟨(some (39,true)),(some 49),.pick (.t 46) (.k (.bool true)) (.t 48)⟩,
    ⟨(some (36,false)),(some 50),.pick (.t 39) (.t 49) (.k (.bool false))⟩,
    ⟨none,(some 51),.pick (.t 36) (.k (.bool true)) (.t 50)⟩])
  (.cond (.t 51) (.exit 1)
  .skip))
  (.seq (.region false [⟨none,(some 2),.mov (.k (.bool false))⟩])
  .ret))))
  (.region false [⟨none,(some 17),.mov (.t 3)⟩,
    ⟨none,(some 18),.bin .add (.t 17) (.k (.int .i64 1))⟩,
    ⟨none,(some 3),.mov (.t 18)⟩])))
def zcir (x0 x3:DV) (h:List AObj):St:=⟨[x0,.junk,.junk,x3]++js 48,h⟩
def a139:AFn where
  code:=(.seq (.region false [⟨none,(some 2),.mov (.k (.bool false))⟩])
  (.seq (.seq (.region false [⟨none,(some 5),.mov (.t 0)⟩,
    ⟨none,(some 6),.lenStr (.t 5)⟩,
    ⟨none,(some 7),.bin .lss (.t 6) (.k (.int .i64 1))⟩,
    ⟨none,(some 8),.mov (.t 7)⟩,
    ⟨(some (8,false)),(some 9),.mov (.t 0)⟩,
    ⟨(some (8,false)),(some 10),.lenStr (.t 9)⟩,
    ⟨(some (8,false)),(some 11),.bin .gtr (.t 10) (.k (.int .i64 64))⟩,
    ⟨none,(some 12),.pick (.t 8) (.k (.bool true)) (.t 11)⟩])
  (.cond (.t 12) (.seq (.region false [⟨none,(some 2),.mov (.k (.bool false))⟩])
  .ret)
  .skip))
  (.seq (.seq (.region false [⟨none,(some 3),.mov (.k (.int .i64 0))⟩])
  (.block 0 (.loop z9lx)))
  (.seq (.region false [⟨none,(some 2),.mov (.k (.bool true))⟩])
  .ret))))
  ntmps:=52
  res:=[.tmp 2]
theorem zt91:zsjc P Tryz.f139=some a139:=by kernel_rfl
def a124:AFn where
  code:=(.seq (.region false [⟨none,(some 1),.box (.t 0)⟩,
    ⟨none,(some 2),.mov (.k (.bool false))⟩])
  (.seq (.region false [⟨none,(some 5),.fld 0 (.t 1)⟩,
    ⟨none,(some 6),.load 1 false (.t 5)⟩,
    ⟨none,(some 7),.build [(.int .i64 0),(.int .i64 0),(.int .i64 0),(.str [])] [(0,1,(.t 6))]⟩,
    ⟨none,(some 3),.alloc [(.int .i64 0),(.int .i64 0),(.int .i64 0),(.str [])]⟩,
    ⟨none,none,.store 4 (.t 3) (.t 7)⟩])
  (.seq (.region false [⟨none,(some 4),.mov (.k (.bool true))⟩])
  (.seq (.seq (.region false [⟨none,(some 8),.fld 0 (.t 1)⟩,
    ⟨none,(some 9),.load 1 false (.t 8)⟩])
  (.block 0 (.seq (.seq (.region false [⟨none,(some 11),.bin .eql (.t 9) (.k (.int .i64 1))⟩,
    ⟨none,(some 10),.mov (.t 11)⟩])
  (.cond (.t 10) .skip
  (.seq (.region false [⟨none,(some 12),.bin .eql (.t 9) (.k (.int .i64 3))⟩,
    ⟨none,(some 10),.mov (.t 12)⟩])
  (.cond (.t 10) .skip
  (.region false [⟨none,(some 13),.bin .eql (.t 9) (.k (.int .i64 5))⟩,
    ⟨none,(some 10),.mov (.t 13)⟩])))))
  (.cond (.t 10) (.region true [⟨none,(some 14),.fld 1 (.t 1)⟩,
    ⟨none,(some 15),.load 1 false (.t 14)⟩,
    ⟨none,(some 16),.fld 1 (.t 1)⟩,
    ⟨none,(some 17),.load 1 false (.t 16)⟩,
    ⟨none,(some 19),.fld 1 (.t 3)⟩,
    ⟨none,(some 18),.callN (.k (.fn (.func 138) [] [])) [(.t 17),(.k (.int .i64 1)),(.k (.int .i64 32))]⟩,
    ⟨none,none,.store 1 (.t 19) (.t 15)⟩,
    ⟨none,(some 4),.mov (.t 18)⟩])
  (.seq (.region false [⟨none,(some 21),.bin .eql (.t 9) (.k (.int .i64 4))⟩,
    ⟨none,(some 20),.mov (.t 21)⟩])
  (.cond (.t 20) (.region true [⟨none,(some 22),.fld 1 (.t 1)⟩,
    ⟨none,(some 23),.load 1 false (.t 22)⟩,
    ⟨none,(some 24),.fld 2 (.t 1)⟩,
    ⟨none,(some 25),.load 1 false (.t 24)⟩,
    ⟨none,(some 26),.fld 1 (.t 1)⟩,
    ⟨none,(some 27),.load 1 false (.t 26)⟩,
    ⟨none,(some 34),.fld 1 (.t 3)⟩,
    ⟨none,(some 28),.callN (.k (.fn (.func 138) [] [])) [(.t 27),(.k (.int .i64 1)),(.k (.int .i64 32))]⟩,
    ⟨none,(some 29),.mov (.t 28)⟩,
    ⟨(some (29,true)),(some 30),.fld 2 (.t 1)⟩,
    ⟨(some (29,true)),(some 31),.load 1 false (.t 30)⟩,
    ⟨(some (29,true)),(some 32),.callN (.k (.fn (.func 138) [] [])) [(.t 31),(.k (.int .i64 0)),(.k (.int .i64 32))]⟩,
    ⟨none,(some 33),.pick (.t 29) (.t 32) (.k (.bool false))⟩,
    ⟨none,none,.store 1 (.t 34) (.t 23)⟩,
    ⟨none,(some 35),.fld 2 (.t 3)⟩,
    ⟨none,none,.store 1 (.t 35) (.t 25)⟩,
    ⟨none,(some 4),.mov (.t 33)⟩,
    ⟨none,none,.apart (.t 1) (.t 34)⟩,
    ⟨none,none,.apart (.t 24) (.t 34)⟩])
  (.seq (.region false [⟨none,(some 37),.bin .eql (.t 9) (.k (.int .i64 2))⟩,
    ⟨none,(some 36),.mov (.t 37)⟩])
  (.cond (.t 36) (.region true [⟨none,(some 38),.fld 3 (.t 1)⟩,
    ⟨none,(some 39),.load 1 false (.t 38)⟩,
    ⟨none,(some 40),.fld 3 (.t 1)⟩,
    ⟨none,(some 41),.load 1 false (.t 40)⟩,
    ⟨none,(some 43),.fld 3 (.t 3)⟩,
    ⟨none,(some 42),.callN (.k (.fn (.func 139) [] [])) [(.t 41)]⟩,
    ⟨none,none,.store 1 (.t 43) (.t 39)⟩,
    ⟨none,(some 4),.mov (.t 42)⟩])
  (.seq (.region false [⟨none,(some 45),.bin .eql (.t 9) (.k (.int .i64 6))⟩,
    ⟨none,(some 44),.mov (.t 45)⟩])
  (.cond (.t 44) (.region true [⟨none,(some 46),.fld 1 (.t 1)⟩,
    ⟨none,(some 47),.load 1 false (.t 46)⟩,
    ⟨none,(some 48),.fld 1 (.t 1)⟩,
    ⟨none,(some 49),.load 1 false (.t 48)⟩,
    ⟨none,(some 51),.fld 1 (.t 3)⟩,
    ⟨none,(some 50),.callN (.k (.fn (.func 138) [] [])) [(.t 49),(.k (.int .i64 1)),(.k (.int .i64 10))]⟩,
    ⟨none,none,.store 1 (.t 51) (.t 47)⟩,
    ⟨none,(some 4),.mov (.t 50)⟩])
  (.seq (.region false [⟨none,(some 53),.bin .eql (.t 9) (.k (.int .i64 7))⟩,
    ⟨none,(some 52),.mov (.t 53)⟩])
  (.cond (.t 52) (.region true [⟨none,(some 54),.fld 1 (.t 1)⟩,
    ⟨none,(some 55),.load 1 false (.t 54)⟩,
    ⟨none,(some 56),.fld 1 (.t 1)⟩,
    ⟨none,(some 57),.load 1 false (.t 56)⟩,
    ⟨none,(some 59),.fld 1 (.t 3)⟩,
    ⟨none,(some 58),.callN (.k (.fn (.func 138) [] [])) [(.t 57),(.k (.int .i64 0)),(.k (.int .i64 1099511627776))]⟩,
    ⟨none,none,.store 1 (.t 59) (.t 55)⟩,
    ⟨none,(some 4),.mov (.t 58)⟩])
  (.seq (.region false [⟨none,(some 61),.bin .eql (.t 9) (.k (.int .i64 8))⟩,
    ⟨none,(some 60),.mov (.t 61)⟩])
  (.cond (.t 60) .skip
  (.seq (.region false [⟨none,(some 2),.mov (.k (.bool false))⟩])
  .ret)))))))))))))))
  (.seq (.region false [⟨none,(some 62),.mov (.t 4)⟩,
    ⟨none,(some 63),.mov (.t 62)⟩,
    ⟨(some (63,true)),(some 64),.load 4 true (.t 1)⟩,
    ⟨(some (63,true)),(some 65),.load 4 true (.t 3)⟩,
    ⟨(some (63,true)),(some 66),.eqa false [(3,0),(1,1)] (.t 64) (.t 65)⟩,
    ⟨none,(some 67),.pick (.t 63) (.t 66) (.k (.bool false))⟩,
    ⟨none,(some 2),.mov (.t 67)⟩])
  .ret)))))
  ntmps:=68
  res:=[.tmp 2]
theorem ze8k:zsjc P Tryz.f124=some a124:=by kernel_rfl
def a104:AFn where
  code:=(.seq (.region false [⟨none,(some 1),.box (.t 0)⟩,
    ⟨none,(some 2),.mov (.k (.bool false))⟩])
  (.seq (.region false [⟨none,(some 4),.fld 2 (.t 1)⟩,
    ⟨none,(some 5),.load 1 false (.t 4)⟩,
    ⟨none,(some 6),.bin .geq (.t 5) (.k (.int .i64 1))⟩,
    ⟨none,(some 7),.mov (.t 6)⟩,
    ⟨(some (7,true)),(some 8),.fld 2 (.t 1)⟩,
    ⟨(some (7,true)),(some 9),.load 1 false (.t 8)⟩,
    ⟨(some (7,true)),(some 10),.bin .leq (.t 9) (.k (.int .i64 60))⟩,
    ⟨none,(some 11),.pick (.t 7) (.t 10) (.k (.bool false))⟩,
    ⟨none,(some 12),.mov (.t 11)⟩,
    ⟨(some (12,true)),(some 13),.fld 3 (.t 1)⟩,
    ⟨(some (12,true)),(some 14),.load 4 true (.t 13)⟩,
    ⟨(some (12,true)),(some 15),.build [(.int .i64 0),(.int .i64 0),(.int .i64 0),(.str [])] []⟩,
    ⟨(some (12,true)),(some 16),.eqa false [(3,0),(1,1)] (.t 14) (.t 15)⟩,
    ⟨none,(some 17),.pick (.t 12) (.t 16) (.k (.bool false))⟩,
    ⟨none,(some 3),.mov (.t 17)⟩])
  (.seq (.seq (.region false [⟨none,(some 18),.fld 0 (.t 1)⟩,
    ⟨none,(some 19),.load 1 false (.t 18)⟩])
  (.block 0 (.seq (.region false [⟨none,(some 21),.bin .eql (.t 19) (.k (.int .i64 1))⟩,
    ⟨none,(some 20),.mov (.t 21)⟩])
  (.cond (.t 20) (.seq (.region false [⟨none,(some 22),.fld 2 (.t 1)⟩,
    ⟨none,(some 23),.load 1 false (.t 22)⟩,
    ⟨none,(some 24),.bin .eql (.t 23) (.k (.int .i64 0))⟩,
    ⟨none,(some 25),.mov (.t 24)⟩,
    ⟨(some (25,true)),(some 26),.fld 1 (.t 1)⟩,
    ⟨(some (25,true)),(some 27),.load 1 false (.t 26)⟩,
    ⟨(some (25,true)),(some 28),.bin .eql (.t 27) (.k (.int .i64 0))⟩,
    ⟨none,(some 29),.pick (.t 25) (.t 28) (.k (.bool false))⟩,
    ⟨none,(some 30),.mov (.t 29)⟩,
    ⟨(some (30,true)),(some 31),.fld 3 (.t 1)⟩,
    ⟨(some (30,true)),(some 32),.load 4 true (.t 31)⟩,
    ⟨(some (30,true)),(some 33),.call (.k (.fn (.func 124) [] [])) [(.t 32)]⟩,
    ⟨none,(some 34),.pick (.t 30) (.t 33) (.k (.bool false))⟩,
    ⟨none,(some 2),.mov (.t 34)⟩])
  .ret)
  (.seq (.seq (.region false [⟨none,(some 36),.bin .eql (.t 19) (.k (.int .i64 2))⟩,
    ⟨none,(some 35),.mov (.t 36)⟩])
  (.cond (.t 35) .skip
  (.region false [⟨none,(some 37),.bin .eql (.t 19) (.k (.int .i64 3))⟩,
    ⟨none,(some 35),.mov (.t 37)⟩])))
  (.cond (.t 35) (.seq (.region false [⟨none,(some 38),.mov (.t 3)⟩,
    ⟨none,(some 39),.mov (.t 38)⟩,
    ⟨(some (39,true)),(some 40),.fld 1 (.t 1)⟩,
    ⟨(some (39,true)),(some 41),.load 1 false (.t 40)⟩,
    ⟨(some (39,true)),(some 42),.bin .eql (.t 41) (.k (.int .i64 0))⟩,
    ⟨none,(some 43),.pick (.t 39) (.t 42) (.k (.bool false))⟩,
    ⟨none,(some 2),.mov (.t 43)⟩])
  .ret)
  (.seq (.region false [⟨none,(some 45),.bin .eql (.t 19) (.k (.int .i64 4))⟩,
    ⟨none,(some 44),.mov (.t 45)⟩])
  (.cond (.t 44) (.seq (.region false [⟨none,(some 46),.mov (.t 3)⟩,
    ⟨none,(some 47),.mov (.t 46)⟩,
    ⟨(some (47,true)),(some 48),.fld 1 (.t 1)⟩,
    ⟨(some (47,true)),(some 49),.load 1 false (.t 48)⟩,
    ⟨(some (47,true)),(some 50),.bin .geq (.t 49) (.k (.int .i64 1))⟩,
    ⟨none,(some 51),.pick (.t 47) (.t 50) (.k (.bool false))⟩,
    ⟨none,(some 52),.mov (.t 51)⟩,
    ⟨(some (52,true)),(some 53),.fld 1 (.t 1)⟩,
    ⟨(some (52,true)),(some 54),.load 1 false (.t 53)⟩,
    ⟨(some (52,true)),(some 55),.fld 2 (.t 1)⟩,
    ⟨(some (52,true)),(some 56),.load 1 false (.t 55)⟩,
    ⟨(some (52,true)),(some 57),.bin .leq (.t 54) (.t 56)⟩,
    ⟨none,(some 58),.pick (.t 52) (.t 57) (.k (.bool false))⟩,
    ⟨none,(some 2),.mov (.t 58)⟩])
  .ret)
  .skip))))))))
  (.seq (.region false [⟨none,(some 2),.mov (.k (.bool false))⟩])
  .ret))))
  ntmps:=59
  res:=[.tmp 2]
theorem z0mt:zsjc P Tryz.f104=some a104:=by kernel_rfl
def zscl:ACode :=
  (.seq (.region false [⟨none,(some 18),.bin .lss (.t 17) (.t 16)⟩])
  (.seq (.cond (.t 18) .skip
  (.exit 0))
  (.seq (.block 1 (.seq (.region false [⟨none,(some 19),.idxS 7 (.t 15) (.t 17)⟩,
    ⟨none,(some 20),.load 7 true (.t 19)⟩,
    ⟨none,(some 6),.alloc [(.int .i64 0),(.int .i64 0),(.int .i64 0),(.int .i64 0),(.int .i64 0),(.int .i64 0),(.str [])]⟩,
    ⟨none,none,.store 7 (.t 6) (.t 20)⟩])
  (.seq (.seq (.region false [⟨none,(some 21),.mov (.t 3)⟩,
    ⟨none,(some 22),.bin .eql (.t 21) (.k (.int .i64 0))⟩,
    ⟨none,(some 23),.mov (.t 22)⟩,
    ⟨(some (23,false)),(some 24),.load 7 true (.t 6)⟩,
    ⟨(some (23,false)),(some 25),.call (.k (.fn (.func 104) [] [])) [(.t 24)]⟩,
    ⟨(some (23,false)),(some 26),.un .not (.t 25)⟩,
    ⟨none,(some 27),.pick (.t 23) (.k (.bool true)) (.t 26)⟩])
  (.cond (.t 27) (.seq (.region false [⟨none,(some 2),.mov (.k (.bool false))⟩])
  .ret)
  .skip))
  (.seq (.region false [⟨none,(some 28),.mov (.t 3)⟩,
    ⟨none,(some 29),.fld 2 (.t 6)⟩,
    ⟨none,(some 30),.load 1 false (.t 29)⟩,
    ⟨none,(some 31),.bin .sub (.t 30) (.k (.int .i64 1))⟩,
    ⟨none,(some 32),.bin .add (.t 28) (.t 31)⟩,
    ⟨none,(some 3),.mov (.t 32)⟩])
  (.seq (.region false [⟨none,(some 33),.fld 0 (.t 6)⟩,
    ⟨none,(some 34),.load 1 false (.t 33)⟩,
    ⟨none,(some 35),.bin .eql (.t 34) (.k (.int .i64 1))⟩])
  (.cond (.t 35) (.region false [⟨none,(some 36),.mov (.t 4)⟩,
    ⟨none,(some 37),.bin .add (.t 36) (.k (.int .i64 1))⟩,
    ⟨none,(some 4),.mov (.t 37)⟩])
  .skip))))))
  (.region false [⟨none,(some 38),.bin .add (.t 17) (.k (.int .i64 1))⟩,
    ⟨none,(some 17),.mov (.t 38)⟩]))))
def zeq8 (x3 x4 x15 x16 x17:DV) (h:List AObj):St:=⟨[.junk,.junk,.junk,x3,x4]++js 10++[x15,x16,x17]++js 27,h⟩
def a64:AFn where
  code:=(.seq (.region false [⟨none,(some 2),.mov (.k (.bool false))⟩])
  (.seq (.seq (.region false [⟨none,(some 7),.mov (.t 0)⟩,
    ⟨none,(some 8),.len (.t 7)⟩,
    ⟨none,(some 9),.bin .lss (.t 8) (.k (.int .i64 1))⟩,
    ⟨none,(some 10),.mov (.t 9)⟩,
    ⟨(some (10,false)),(some 11),.mov (.t 0)⟩,
    ⟨(some (10,false)),(some 12),.len (.t 11)⟩,
    ⟨(some (10,false)),(some 13),.bin .gtr (.t 12) (.k (.int .i64 60))⟩,
    ⟨none,(some 14),.pick (.t 10) (.k (.bool true)) (.t 13)⟩])
  (.cond (.t 14) (.seq (.region false [⟨none,(some 2),.mov (.k (.bool false))⟩])
  .ret)
  .skip))
  (.seq (.region false [⟨none,(some 3),.mov (.k (.int .i64 1))⟩,
    ⟨none,(some 4),.mov (.k (.int .i64 0))⟩])
  (.seq (.seq (.region false [⟨none,(some 15),.mov (.t 0)⟩,
    ⟨none,(some 16),.len (.t 15)⟩,
    ⟨none,(some 17),.mov (.k (.int .i64 0))⟩])
  (.block 0 (.loop zscl)))
  (.seq (.region false [⟨none,(some 39),.mov (.t 3)⟩,
    ⟨none,(some 40),.bin .eql (.t 39) (.k (.int .i64 0))⟩,
    ⟨none,(some 41),.mov (.t 40)⟩,
    ⟨(some (41,true)),(some 42),.mov (.t 4)⟩,
    ⟨(some (41,true)),(some 43),.bin .leq (.t 42) (.k (.int .i64 16))⟩,
    ⟨none,(some 44),.pick (.t 41) (.t 43) (.k (.bool false))⟩,
    ⟨none,(some 2),.mov (.t 44)⟩])
  .ret)))))
  ntmps:=45
  res:=[.tmp 2]
theorem zxtc:zsjc P Tryz.f64=some a64:=by kernel_rfl
def a41:AFn where
  code:=(.seq (.region false [⟨none,(some 1),.box (.t 0)⟩,
    ⟨none,(some 2),.mov (.k (.bool false))⟩])
  (.seq (.region false [⟨none,(some 3),.load 4 true (.t 1)⟩,
    ⟨none,(some 4),.build [(.int .i64 0),(.int .i64 0),(.int .i64 0),(.int .i64 0),(.int .i64 0),(.int .i64 0),(.str [])] [(0,1,(.k (.int .i64 1))),(3,4,(.t 3))]⟩,
    ⟨none,(some 5),.bsl 7 1 [(.int .i64 0),(.int .i64 0),(.int .i64 0),(.int .i64 0),(.int .i64 0),(.int .i64 0),(.str [])] [(0,7,(.t 4))]⟩,
    ⟨none,(some 6),.call (.k (.fn (.func 64) [] [])) [(.t 5)]⟩,
    ⟨none,(some 2),.mov (.t 6)⟩])
  .ret))
  ntmps:=7
  res:=[.tmp 2]
theorem z5y8:zsjc P Tryz.f41=some a41:=by kernel_rfl
def a42:AFn where
  code:=(.seq (.region false [⟨none,(some 4),.box (.t 0)⟩,
    ⟨none,(some 5),.box (.t 1)⟩,
    ⟨none,(some 6),.box (.t 2)⟩,
    ⟨none,(some 8),.alloc [(.bool false),.nils,(.int .i64 0)]⟩])
  (.seq (.region false [⟨none,(some 9),.mov (.k (.fn (.func 65) [] []))⟩])
  (.seq (.region false [⟨none,(some 13),.mkf (.func 66) [] [(.t 5)]⟩,
    ⟨none,(some 10),.alloc [.nilf]⟩,
    ⟨none,none,.store 1 (.t 10) (.t 13)⟩])
  (.seq (.region false [⟨none,(some 14),.mkf (.func 67) [] [(.t 5)]⟩,
    ⟨none,(some 11),.mov (.t 14)⟩])
  (.seq (.region false [⟨none,(some 15),.fld 33 (.t 4)⟩,
    ⟨none,(some 16),.load 1 false (.t 15)⟩,
    ⟨none,(some 17),.mov (.t 9)⟩,
    ⟨none,(some 18),.call (.k (.fn (.func 68) [] [])) [(.t 16),(.k (.int .i64 5)),(.t 17)]⟩,
    ⟨none,(some 12),.mov (.t 18)⟩])
  (.seq (.seq (.region false [⟨none,(some 19),.fld 0 (.t 6)⟩,
    ⟨none,(some 20),.load 1 false (.t 19)⟩])
  (.block 0 (.seq (.region false [⟨none,(some 22),.bin .eql (.t 20) (.k (.int .i64 1))⟩,
    ⟨none,(some 21),.mov (.t 22)⟩])
  (.cond (.t 21) (.seq (.region true [⟨none,(some 23),.fld 33 (.t 4)⟩,
    ⟨none,(some 24),.load 1 false (.t 23)⟩,
    ⟨none,(some 25),.load 1 false (.t 10)⟩,
    ⟨none,(some 27),.fld 1 (.t 6)⟩,
    ⟨none,(some 28),.load 1 false (.t 27)⟩,
    ⟨none,(some 26),.callN (.k (.fn (.func 68) [] [])) [(.t 24),(.k (.int .i64 1)),(.t 25)]⟩,
    ⟨none,(some 29),.callN (.k (.fn (.func 69) [] [])) [(.t 26),(.t 28)]⟩,
    ⟨none,none,.store 3 (.t 8) (.t 29)⟩])
  .ret)
  (.seq (.region false [⟨none,(some 31),.bin .eql (.t 20) (.k (.int .i64 2))⟩,
    ⟨none,(some 30),.mov (.t 31)⟩])
  (.cond (.t 30) (.seq (.region false [⟨none,(some 32),.fld 33 (.t 4)⟩,
    ⟨none,(some 33),.load 1 false (.t 32)⟩,
    ⟨none,(some 34),.mkf (.func 71) [] [(.t 10),(.t 6)]⟩,
    ⟨none,(some 35),.call (.k (.fn (.func 68) [] [])) [(.t 33),(.k (.int .i64 2)),(.t 34)]⟩,
    ⟨none,(some 36),.call (.k (.fn (.func 70) [] [])) [(.t 35)]⟩,
    ⟨none,none,.store 3 (.t 8) (.t 36)⟩])
  .ret)
  (.seq (.region false [⟨none,(some 38),.bin .eql (.t 20) (.k (.int .i64 3))⟩,
    ⟨none,(some 37),.mov (.t 38)⟩])
  (.cond (.t 37) (.seq (.region true [⟨none,(some 39),.fld 33 (.t 4)⟩,
    ⟨none,(some 40),.load 1 false (.t 39)⟩,
    ⟨none,(some 41),.mov (.t 11)⟩,
    ⟨none,(some 43),.fld 1 (.t 6)⟩,
    ⟨none,(some 44),.load 1 false (.t 43)⟩,
    ⟨none,(some 42),.callN (.k (.fn (.func 68) [] [])) [(.t 40),(.k (.int .i64 3)),(.t 41)]⟩,
    ⟨none,(some 45),.callN (.k (.fn (.func 69) [] [])) [(.t 42),(.t 44)]⟩,
    ⟨none,none,.store 3 (.t 8) (.t 45)⟩])
  .ret)
  (.seq (.region false [⟨none,(some 47),.bin .eql (.t 20) (.k (.int .i64 4))⟩,
    ⟨none,(some 46),.mov (.t 47)⟩])
  (.cond (.t 46) (.seq (.region true [⟨none,(some 48),.fld 33 (.t 4)⟩,
    ⟨none,(some 49),.load 1 false (.t 48)⟩,
    ⟨none,(some 50),.mov (.t 11)⟩,
    ⟨none,(some 52),.mov (.t 3)⟩,
    ⟨none,(some 53),.mov (.t 11)⟩,
    ⟨none,(some 55),.load 4 true (.t 6)⟩,
    ⟨none,(some 51),.callN (.k (.fn (.func 68) [] [])) [(.t 49),(.k (.int .i64 4)),(.t 50)]⟩,
    ⟨none,(some 54),.callN (.k (.fn (.func 68) [] [])) [(.t 52),(.k (.int .i64 4)),(.t 53)]⟩,
    ⟨none,(some 56),.callN (.k (.fn (.func 72) [] [])) [(.t 51),(.t 54),(.t 55)]⟩,
    ⟨none,none,.store 3 (.t 8) (.t 56)⟩])
  .ret)
  (.seq (.region false [⟨none,(some 58),.bin .eql (.t 20) (.k (.int .i64 5))⟩,
    ⟨none,(some 57),.mov (.t 58)⟩])
  (.cond (.t 57) (.seq (.region false [⟨none,(some 59),.mov (.t 12)⟩,
    ⟨none,(some 60),.fld 1 (.t 6)⟩,
    ⟨none,(some 61),.load 1 false (.t 60)⟩,
    ⟨none,(some 62),.call (.k (.fn (.func 73) [] [])) [(.t 59),(.t 61)]⟩,
    ⟨none,none,.store 3 (.t 8) (.t 62)⟩])
  .ret)
  (.seq (.region false [⟨none,(some 64),.bin .eql (.t 20) (.k (.int .i64 6))⟩,
    ⟨none,(some 63),.mov (.t 64)⟩])
  (.cond (.t 63) (.seq (.region true [⟨none,(some 65),.mov (.t 12)⟩,
    ⟨none,(some 66),.fld 34 (.t 4)⟩,
    ⟨none,(some 67),.load 1 false (.t 66)⟩,
    ⟨none,(some 68),.fld 1 (.t 6)⟩,
    ⟨none,(some 69),.load 1 false (.t 68)⟩,
    ⟨none,(some 72),.fld 34 (.t 4)⟩,
    ⟨none,(some 73),.load 1 false (.t 72)⟩,
    ⟨none,(some 74),.fld 1 (.t 6)⟩,
    ⟨none,(some 75),.load 1 false (.t 74)⟩,
    ⟨none,(some 70),.callN (.k (.fn (.func 75) [] [])) [(.t 67),(.t 69)]⟩,
    ⟨none,(some 71),.len (.t 70)⟩,
    ⟨none,(some 76),.callN (.k (.fn (.func 48) [] [])) [(.t 73),(.t 75)]⟩,
    ⟨none,(some 77),.callN (.k (.fn (.func 74) [] [])) [(.t 65),(.t 71),(.t 76)]⟩,
    ⟨none,none,.store 3 (.t 8) (.t 77)⟩])
  .ret)
  (.seq (.region false [⟨none,(some 79),.bin .eql (.t 20) (.k (.int .i64 7))⟩,
    ⟨none,(some 78),.mov (.t 79)⟩])
  (.cond (.t 78) (.seq (.region false [⟨none,(some 80),.fld 33 (.t 4)⟩,
    ⟨none,(some 81),.load 1 false (.t 80)⟩,
    ⟨none,(some 82),.mkf (.func 76) [] [(.t 10),(.t 4),(.t 6)]⟩,
    ⟨none,(some 83),.call (.k (.fn (.func 68) [] [])) [(.t 81),(.k (.int .i64 1)),(.t 82)]⟩,
    ⟨none,(some 84),.call (.k (.fn (.func 70) [] [])) [(.t 83)]⟩,
    ⟨none,none,.store 3 (.t 8) (.t 84)⟩])
  .ret)
  .skip))))))))))))))))
  (.seq (.region true [⟨none,(some 85),.mov (.t 12)⟩,
    ⟨none,(some 86),.fld 34 (.t 4)⟩,
    ⟨none,(some 87),.load 1 false (.t 86)⟩,
    ⟨none,(some 89),.fld 35 (.t 4)⟩,
    ⟨none,(some 90),.load 1 false (.t 89)⟩,
    ⟨none,(some 91),.len (.t 90)⟩,
    ⟨none,(some 88),.callN (.k (.fn (.func 78) [] [])) [(.t 87)]⟩,
    ⟨none,(some 92),.bin .add (.t 88) (.t 91)⟩,
    ⟨none,(some 93),.callN (.k (.fn (.func 74) [] [])) [(.t 85),(.t 92),(.k .nils)]⟩,
    ⟨none,none,.store 3 (.t 8) (.t 93)⟩])
  .ret)))))))
  ntmps:=94
  res:=[.cell 8 3 true]
theorem zl17:zsjc P Tryz.f42=some a42:=by kernel_rfl
def a20:AFn where
  code:=(.seq (.region false [⟨none,(some 3),.box (.t 0)⟩,
    ⟨none,(some 4),.box (.t 1)⟩,
    ⟨none,(some 5),.box (.t 2)⟩,
    ⟨none,(some 6),.alloc [(.bool false),.nils,(.int .i64 0)]⟩])
  (.seq (.seq (.region false [⟨none,(some 7),.load 4 true (.t 5)⟩,
    ⟨none,(some 8),.call (.k (.fn (.func 41) [] [])) [(.t 7)]⟩,
    ⟨none,(some 9),.un .not (.t 8)⟩])
  (.cond (.t 9) (.seq (.region false [⟨none,(some 10),.build [(.bool false),.nils,(.int .i64 0)] []⟩,
    ⟨none,none,.store 3 (.t 6) (.t 10)⟩])
  .ret)
  .skip))
  (.seq (.region false [⟨none,(some 11),.load 36 true (.t 3)⟩,
    ⟨none,(some 12),.load 34 true (.t 4)⟩,
    ⟨none,(some 13),.load 4 true (.t 5)⟩,
    ⟨none,(some 14),.fld 33 (.t 3)⟩,
    ⟨none,(some 15),.load 1 false (.t 14)⟩,
    ⟨none,(some 16),.call (.k (.fn (.func 42) [] [])) [(.t 11),(.t 12),(.t 13),(.t 15)]⟩,
    ⟨none,none,.store 3 (.t 6) (.t 16)⟩])
  .ret)))
  ntmps:=17
  res:=[.cell 6 3 true]
theorem zfgm:zsjc P Tryz.f20=some a20:=by kernel_rfl
def a45:AFn where
  code:=(.seq (.region false [⟨none,(some 2),.box (.t 0)⟩,
    ⟨none,(some 3),.mov (.k (.bool false))⟩])
  (.seq (.region false [⟨none,(some 4),.load 1 false (.t 1)⟩,
    ⟨none,(some 5),.load 32 true (.t 2)⟩,
    ⟨none,(some 6),.call (.k (.fn (.func 46) [] [])) [(.t 4),(.t 5)]⟩,
    ⟨none,(some 7),.un .not (.t 6)⟩,
    ⟨none,(some 3),.mov (.t 7)⟩])
  .ret))
  ntmps:=8
  res:=[.tmp 3]
theorem z94d:zsjc P Tryz.f45=some a45:=by kernel_rfl
def a51:AFn where
  code:=(.seq (.region false [⟨none,(some 2),.box (.t 0)⟩,
    ⟨none,(some 3),.mov (.k (.bool false))⟩])
  (.seq (.region false [⟨none,(some 4),.fld 70 (.t 2)⟩,
    ⟨none,(some 5),.load 1 false (.t 4)⟩,
    ⟨none,(some 6),.load 1 false (.t 1)⟩,
    ⟨none,(some 7),.call (.k (.fn (.func 47) [] [])) [(.t 5),(.t 6)]⟩,
    ⟨none,(some 3),.mov (.t 7)⟩])
  .ret))
  ntmps:=8
  res:=[.tmp 3]
theorem z8rx:zsjc P Tryz.f51=some a51:=by kernel_rfl
def z2r1:ACode :=
  (.seq (.region false [⟨none,(some 9),.bin .lss (.t 8) (.t 7)⟩])
  (.seq (.cond (.t 9) .skip
  (.exit 0))
  (.seq (.block 1 (.seq (.region false [⟨none,(some 10),.mov (.t 8)⟩,
    ⟨none,(some 5),.mov (.t 10)⟩])
  (.seq (.region true [⟨none,(some 11),.load 32 true (.t 3)⟩,
    ⟨none,(some 12),.mov (.t 0)⟩,
    ⟨none,(some 13),.mov (.t 5)⟩,
    ⟨none,(some 14),.idxS 32 (.t 12) (.t 13)⟩,
    ⟨none,(some 15),.load 32 true (.t 14)⟩,
    ⟨none,(some 16),.eqa false [(32,0)] (.t 11) (.t 15)⟩])
  (.cond (.t 16) (.seq (.region false [⟨none,(some 17),.mov (.t 5)⟩,
    ⟨none,(some 4),.mov (.t 17)⟩])
  .ret)
  .skip))))
  (.region false [⟨none,(some 18),.bin .add (.t 8) (.k (.int .i64 1))⟩,
    ⟨none,(some 8),.mov (.t 18)⟩]))))
def ztaw (x0 x3 x7 x8:DV) (h:List AObj):St:=⟨[x0,.junk,.junk,x3,.junk,.junk,.junk,x7,x8]++js 10,h⟩
def a88:AFn where
  code:=(.seq (.region false [⟨none,(some 3),.box (.t 1)⟩,
    ⟨none,(some 4),.mov (.k (.int .i64 0))⟩])
  (.seq (.seq (.region false [⟨none,(some 6),.mov (.t 0)⟩,
    ⟨none,(some 7),.len (.t 6)⟩,
    ⟨none,(some 8),.mov (.k (.int .i64 0))⟩])
  (.block 0 (.loop z2r1)))
  (.seq (.region false [⟨none,(some 4),.mov (.k (.int .i64 (-1)))⟩])
  .ret)))
  ntmps:=19
  res:=[.tmp 4]
theorem zqgj:zsjc P Tryz.f88=some a88:=by kernel_rfl
def a46:AFn where
  code:=(.seq (.region false [⟨none,(some 3),.box (.t 1)⟩,
    ⟨none,(some 4),.mov (.k (.bool false))⟩])
  (.seq (.region false [⟨none,(some 5),.mov (.t 0)⟩,
    ⟨none,(some 6),.load 32 true (.t 3)⟩,
    ⟨none,(some 7),.call (.k (.fn (.func 88) [] [])) [(.t 5),(.t 6)]⟩,
    ⟨none,(some 8),.bin .geq (.t 7) (.k (.int .i64 0))⟩,
    ⟨none,(some 4),.mov (.t 8)⟩])
  .ret))
  ntmps:=9
  res:=[.tmp 4]
theorem znv1:zsjc P Tryz.f46=some a46:=by kernel_rfl
def z3yv:ACode :=
  (.seq (.region false [⟨none,(some 9),.bin .lss (.t 8) (.t 7)⟩])
  (.seq (.cond (.t 9) .skip
  (.exit 0))
  (.seq (.block 1 (.seq (.region false [⟨none,(some 10),.mov (.t 8)⟩,
    ⟨none,(some 5),.mov (.t 10)⟩])
  (.seq (.region false [⟨none,(some 11),.mov (.t 1)⟩,
    ⟨none,(some 12),.mov (.t 0)⟩,
    ⟨none,(some 13),.mov (.t 5)⟩,
    ⟨none,(some 14),.idxS 32 (.t 12) (.t 13)⟩,
    ⟨none,(some 15),.load 32 true (.t 14)⟩,
    ⟨none,(some 16),.call (.t 11) [(.t 15)]⟩])
  (.cond (.t 16) (.seq (.region false [⟨none,(some 17),.mov (.t 5)⟩,
    ⟨none,(some 4),.mov (.t 17)⟩])
  .ret)
  .skip))))
  (.region false [⟨none,(some 18),.bin .add (.t 8) (.k (.int .i64 1))⟩,
    ⟨none,(some 8),.mov (.t 18)⟩]))))
def zlqy (x0 x1 x7 x8:DV) (h:List AObj):St:=⟨[x0,x1]++js 5++[x7,x8]++js 10,h⟩
def a89:AFn where
  code:=(.seq (.region false [⟨none,(some 4),.mov (.k (.int .i64 0))⟩])
  (.seq (.seq (.region false [⟨none,(some 6),.mov (.t 0)⟩,
    ⟨none,(some 7),.len (.t 6)⟩,
    ⟨none,(some 8),.mov (.k (.int .i64 0))⟩])
  (.block 0 (.loop z3yv)))
  (.seq (.region false [⟨none,(some 4),.mov (.k (.int .i64 (-1)))⟩])
  .ret)))
  ntmps:=19
  res:=[.tmp 4]
theorem z42j:zsjc P Tryz.f89=some a89:=by kernel_rfl
def a47:AFn where
  code:=(.seq (.region false [⟨none,(some 4),.mov (.k (.bool false))⟩])
  (.seq (.region false [⟨none,(some 5),.mov (.t 0)⟩,
    ⟨none,(some 6),.mov (.t 1)⟩,
    ⟨none,(some 7),.call (.k (.fn (.func 89) [] [])) [(.t 5),(.t 6)]⟩,
    ⟨none,(some 8),.bin .geq (.t 7) (.k (.int .i64 0))⟩,
    ⟨none,(some 4),.mov (.t 8)⟩])
  .ret))
  ntmps:=9
  res:=[.tmp 4]
theorem zzqr:zsjc P Tryz.f47=some a47:=by kernel_rfl
def a22:AFn where
  code:=(.seq (.region false [⟨none,(some 4),.box (.t 0)⟩,
    ⟨none,(some 5),.box (.t 1)⟩,
    ⟨none,(some 6),.box (.t 2)⟩,
    ⟨none,(some 7),.box (.t 3)⟩,
    ⟨none,(some 8),.mov (.k (.bool false))⟩])
  (.seq (.region false [⟨none,(some 11),.mkf (.func 45) [] [(.t 7)]⟩,
    ⟨none,(some 9),.alloc [.nilf]⟩,
    ⟨none,none,.store 1 (.t 9) (.t 11)⟩])
  (.seq (.seq (.region true [⟨none,(some 12),.load 4 true (.t 6)⟩,
    ⟨none,(some 13),.callN (.k (.fn (.func 41) [] [])) [(.t 12)]⟩,
    ⟨none,(some 14),.un .not (.t 13)⟩,
    ⟨none,(some 15),.mov (.t 14)⟩,
    ⟨(some (15,false)),(some 16),.fld 0 (.t 6)⟩,
    ⟨(some (15,false)),(some 17),.load 1 false (.t 16)⟩,
    ⟨(some (15,false)),(some 18),.bin .eql (.t 17) (.k (.int .i64 6))⟩,
    ⟨(some (15,false)),(some 19),.mov (.t 18)⟩,
    ⟨(some (19,true)),(some 20),.fld 34 (.t 4)⟩,
    ⟨(some (19,true)),(some 21),.load 1 false (.t 20)⟩,
    ⟨(some (19,true)),(some 22),.fld 1 (.t 6)⟩,
    ⟨(some (19,true)),(some 23),.load 1 false (.t 22)⟩,
    ⟨(some (19,true)),(some 25),.load 1 false (.t 9)⟩,
    ⟨(some (19,true)),(some 24),.callN (.k (.fn (.func 48) [] [])) [(.t 21),(.t 23)]⟩,
    ⟨(some (19,true)),(some 26),.callN (.k (.fn (.func 47) [] [])) [(.t 24),(.t 25)]⟩,
    ⟨(some (15,false)),(some 27),.pick (.t 19) (.t 26) (.k (.bool false))⟩,
    ⟨none,(some 28),.pick (.t 15) (.k (.bool true)) (.t 27)⟩])
  (.cond (.t 28) (.seq (.region false [⟨none,(some 8),.mov (.k (.bool false))⟩])
  .ret)
  .skip))
  (.seq (.region false [⟨none,(some 29),.fld 33 (.t 4)⟩,
    ⟨none,(some 30),.load 1 false (.t 29)⟩,
    ⟨none,(some 10),.mov (.t 30)⟩])
  (.seq (.region false [⟨none,(some 31),.mov (.t 10)⟩,
    ⟨none,(some 32),.call (.k (.fn (.func 50) [] [])) [(.t 31)]⟩,
    ⟨none,(some 33),.mkf (.func 51) [] [(.t 9)]⟩,
    ⟨none,(some 34),.call (.k (.fn (.func 49) [] [])) [(.t 32),(.t 33)]⟩,
    ⟨none,(some 35),.fld 33 (.t 4)⟩,
    ⟨none,none,.store 1 (.t 35) (.t 34)⟩])
  (.seq (.region false [⟨none,(some 36),.load 36 true (.t 4)⟩,
    ⟨none,(some 37),.load 34 true (.t 5)⟩,
    ⟨none,(some 38),.load 4 true (.t 6)⟩,
    ⟨none,(some 39),.mov (.t 10)⟩,
    ⟨none,(some 40),.call (.k (.fn (.func 42) [] [])) [(.t 36),(.t 37),(.t 38),(.t 39)]⟩,
    ⟨none,(some 41),.getf 0 1 false (.t 40)⟩,
    ⟨none,(some 8),.mov (.t 41)⟩])
  .ret))))))
  ntmps:=42
  res:=[.tmp 8]
theorem zi98:zsjc P Tryz.f22=some a22:=by kernel_rfl
end Go.Proofs.YtdnhbfmlklaldaaGreat
set_option linter.unusedSimpArgs false
set_option linter.unusedVariables false
namespace Go.Proofs.YtdnhbfmlklaldaaGreat
open Go Go.Am
theorem z0vp {α:Type} {lt:α→α→Bool} (o:Tot lt) : ∀ {l m:List α},Asc lt l→Asc lt m→(∀ x ∈ l,x ∈ m)→l.Sublist m
  | [],m,_,_,_=>List.nil_sublist m
  | a::l,[],_,_,h=>by have:=h a (by simp); simp at this
  | a::l,b::m,h1,h2,h=>by
    have k1:=List.pairwise_cons.1 h1
    have k2:=List.pairwise_cons.1 h2
    have asym : ∀ {x y},lt x y=true→lt y x=true→False:=fun p q=>by have:=o.tr _ _ _ p q; rw [o.irr] at this; cases this
    by_cases e:a=b
    · subst e
      refine List.Sublist.cons_cons a (z0vp o k1.2 k2.2 fun x hx => ?_)
      rcases List.mem_cons.1 (h x (by simp [hx])) with e|q
      · have:=k1.1 x hx; rw [e,o.irr] at this; cases this
      · exact q
    · have ha:a ∈ m:=by rcases List.mem_cons.1 (h a (by simp)) with q|q; exact absurd q e; exact q
      refine List.Sublist.cons b (z0vp o h1 k2.2 fun x hx => ?_)
      rcases List.mem_cons.1 (h x hx) with q|q
      · subst q
        rcases List.mem_cons.1 hx with q|q
        · exact absurd q.symm e
        · exact (asym (k1.1 x q) (k2.1 a ha)).elim
      · exact q
theorem zxwy {α:Type} {lt:α→α→Bool} (o:Tot lt) {l m:List α} (h1:Asc lt l) (h2:Asc lt m) (h : ∀ x ∈ l,x ∈ m):l.length≤m.length:=(z0vp o h1 h2 h).length_le
theorem z7zz {l:List Fct} {x:Str}:x ∈ zzy4 l ↔ ∃ f ∈ l,f.own=x:=by rw [zzy4,strU,zoav z3gj,List.mem_map]
theorem z7nw (l:List Fct):Asc Op.bytesLess (zzy4 l):=zy4b z3gj _
theorem zwyg {l m:List Fct} (h : ∀ f ∈ l,f ∈ m):(zzy4 l).length≤(zzy4 m).length :=
  zxwy z3gj (z7nw l) (z7nw m) fun x hx=>by
    obtain ⟨f,h1,h2⟩:=z7zz.1 hx
    exact z7zz.2 ⟨f,h f h1,h2⟩
theorem zx4t {s a:List Fct} {x:Str}:x ∈ zob0 s a↔(∃ f ∈ s,f.own=x)∧x ∉ zqgg a:=by simp [zob0,z7zz]
theorem zpss (s a:List Fct):Asc Op.bytesLess (zob0 s a):=List.Pairwise.filter _ (z7nw s)
theorem z6tj {l m a:List Fct} (h : ∀ f ∈ l,f ∈ m):(zob0 l a).length≤(zob0 m a).length :=
  zxwy z3gj (zpss l a) (zpss m a) fun x hx=>by
    obtain ⟨⟨f,h1,h2⟩,h3⟩:=zx4t.1 hx
    exact zx4t.2 ⟨⟨f,h f h1,h2⟩,h3⟩
theorem zs6z {l:List Fct} {k:Int} {s:Sel} {f:Fct}:f ∈ zskr l k s↔f ∈ l∧f.kind=k∧s.p f=true:=by simp [zskr]
theorem zg15 {l m:List Fct} {k:Int} {s:Sel} (h : ∀ f ∈ l,f ∈ m) : ∀ f ∈ zskr l k s,f ∈ zskr m k s:=fun f hf=>by
  rw [zs6z] at *; exact ⟨h f hf.1,hf.2⟩
theorem zj7y {l:List Fct} {n:Int}:(zfyl l n).holds=decide (n≤(zzy4 l).length):=by
  unfold zfyl
  split
  · rename_i h; simp [zcc9,h]
  · rename_i h; simp [zp7s]; omega
theorem zou2 {l:List Fct}:(oneS l).holds=true ↔ ∃ f,f ∈ l:=by cases l with|nil=>simp [oneS,zcc9]|cons f l=>exact ⟨fun _=>⟨f,by simp⟩,fun _=>rfl⟩
theorem z2zj {s a:List Fct} {q:Req}:(zo4d s a q).holds=decide (q.n≤(zob0 s a).length∧(zqgg a).length≤q.m):=by
  unfold zo4d
  split
  · rename_i h; unfold z5nq at h; simp [zcc9]; omega
  · rename_i h; unfold z5nq at h; simp [zp7s]; omega
theorem zram {l:List Fct} {n:Int} : ∀ {t:List Dg} {m:Int},(zdgi l n t m).holds=t.any fun d=>(zfyl (zskr l 5 (.target d)) n).holds
  | [],m=>rfl
  | d::r,m=>by
    unfold zdgi
    split
    · rename_i h; simp [h]
    · rename_i h; rw [zram]; simp [h]
theorem z6mz {l:List Fct} {n:Int}:(zf55 l n).holds=true ↔ ∃ f ∈ l,n≤(zzy4 (zskr l 5 (.target f.tgt))).length:=by
  rw [zf55,zram,List.any_eq_true]
  constructor
  · rintro ⟨d,h1,h2⟩
    rw [dgsU,zoav zc3a,List.mem_map] at h1
    obtain ⟨f,hf,rfl⟩:=h1
    rw [zj7y,decide_eq_true_eq] at h2
    exact ⟨f,hf,h2⟩
  · rintro ⟨f,hf,h⟩
    exact ⟨f.tgt,by rw [dgsU,zoav zc3a]; exact List.mem_map_of_mem hf,by rw [zj7y]; simpa using h⟩
theorem zopn {l:List Fct} {n:Int} {d:List Dg}:(zpu0 l n d).holds=true↔(∃ f,f ∈ l)∧n≤0:=by
  cases l with
  | nil=>simp [zpu0,zcc9]
  | cons f l =>
    unfold zpu0
    simp only
    split
    · rename_i h; simp [zcc9]; omega
    · rename_i h; exact ⟨fun _=>⟨⟨f,by simp⟩,by omega⟩,fun _=>rfl⟩
theorem zd2i {c:Cas} {fs gs all:List Fct} {o:Org} {q:Req} (h : ∀ f ∈ fs,f ∈ gs) (hc:(zvkf c fs all o q).holds=true):(zvkf c gs all o q).holds=true:=by
  unfold zvkf at hc ⊢
  have m:=fun k s=>zg15 (k:=k) (s:=s) h
  have ex : ∀ {k s},(∃ f,f ∈ zskr fs k s) → ∃ f,f ∈ zskr gs k s:=fun ⟨f,hf⟩=>⟨f,m _ _ f hf⟩
  split at hc
  · rename_i e; rw [if_pos e]; rw [zj7y,decide_eq_true_eq] at *; have:=zwyg (m 1 (.same o)); omega
  rename_i e; rw [if_neg e]
  split at hc
  · rename_i e; rw [if_pos e]; rw [zou2] at *; exact ex hc
  rename_i e; rw [if_neg e]
  split at hc
  · rename_i e; rw [if_pos e]; rw [zj7y,decide_eq_true_eq] at *; have:=zwyg (m 3 (.source o)); omega
  rename_i e; rw [if_neg e]
  split at hc
  · rename_i e; rw [if_pos e]; rw [z2zj,decide_eq_true_eq] at *; have:=z6tj (a:=zskr all 4 (.source o)) (m 4 (.source o)); omega
  rename_i e; rw [if_neg e]
  split at hc
  · rename_i e; rw [if_pos e]; rw [z6mz] at *
    obtain ⟨f,h1,h2⟩:=hc
    have:=zwyg (zg15 (k:=5) (s := .target f.tgt) (m 5 .every))
    exact ⟨f,m _ _ f h1,by omega⟩
  rename_i e; rw [if_neg e]
  split at hc
  · rename_i e; rw [if_pos e]; rw [zopn] at *; exact ⟨ex hc.1,hc.2⟩
  rename_i e; rw [if_neg e]
  split at hc
  · rename_i e; rw [if_pos e]; rw [zou2] at *; exact ex hc
  rename_i e; rw [if_neg e]
  rw [zopn] at *; exact ⟨ex hc.1,hc.2⟩
theorem ztci {l d:List Dg}:subB l d=true ↔ ∀ x ∈ l,x ∈ d:=by simp [subB]
theorem zqa4 {c:Cas} {o:Org} {q:Req} {a b:List Dg} (h : ∀ x ∈ a,x ∈ b) (hb:ByS c o q a=true):ByS c o q b=true:=by
  have hs : ∀ l,subB l a=true→subB l b=true:=fun l hl=>ztci.2 fun x hx=>h x (ztci.1 hl x hx)
  unfold ByS at *
  rw [Bool.and_eq_true,Bool.and_eq_true,Bool.or_eq_true] at *
  refine ⟨⟨hb.1.1,hb.1.2.imp_right (hs _)⟩,zd2i (fun f hf => ?_) hb.2⟩
  rw [List.mem_filter] at *
  exact ⟨hf.1,hs _ hf.2⟩
theorem zo7r {x:Sl Dg} {d:Dg}:d ∈ (zln3 x).l↔d ∈ x.l:=by
  unfold zln3
  split
  · exact Iff.rfl
  · have:=zsv6 (lt:=dgLt) x.l
    rw [z3e9 (by have:=x.b; unfold dgsU; omega),dgsU,zoav zc3a]
theorem zqh8 {l:List Dg} (hb:l.length≤4294967296) {d:Dg}:d ∈ (ownN l).l↔d ∈ l:=by rw [zd8n hb]
theorem zvzs {l:List Fct} {k:Int} {s:Sel} {p:Fct→Bool}:zskr (l.filter p) k s=(zskr l k s).filter p:=by
  simp only [zskr,List.filter_filter]; congr 1; funext f; exact Bool.and_comm ..
theorem z2zp {l:List Fct} {n:Str} (h : ∃ f ∈ l,f.own=n) : ∃ f ∈ l,f.own=n∧zm3u l n=f.docs.l:=by
  obtain ⟨f,h1,h2⟩:=h
  cases e:l.find? (fun f=>decide (f.own=n)) with
  | none=>rw [List.find?_eq_none] at e; exact absurd h2 (by simpa using e f h1)
  | some g =>
    have:=List.find?_some e
    exact ⟨g,List.mem_of_find?_eq_some e,by simpa using this,by unfold zm3u; rw [e]⟩
theorem zqrk {l:List Fct} {names:List Str} {D:List Dg} (hn : ∀ n ∈ names,∃ f ∈ l,f.own=n) (hD : ∀ d ∈ ztt8 l names,d ∈ D) : ∀ n ∈ names,∃ f ∈ l.filter (fun f=>subB f.docs.l D),f.own=n:=fun n hm=>by
  obtain ⟨f,h1,h2,h3⟩:=z2zp (hn n hm)
  refine ⟨f,List.mem_filter.2 ⟨h1,ztci.2 fun d hd=>hD d ?_⟩,h2⟩
  exact List.mem_flatMap.2 ⟨n,hm,h3▸hd⟩
theorem zcfm {α:Type} {l:List α} {n:Int} (h:n≤l.length) (h0:0≤n):((l.take n.toNat).length:Int)=n:=by rw [List.length_take]; omega
def zpwi (fs:List Fct) (ns:List Fnd):Prop:=fs.length≤1000∧(∀ f ∈ fs,f.docs.l.length≤1000)∧ns.length≤1000∧(∀ f ∈ ns,f.dd.l.length≤1000)
theorem zqok {α β:Type} {f:α→List β} {m:Nat} : ∀ {l:List α},(∀ a ∈ l,(f a).length≤m)→(l.flatMap f).length≤l.length*m
  | [],_=>by simp
  | a::l,h=>by
    have h1:=h a (by simp)
    have h2:=zqok (l:=l) fun b hb=>h b (by simp [hb])
    rw [List.flatMap_cons,List.length_append,List.length_cons,Nat.add_mul]; omega
theorem zx5x {fs:List Fct} {names:List Str} (h1:names.length≤1000) (h2 : ∀ f ∈ fs,f.docs.l.length≤1000):(ztt8 fs names).length≤4294967296:=by
  have:=zqok (f:=zm3u fs) (m:=1000) (l:=names) fun n _=>by
    unfold zm3u; split
    · rename_i f e; exact h2 f (List.mem_of_find?_eq_some e)
    · simp
  unfold ztt8
  have:names.length*1000≤1000*1000:=Nat.mul_le_mul_right _ h1
  omega
theorem zmvi (l:List Fct):(zzy4 l).length≤l.length:=by have:=zsv6 (lt:=Op.bytesLess) (l.map (·.own)); simpa [zzy4,strU] using this
theorem zo1m {l:List Fct} {n:Int} {D:List Dg} (h0:0≤n) (hl:l.length≤1000) (hd : ∀ f ∈ l,f.docs.l.length≤1000) (h:(zfyl l n).holds=true) (hD : ∀ d ∈ (zfyl l n).docs.l,d ∈ D):n≤(zzy4 (l.filter fun f=>subB f.docs.l D)).length:=by
  rw [zj7y,decide_eq_true_eq] at h
  rw [zfyl,if_neg (by omega)] at hD
  simp only [zp7s] at hD
  have hb:=zx5x (fs:=l) (names:=(zzy4 l).take n.toNat) (by have:=zmvi l; rw [List.length_take]; omega) hd
  have hk:=zqrk (l:=l) (names:=(zzy4 l).take n.toNat) (D:=D) (fun n hn=>z7zz.1 (List.mem_of_mem_take hn)) fun d hd=>hD d (zo7r.2 ((zqh8 hb).2 hd))
  have:=zxwy z3gj (l:=(zzy4 l).take n.toNat) (List.Pairwise.sublist (List.take_sublist _ _) (z7nw l)) (z7nw (l.filter fun f=>subB f.docs.l D)) fun x hx=>z7zz.2 (hk x hx)
  have:=zcfm h h0
  omega
theorem z5jt {l:List Fct} {D:List Dg} (h:(oneS l).holds=true) (hD : ∀ d ∈ (oneS l).docs.l,d ∈ D) : ∃ f,f ∈ l.filter fun f=>subB f.docs.l D:=by
  cases l with
  | nil=>simp [oneS,zcc9] at h
  | cons f l=>exact ⟨f,List.mem_filter.2 ⟨by simp,ztci.2 fun d hd=>hD d (zo7r.2 hd)⟩⟩
theorem zbo4 {l:List Fct} {n:Int} {docs D:List Dg} (hb:docs.length≤1000000) (hl : ∀ f ∈ l,f.docs.l.length≤1000) (h:(zpu0 l n docs).holds=true) (hD : ∀ d ∈ (zpu0 l n docs).docs.l,d ∈ D):(∃ f,f ∈ l.filter fun f=>subB f.docs.l D) ∧ ∀ d ∈ docs,d ∈ D:=by
  have h':=zopn.1 h
  cases l with
  | nil=>simp at h'
  | cons f l =>
    unfold zpu0 at hD
    simp only at hD
    rw [if_neg (by omega)] at hD
    have hfl:=hl f (by simp)
    have hm : ∀ d ∈ f.docs.l++docs,d ∈ D:=fun d hd=>hD d (zo7r.2 ((zqh8 (by rw [List.length_append]; omega)).2 hd))
    exact ⟨⟨f,List.mem_filter.2 ⟨by simp,ztci.2 fun d hd=>hm d (by simp [hd])⟩⟩,fun d hd=>hm d (by simp [hd])⟩
theorem zwf1 {l:List Fct} {n:Int} : ∀ {t:List Dg} {m:Int},(zdgi l n t m).holds=true → ∃ d ∈ t,zdgi l n t m=zfyl (zskr l 5 (.target d)) n
  | [],m,h=>by simp [zdgi,zcc9] at h
  | d::r,m,h=>by
    unfold zdgi at h ⊢
    split at h
    · rename_i e; rw [if_pos e]; exact ⟨d,by simp,rfl⟩
    · rename_i e; rw [if_neg e]
      obtain ⟨d',h1,h2⟩:=zwf1 h
      exact ⟨d',by simp [h1],h2⟩
theorem zjru {l:List Fct} {k:Int} {s:Sel}:(zskr l k s).length≤l.length:=List.length_filter_le _ _
theorem z2vg {l:List Fct} {k:Int} {s:Sel} (h : ∀ f ∈ l,f.docs.l.length≤1000) : ∀ f ∈ zskr l k s,f.docs.l.length≤1000:=fun f hf=>h f (zs6z.1 hf).1
theorem zwox {l a:List Fct} {q:Req} {D:List Dg} (h0:0≤q.n) (hl:l.length≤1000) (hd : ∀ f ∈ l,f.docs.l.length≤1000) (h:(zo4d l a q).holds=true) (hD : ∀ d ∈ (zo4d l a q).docs.l,d ∈ D):q.n≤(zob0 (l.filter fun f=>subB f.docs.l D) a).length:=by
  rw [z2zj,decide_eq_true_eq] at h
  rw [zo4d,if_neg (by unfold z5nq; omega)] at hD
  simp only [zp7s] at hD
  have hal:(zob0 l a).length≤1000:=by have:=zmvi l; have:=List.length_filter_le (fun n => !decide (n ∈ zqgg a)) (zzy4 l); unfold zob0; omega
  have hb:=zx5x (fs:=l) (names:=(zob0 l a).take q.n.toNat) (by rw [List.length_take]; omega) hd
  have hk:=zqrk (l:=l) (names:=(zob0 l a).take q.n.toNat) (D:=D) (fun n hn=>(zx4t.1 (List.mem_of_mem_take hn)).1) fun d hd=>hD d (zo7r.2 ((zqh8 hb).2 hd))
  have:=zxwy z3gj (l:=(zob0 l a).take q.n.toNat) (List.Pairwise.sublist (List.take_sublist _ _) (zpss l a)) (zpss (l.filter fun f=>subB f.docs.l D) a) fun x hx=>zx4t.2 ⟨hk x hx,(zx4t.1 (List.mem_of_mem_take hx)).2⟩
  have:=zcfm h.1 h0
  omega
theorem zycp {c:List Fnd} {s:Int} (h1:c.length≤1000) (h2 : ∀ f ∈ c,f.dd.l.length≤1000):(decS c s).length≤1000000:=by
  have a:=zqok (f:=fun f:Fnd=>f.dd.l) (m:=1000) (l:=c.filter fun f=>decide (s≤f.sev)) fun f hf=>h2 f (List.mem_filter.1 hf).1
  have b:=List.length_filter_le (fun f=>decide (s≤f.sev)) c
  have:(c.filter fun f=>decide (s≤f.sev)).length*1000≤1000*1000:=Nat.mul_le_mul_right _ (by omega)
  unfold decS; omega
theorem zcrz {c:Cas} {fs all:List Fct} {o:Org} {q:Req} {D:List Dg} (hs:zpwi fs c.n.l) (hv:reqB q=true) (h:(zvkf c fs all o q).holds=true) (hD : ∀ d ∈ (zvkf c fs all o q).docs.l,d ∈ D) :
    (zvkf c (fs.filter fun f=>subB f.docs.l D) all o q).holds=true∧(q.kind=6 → ∀ d ∈ decS c.n.l q.n,d ∈ D):=by
  obtain ⟨s1,s2,s3,s4⟩:=hs
  have L : ∀ k s,(zskr fs k s).length≤1000:=fun k s=>by have:=zjru (l:=fs) (k:=k) (s:=s); omega
  have M : ∀ k s,∀ f ∈ zskr fs k s,f.docs.l.length≤1000:=fun k s=>z2vg s2
  unfold zvkf at h hD ⊢
  split at h
  · rename_i e; rw [if_pos e] at hD ⊢
    have hn:0≤q.n:=by simp [reqB,e,inB] at hv; omega
    rw [zvzs,zj7y,decide_eq_true_eq]
    exact ⟨zo1m hn (L _ _) (M _ _) h hD,fun h=>by omega⟩
  rename_i e1; rw [if_neg e1] at hD ⊢
  split at h
  · rename_i e; rw [if_pos e] at hD ⊢
    rw [zvzs,zou2]
    exact ⟨z5jt h hD,fun h=>by omega⟩
  rename_i e2; rw [if_neg e2] at hD ⊢
  split at h
  · rename_i e; rw [if_pos e] at hD ⊢
    have hn:0≤q.n:=by simp [reqB,e,inB] at hv; omega
    rw [zvzs,zj7y,decide_eq_true_eq]
    exact ⟨zo1m hn (L _ _) (M _ _) h hD,fun h=>by omega⟩
  rename_i e3; rw [if_neg e3] at hD ⊢
  split at h
  · rename_i e; rw [if_pos e] at hD ⊢
    have hn:0≤q.n:=by simp [reqB,e,inB] at hv; omega
    rw [zvzs,z2zj,decide_eq_true_eq]
    have h':=h
    rw [z2zj,decide_eq_true_eq] at h'
    exact ⟨⟨zwox hn (L _ _) (M _ _) h hD,h'.2⟩,fun h=>by omega⟩
  rename_i e4; rw [if_neg e4] at hD ⊢
  split at h
  · rename_i e; rw [if_pos e] at hD ⊢
    have hn:1≤q.n:=by simp [reqB,e,inB] at hv; omega
    rw [zvzs,z6mz]
    obtain ⟨d,h1,h2⟩:=zwf1 (l:=zskr fs 5 .every) h
    have h3:(zfyl (zskr (zskr fs 5 .every) 5 (.target d)) q.n).holds=true:=by rw [← h2]; exact h
    have h4:=zo1m (D:=D) (by omega) (Nat.le_trans zjru (L _ _)) (z2vg (M _ _)) h3 (by rw [← h2]; exact hD)
    have h5 : ∃ x,x ∈ zzy4 ((zskr (zskr fs 5 .every) 5 (.target d)).filter fun f=>subB f.docs.l D):=by
      rcases List.eq_nil_or_concat (zzy4 ((zskr (zskr fs 5 .every) 5 (.target d)).filter fun f=>subB f.docs.l D)) with e|⟨l,x,e⟩
      · rw [e] at h4; simp at h4; omega
      · rw [e]; exact ⟨x,by simp⟩
    obtain ⟨x,hx⟩:=h5
    obtain ⟨f,hf,-⟩:=z7zz.1 hx
    obtain ⟨f1,f2⟩:=List.mem_filter.1 hf
    obtain ⟨g1,-,g3⟩:=zs6z.1 f1
    simp only [Sel.p,decide_eq_true_eq] at g3
    subst g3
    refine ⟨⟨f,List.mem_filter.2 ⟨g1,f2⟩,?_⟩,fun h=>by omega⟩
    rw [zvzs]; exact h4
  rename_i e5; rw [if_neg e5] at hD ⊢
  split at h
  · rename_i e; rw [if_pos e] at hD ⊢
    rw [zvzs,zopn]
    have:=zbo4 (zycp s3 s4) (M _ _) h hD
    exact ⟨⟨this.1,(zopn.1 h).2⟩,fun _=>this.2⟩
  rename_i e6; rw [if_neg e6] at hD ⊢
  split at h
  · rename_i e; rw [if_pos e] at hD ⊢
    rw [zvzs,zou2]
    exact ⟨z5jt h hD,fun h=>by omega⟩
  rename_i e7; rw [if_neg e7] at hD ⊢
  rw [zvzs,zopn]
  have:=zbo4 (by simp) (M _ _) h hD
  exact ⟨⟨this.1,(zopn.1 h).2⟩,fun h=>absurd h e6⟩
def zxma (c:Cas):List Dg:=c.f.l.flatMap (·.docs.l)++c.n.l.flatMap (·.dd.l)
theorem zr4y {c:Cas} {o:Org} {q:Req} (hv:reqB q=true):ByS c o q (zxma c)=(zwwp c o q).holds:=by
  have h1:(c.f.l.filter fun f=>subB f.docs.l (zxma c))=c.f.l:=List.filter_eq_self.2 fun f hf=>ztci.2 fun d hd=>List.mem_append.2 (.inl (List.mem_flatMap.2 ⟨f,hf,hd⟩))
  have h2:subB (decS c.n.l q.n) (zxma c)=true:=ztci.2 fun d hd=>by
    obtain ⟨f,hf,hd⟩:=List.mem_flatMap.1 hd
    exact List.mem_append.2 (.inr (List.mem_flatMap.2 ⟨f,(List.mem_filter.1 hf).1,hd⟩))
  rw [ByS,zwwp,h1,h2,hv]; simp
theorem zyls {c:Cas} {o:Org} {q:Req} (hs:zpwi c.f.l c.n.l) (hv:reqB q=true) (h:(zwwp c o q).holds=true):ByS c o q (zwwp c o q).docs.l=true:=by
  rw [zwwp,if_pos hv] at h ⊢
  have:=zcrz hs hv h (fun d hd=>hd)
  rw [ByS,hv,Bool.true_and,Bool.and_eq_true,Bool.or_eq_true]
  refine ⟨?_,this.1⟩
  by_cases e:q.kind=6
  · exact .inr (ztci.2 (this.2 e))
  · exact .inl (by simp [e])
theorem z9pr {l:List Fct} {n:Int} : ∀ {t:List Dg} {m:Int},0<m→((zdgi l n t m).holds=true∧(zdgi l n t m).missing=0)∨((zdgi l n t m).holds=false∧0<(zdgi l n t m).missing∧(zdgi l n t m).docs.l=[])
  | [],m,h => .inr ⟨rfl,h,rfl⟩
  | d::r,m,h=>by
    unfold zdgi
    split
    · rename_i e; refine .inl ⟨e,?_⟩
      unfold zfyl at e ⊢
      split
      · rename_i q; rw [if_pos q] at e; simp [zcc9] at e
      · rfl
    · rename_i e
      refine z9pr ?_
      unfold zfyl at e ⊢
      split
      · rename_i q; simp only [zcc9]; omega
      · rename_i q; rw [if_neg q] at e; simp [zp7s] at e
theorem z4gf {c:Cas} {fs all:List Fct} {o:Org} {q:Req} (hv:reqB q=true):((zvkf c fs all o q).holds=true∧(zvkf c fs all o q).missing=0)∨((zvkf c fs all o q).holds=false∧0<(zvkf c fs all o q).missing∧(zvkf c fs all o q).docs.l=[]):=by
  have E : ∀ l n,((zfyl l n).holds=true∧(zfyl l n).missing=0)∨((zfyl l n).holds=false∧0<(zfyl l n).missing∧(zfyl l n).docs.l=[]):=fun l n=>by
    unfold zfyl; split
    · exact .inr ⟨rfl,by simp only [zcc9]; omega,rfl⟩
    · exact .inl ⟨rfl,rfl⟩
  have O : ∀ l,((oneS l).holds=true∧(oneS l).missing=0)∨((oneS l).holds=false∧0<(oneS l).missing∧(oneS l).docs.l=[]):=fun l=>by
    cases l with
    | nil=>exact .inr ⟨rfl,by decide,rfl⟩
    | cons f l=>exact .inl ⟨rfl,rfl⟩
  have I : ∀ l n d,((zpu0 l n d).holds=true∧(zpu0 l n d).missing=0)∨((zpu0 l n d).holds=false∧0<(zpu0 l n d).missing∧(zpu0 l n d).docs.l=[]):=fun l n d=>by
    cases l with
    | nil=>exact .inr ⟨rfl,by simp [zpu0,zcc9],rfl⟩
    | cons f l =>
      unfold zpu0; simp only
      split
      · rename_i h; exact .inr ⟨rfl,h,rfl⟩
      · exact .inl ⟨rfl,rfl⟩
  unfold zvkf
  split
  · exact E _ _
  split
  · exact O _
  split
  · exact E _ _
  split
  · unfold zo4d; split
    · rename_i h; exact .inr ⟨rfl,h,rfl⟩
    · exact .inl ⟨rfl,rfl⟩
  split
  · rename_i e
    exact z9pr (by simp [reqB,e,inB] at hv; omega)
  split
  · exact I _ _ _
  split
  · exact O _
  · exact I _ _ _
end Go.Proofs.YtdnhbfmlklaldaaGreat
set_option linter.unusedSimpArgs false
set_option linter.unusedVariables false
namespace Go.Proofs.YtdnhbfmlklaldaaGreat
open Go Go.Am
def ixDg (x:Sl Dg) (d:Dg):Int:=ixI (fun e=>decide (d=e)) x.l
def SxDg (x:Sl Dg) (d:Dg) (i:Nat):St:=ztaw (x.dv 32 dgC) (.mp 0 32 0) (.int .i64 x.l.length) (.int .i64 i) [.cells (dgC d)]
theorem zf4z (x:Sl Dg) (d:Dg):Runs tbl0 a88 [x.dv 32 dgC,.agg (dgC d)] (.int .i64 (ixDg x d)):=by
  refine ⟨?_⟩
  have hb:=x.b
  simp (disch:=first|omega|(simp<;>omega)|fail) [-map_take,-map_drop,-map_set,-map_append,-drop_one,a88]
  refine zlm5 (SxDg x d) (fun i=>x.l.length-i) (fun i=>i≤x.l.length ∧ ∀ j (hj:j<x.l.length),j<i→decide (d=x.l[j])=false) 0 (z515 (by simp (disch:=first|omega|(simp<;>omega)|fail) [-map_take,-map_drop,-map_set,-map_append,-drop_one]) (by simp (disch:=first|omega|(simp<;>omega)|fail) [-map_take,-map_drop,-map_set,-map_append,-drop_one])) ⟨by omega,fun j _ hj=>by omega⟩ (fun i hi => ?_)
  obtain ⟨h1,h2⟩:=hi
  simp (disch:=first|omega|(simp<;>omega)|fail) [-map_take,-map_drop,-map_set,-map_append,-drop_one,z2r1,ztaw,SxDg]
  by_cases h:i<x.l.length
  · have h':(i:Int)<x.l.length:=by omega
    have hg:=zalo (x:=x) (h:=[.cells (dgC d)]) z1t1 h
    by_cases e:d=x.l[i]
    · have hr:ixDg x d=i:=zy9u h (by simp [← e]) h2
      simp (disch:=first|omega|(simp<;>omega)|fail) [-map_take,-map_drop,-map_set,-map_append,-drop_one,h',h,hg,← e,hr]
    · simp (disch:=first|omega|(simp<;>omega)|fail) [-map_take,-map_drop,-map_set,-map_append,-drop_one,h',h,hg,e]
      refine ⟨i+1,z515 (by simp (disch:=first|omega|(simp<;>omega)|fail) [-map_take,-map_drop,-map_set,-map_append,-drop_one]) (by simp (disch:=first|omega|(simp<;>omega)|fail) [-map_take,-map_drop,-map_set,-map_append,-drop_one]),by omega,by omega,fun j hj hji => ?_⟩
      by_cases ej:j=i
      · subst ej; simpa using e
      · simpa using h2 j hj (by omega)
  · have h':¬ (i:Int)<x.l.length:=by omega
    have hr:ixDg x d = -1:=zfki (fun j hj=>h2 j hj (by omega))
    simp (disch:=first|omega|(simp<;>omega)|fail) [-map_take,-map_drop,-map_set,-map_append,-drop_one,h,h',hr]
theorem zlqg {x:Sl Dg} {d:Dg}:0≤ixDg x d↔d ∈ x.l:=by
  constructor
  · intro h
    obtain ⟨i,hi,_,e,_⟩:=zgr5 h
    simp at e
    rw [e]; exact List.getElem_mem hi
  · intro h
    obtain ⟨i,hi,e⟩:=List.getElem_of_mem h
    have:=zkgb (fun e=>decide (d=e)) x.l
    by_cases hn:ixDg x d<0
    · have:=z378 hn i hi
      simp [e] at this
    · omega
noncomputable def c2Dg (g:Sl Dg→Dg→DV):List DV→Option DV:=con (fun _=>True) (fun p:Sl Dg × Dg=>[p.1.dv 32 dgC,.agg (dgC p.2)]) (fun p=>g p.1 p.2)
theorem zkbz {g:Sl Dg→Dg→DV} {x:Sl Dg} {d:Dg}:c2Dg g [x.dv 32 dgC,.agg (dgC d)]=some (g x d) :=
  zsn4 (f:=fun p:Sl Dg × Dg=>[p.1.dv 32 dgC,.agg (dgC p.2)]) (g:=fun p=>g p.1 p.2) (by
    rintro ⟨a,b⟩ ⟨c,d⟩ e
    simp only [List.cons.injEq,DV.agg.injEq,DV.str.injEq,and_true] at e
    rw [z42k e.1,zib9 e.2]) (x,d)
noncomputable def TxDg:Tbl:=addT 88 (.pure (c2Dg fun x d => .int .i64 (ixDg x d))) tbl0
theorem zf0t:TxDg 88 = .pure (c2Dg fun x d => .int .i64 (ixDg x d)):=by simp [TxDg]
theorem zlgj:TxDg.Sound P:=z0rp (z2au fun p _=>zljw mix zr5o Tryz.func88 zqgj (zf4z p.1 p.2)) zr5o
def zmc8 (x:Sl Dg) (d:Dg):DV := .bool (decide (d ∈ x.l))
theorem z7hp (x:Sl Dg) (d:Dg):Runs TxDg a46 [x.dv 32 dgC,.agg (dgC d)] (zmc8 x d):=by
  refine ⟨?_⟩
  simp (disch:=first|omega|(simp<;>omega)|fail) [-map_take,-map_drop,-map_set,-map_append,-drop_one,a46,zf0t,zkbz,zmc8,zlqg]
theorem zcna:(Con.pure (c2Dg zmc8)).Sound P 46:=z2au fun p _=>zljw mix zlgj Tryz.func46 znv1 (z7hp p.1 p.2)
def ixSt (x:Sl Str) (d:Str):Int:=ixI (fun e=>decide (d=e)) x.l
def SxSt (x:Sl Str) (d:Str) (i:Nat):St:=zzbm (x.dv 1 stC) (.str d) (.int .i64 x.l.length) (.int .i64 i) []
theorem zyli (x:Sl Str) (d:Str):Runs tbl0 a142 [x.dv 1 stC,.str d] (.int .i64 (ixSt x d)):=by
  refine ⟨?_⟩
  have hb:=x.b
  simp (disch:=first|omega|(simp<;>omega)|fail) [-map_take,-map_drop,-map_set,-map_append,-drop_one,a142]
  refine zlm5 (SxSt x d) (fun i=>x.l.length-i) (fun i=>i≤x.l.length ∧ ∀ j (hj:j<x.l.length),j<i→decide (d=x.l[j])=false) 0 (z515 (by simp (disch:=first|omega|(simp<;>omega)|fail) [-map_take,-map_drop,-map_set,-map_append,-drop_one]) (by simp (disch:=first|omega|(simp<;>omega)|fail) [-map_take,-map_drop,-map_set,-map_append,-drop_one])) ⟨by omega,fun j _ hj=>by omega⟩ (fun i hi => ?_)
  obtain ⟨h1,h2⟩:=hi
  simp (disch:=first|omega|(simp<;>omega)|fail) [-map_take,-map_drop,-map_set,-map_append,-drop_one,z3nb,zzbm,SxSt]
  by_cases h:i<x.l.length
  · have h':(i:Int)<x.l.length:=by omega
    have hg:=zalo (x:=x) (h:=[]) zqv6 h
    by_cases e:d=x.l[i]
    · have hr:ixSt x d=i:=zy9u h (by simp [← e]) h2
      simp (disch:=first|omega|(simp<;>omega)|fail) [-map_take,-map_drop,-map_set,-map_append,-drop_one,h',h,hg,← e,hr,stC]
    · simp (disch:=first|omega|(simp<;>omega)|fail) [-map_take,-map_drop,-map_set,-map_append,-drop_one,h',h,hg,e,stC]
      refine ⟨i+1,z515 (by simp (disch:=first|omega|(simp<;>omega)|fail) [-map_take,-map_drop,-map_set,-map_append,-drop_one]) (by simp (disch:=first|omega|(simp<;>omega)|fail) [-map_take,-map_drop,-map_set,-map_append,-drop_one]),by omega,by omega,fun j hj hji => ?_⟩
      by_cases ej:j=i
      · subst ej; simpa using e
      · simpa using h2 j hj (by omega)
  · have h':¬ (i:Int)<x.l.length:=by omega
    have hr:ixSt x d = -1:=zfki (fun j hj=>h2 j hj (by omega))
    simp (disch:=first|omega|(simp<;>omega)|fail) [-map_take,-map_drop,-map_set,-map_append,-drop_one,h,h',hr]
theorem zjwx {x:Sl Str} {d:Str}:0≤ixSt x d↔d ∈ x.l:=by
  constructor
  · intro h
    obtain ⟨i,hi,_,e,_⟩:=zgr5 h
    simp at e
    rw [e]; exact List.getElem_mem hi
  · intro h
    obtain ⟨i,hi,e⟩:=List.getElem_of_mem h
    have:=zkgb (fun e=>decide (d=e)) x.l
    by_cases hn:ixSt x d<0
    · have:=z378 hn i hi
      simp [e] at this
    · omega
noncomputable def c2St (g:Sl Str→Str→DV):List DV→Option DV:=con (fun _=>True) (fun p:Sl Str × Str=>[p.1.dv 1 stC,.str p.2]) (fun p=>g p.1 p.2)
theorem z742 {g:Sl Str→Str→DV} {x:Sl Str} {d:Str}:c2St g [x.dv 1 stC,.str d]=some (g x d) :=
  zsn4 (f:=fun p:Sl Str × Str=>[p.1.dv 1 stC,.str p.2]) (g:=fun p=>g p.1 p.2) (by
    rintro ⟨a,b⟩ ⟨c,d⟩ e
    simp only [List.cons.injEq,DV.agg.injEq,DV.str.injEq,and_true] at e
    rw [z8p4 e.1,e.2]) (x,d)
noncomputable def TxSt:Tbl:=addT 142 (.pure (c2St fun x d => .int .i64 (ixSt x d))) tbl0
theorem zv7b:TxSt 142 = .pure (c2St fun x d => .int .i64 (ixSt x d)):=by simp [TxSt]
theorem z0vj:TxSt.Sound P:=z0rp (z2au fun p _=>zljw mix zr5o Tryz.func142 ztmv (zyli p.1 p.2)) zr5o
def z5by (x:Sl Str) (d:Str):DV := .bool (decide (d ∈ x.l))
theorem zzy9 (x:Sl Str) (d:Str):Runs TxSt a131 [x.dv 1 stC,.str d] (z5by x d):=by
  refine ⟨?_⟩
  simp (disch:=first|omega|(simp<;>omega)|fail) [-map_take,-map_drop,-map_set,-map_append,-drop_one,a131,zv7b,z742,z5by,zjwx]
theorem z4ap:(Con.pure (c2St z5by)).Sound P 131:=z2au fun p _=>zljw mix z0vj Tryz.func131 zsra (zzy9 p.1 p.2)
def zd09 (docs:Sl Dg):DV := .fn (.func 45) [] [.ref [docs.dv 32 dgC]]
theorem zc6z (x:Sl Dg):zyp8 (zd09 x)=true:=by simp [zd09,zyp8,zbao,zpfc]
theorem zrhg {a b:Sl Dg} (h:zd09 a=zd09 b):a=b:=by
  simp only [zd09,DV.fn.injEq,List.cons.injEq,DV.ref.injEq,and_true,true_and] at h
  exact z42k h
noncomputable def T560:Tbl:=addT 46 (.pure (c2Dg zmc8)) tbl0
theorem z6ci:T560 46 = .pure (c2Dg zmc8):=by simp [T560]
theorem z292:T560.Sound P:=z0rp zcna zr5o
theorem z5ol (docs:Sl Dg) (d:Dg):Runs T560 a45 [.agg (dgC d),.ref [docs.dv 32 dgC]] (.bool (!decide (d ∈ docs.l))):=by
  refine ⟨?_⟩
  simp (disch:=first|omega|(simp<;>omega)|fail) [-map_take,-map_drop,-map_set,-map_append,-drop_one,a45,z6ci,zkbz,zmc8]
noncomputable def zfpi:List DV→Option DV:=con (fun _=>True) (fun a:Sl Dg × Dg=>[.agg (dgC a.2),.ref [a.1.dv 32 dgC]]) (fun a => .bool (!decide (a.2 ∈ a.1.l)))
theorem zflx {x:Sl Dg} {d:Dg}:zfpi [.agg (dgC d),.ref [x.dv 32 dgC]]=some (.bool (!decide (d ∈ x.l))) :=
  zsn4 (f:=fun a:Sl Dg × Dg=>[.agg (dgC a.2),.ref [a.1.dv 32 dgC]]) (g:=fun a => .bool (!decide (a.2 ∈ a.1.l))) (by
    rintro ⟨a,b⟩ ⟨c,d⟩ e
    simp only [List.cons.injEq,DV.agg.injEq,DV.ref.injEq,and_true] at e
    rw [zib9 e.1,z42k e.2]) (x,d)
noncomputable def T561:Tbl:=addT 45 (.pure zfpi) tbl0
theorem zpzn:T561 45 = .pure zfpi:=by simp [T561]
theorem zxzi:T561.Sound P:=z0rp (z2au fun a _=>zljw mix z292 Tryz.func45 z94d (z5ol a.1 a.2)) zr5o
inductive Fp where
  | own (n:Str)
  | agr
  | out (d:Sl Dg)
def Fp.fid:Fp→Nat
  | .own _=>127
  | .agr=>128
  | .out _=>51
def Fp.cap:Fp→List DV
  | .own n=>[.ref [.str n]]
  | .agr=>[]
  | .out d=>[.ref [zd09 d]]
def Fp.p:Fp→Fct→Bool
  | .own n,f=>decide (f.own=n)
  | .agr,f=>f.agr
  | .out d,f => !subB f.docs.l d.l
def Fp.dv (s:Fp):DV := .fn (.func s.fid) [] s.cap
theorem Fp.inj : ∀ {a b:Fp},a.fid=b.fid→a.cap=b.cap→a=b:=by
  intro a b h1 h2
  cases a<;>cases b<;>first
    | rfl
    | (simp [Fp.fid] at h1; done)
    | (simp only [Fp.cap,List.cons.injEq,DV.ref.injEq,DV.str.injEq,and_true] at h2; first|rw [h2]|rw [zrhg h2])
theorem Fp.dv_inj {a b:Fp} (h:a.dv=b.dv):a=b:=by
  simp only [Fp.dv,DV.fn.injEq,Fn.func.injEq,true_and] at h
  exact Fp.inj h.1 h.2
theorem ze4c (s:Fp):zbao s.cap=true:=by cases s<;>simp [Fp.cap,zbao,zyp8,zc6z]
theorem zgx6 (s:Fp):zyp8 s.dv=true:=by simp [Fp.dv,zyp8,zbao,ze4c]
theorem z6s7 {h:List AObj} {k:Nat} {s:Fp}:z4tt h k s.cap=some s.cap:=z619 (ze4c s)
theorem zv8v {h:List AObj} {k:Nat} {s:Fp}:snap h k s.dv=some s.dv:=z6nl (zgx6 s)
attribute [simp] z6s7 zv8v
noncomputable def cFp (k:Nat):List DV→Option DV:=con (fun a:Fp × Fct=>a.1.fid=k) (fun a => .agg (faC a.2)::a.1.cap) (fun a => .bool (a.1.p a.2))
theorem zi5i {s:Fp} {f:Fct}:cFp s.fid (.agg (faC f)::s.cap)=some (.bool (s.p f)) :=
  z400 (a:=(s,f)) (by
    rintro ⟨a,f⟩ ⟨b,g⟩ h1 h2 e
    simp only [List.cons.injEq,DV.agg.injEq] at e
    have h1:a.fid=_:=h1
    have h2:b.fid=_:=h2
    rw [z38a e.1,Fp.inj (h1.trans h2.symm) e.2]) rfl
theorem z07s {k:Nat} (h : ∀ (s:Fp) (f:Fct),s.fid=k→Am.Sem P k (.agg (faC f)::s.cap) (.bool (s.p f))):(Con.pure (cFp k)).Sound P k:=z2au fun a ha=>h a.1 a.2 ha
def SfD (x:Sl Dg) (q:Sl Dg) (i:Nat):St:=zlqy (x.dv 32 dgC) (zd09 q) (.int .i64 x.l.length) (.int .i64 i) []
theorem z7x3 (x:Sl Dg) (q:Sl Dg):Runs T561 a89 [x.dv 32 dgC,zd09 q] (.int .i64 (ixI (fun d => !decide (d ∈ q.l)) x.l)):=by
  refine ⟨?_⟩
  have hb:=x.b
  simp (disch:=first|omega|(simp<;>omega)|fail) [-map_take,-map_drop,-map_set,-map_append,-drop_one,a89]
  refine zlm5 (SfD x q) (fun i=>x.l.length-i) (fun i=>i≤x.l.length ∧ ∀ j (hj:j<x.l.length),j<i→(fun d => !decide (d ∈ q.l)) x.l[j]=false) 0 (z515 (by simp (disch:=first|omega|(simp<;>omega)|fail) [-map_take,-map_drop,-map_set,-map_append,-drop_one,SfD,zlqy]) (by simp (disch:=first|omega|(simp<;>omega)|fail) [-map_take,-map_drop,-map_set,-map_append,-drop_one,SfD,zlqy])) ⟨by omega,fun j _ hj=>by omega⟩ (fun i hi => ?_)
  obtain ⟨h1,h2⟩:=hi
  simp (disch:=first|omega|(simp<;>omega)|fail) [-map_take,-map_drop,-map_set,-map_append,-drop_one,z3yv,zlqy,SfD]
  by_cases h:i<x.l.length
  · have h':(i:Int)<x.l.length:=by omega
    have hg:=zalo (x:=x) (h:=[]) z1t1 h
    obtain ⟨f,hf⟩ : ∃ f,x.l[i]=f:=⟨_,rfl⟩
    rw [hf] at hg
    have hcs:=zflx (x:=q) (d:=f)
    cases e:(fun d => !decide (d ∈ q.l)) f with
    | true =>
      have hr:ixI (fun d => !decide (d ∈ q.l)) x.l=i:=zy9u h (by rw [hf]; exact e) h2
      rw [show (!decide (f ∈ q.l))=_ from e] at hcs
      simp (disch:=first|omega|(simp<;>omega)|fail) [-map_take,-map_drop,-map_set,-map_append,-drop_one,h',h,hg,zd09,zpzn,hcs,hr]
    | false =>
      rw [show (!decide (f ∈ q.l))=_ from e] at hcs
      simp (disch:=first|omega|(simp<;>omega)|fail) [-map_take,-map_drop,-map_set,-map_append,-drop_one,h',h,hg,zd09,zpzn,hcs]
      refine ⟨i+1,z515 (by simp (disch:=first|omega|(simp<;>omega)|fail) [-map_take,-map_drop,-map_set,-map_append,-drop_one,SfD,zlqy,zd09,zpzn]) (by simp (disch:=first|omega|(simp<;>omega)|fail) [-map_take,-map_drop,-map_set,-map_append,-drop_one,SfD,zlqy]),by omega,by omega,fun j hj hji => ?_⟩
      by_cases ej:j=i
      · subst ej; rw [hf]; simpa using e
      · simpa using h2 j hj (by omega)
  · have h':¬ (i:Int)<x.l.length:=by omega
    have hr:ixI (fun d => !decide (d ∈ q.l)) x.l = -1:=zfki (fun j hj=>h2 j hj (by omega))
    simp (disch:=first|omega|(simp<;>omega)|fail) [-map_take,-map_drop,-map_set,-map_append,-drop_one,h,h',hr]
noncomputable def zhte:List DV→Option DV:=con (fun _=>True) (fun a:Sl Dg × Sl Dg=>[a.1.dv 32 dgC,zd09 a.2]) (fun a => .int .i64 (ixI (fun d => !decide (d ∈ a.2.l)) a.1.l))
theorem zusk {x:Sl Dg} {q:Sl Dg}:zhte [x.dv 32 dgC,zd09 q]=some (.int .i64 (ixI (fun d => !decide (d ∈ q.l)) x.l)) :=
  zsn4 (f:=fun a:Sl Dg × Sl Dg=>[a.1.dv 32 dgC,zd09 a.2]) (g:=fun a => .int .i64 (ixI (fun d => !decide (d ∈ a.2.l)) a.1.l)) (by
    rintro ⟨a,b⟩ ⟨c,d⟩ e
    simp only [List.cons.injEq,and_true] at e
    rw [z42k e.1,zrhg e.2]) (x,q)
theorem z48n:(Con.pure zhte).Sound P 89:=z2au fun a _=>zljw mix zxzi Tryz.func89 z42j (z7x3 a.1 a.2)
theorem z6h8 {l:List Dg} {q:Sl Dg}:decide (0≤ixI (fun d => !decide (d ∈ q.l)) l) = !subB l q.l:=by
  by_cases h:0≤ixI (fun d => !decide (d ∈ q.l)) l
  · obtain ⟨i,hi,_,e,_⟩:=zgr5 h
    have:subB l q.l=false:=by
      cases hs:subB l q.l with
      | false=>rfl
      | true=>have:=ztci.1 hs l[i] (List.getElem_mem hi); simp [this] at e
    simp [h,this]
  · have:subB l q.l=true:=ztci.2 fun x hx=>by
      obtain ⟨i,hi,e⟩:=List.getElem_of_mem hx
      have:=z378 (p:=fun d => !decide (d ∈ q.l)) (l:=l) (by omega) i hi
      rw [e] at this; simpa using this
    simp [h,this]
noncomputable def T562:Tbl:=addT 89 (.pure zhte) tbl0
theorem z6uk:T562 89 = .pure zhte:=by simp [T562]
theorem zdlz:T562.Sound P:=z0rp z48n zr5o
theorem zq6g (x q:Sl Dg):Runs T562 a47 [x.dv 32 dgC,zd09 q] (.bool (!subB x.l q.l)):=by
  refine ⟨?_⟩
  have h:=zusk (x:=x) (q:=q)
  have hs:snap [] 3 (zd09 q)=some (zd09 q):=z6nl (zc6z q)
  have hx:=z6h8 (l:=x.l) (q:=q)
  obtain ⟨N,hN⟩ : ∃ N,ixI (fun d => !decide (d ∈ q.l)) x.l=N:=⟨_,rfl⟩
  rw [hN] at h hx
  simp (disch:=first|omega|(simp<;>omega)|fail) [-map_take,-map_drop,-map_set,-map_append,-drop_one,a47,z6uk,h,hs,hx]
noncomputable def cCf:List DV→Option DV:=con (fun _=>True) (fun a:Sl Dg × Sl Dg=>[a.1.dv 32 dgC,zd09 a.2]) (fun a => .bool (!subB a.1.l a.2.l))
theorem z8o6 {x q:Sl Dg}:cCf [x.dv 32 dgC,zd09 q]=some (.bool (!subB x.l q.l)) :=
  zsn4 (f:=fun a:Sl Dg × Sl Dg=>[a.1.dv 32 dgC,zd09 a.2]) (g:=fun a => .bool (!subB a.1.l a.2.l)) (by
    rintro ⟨a,b⟩ ⟨c,d⟩ e
    simp only [List.cons.injEq,and_true] at e
    rw [z42k e.1,zrhg e.2]) (x,q)
theorem zkac:(Con.pure cCf).Sound P 47:=z2au fun a _=>zljw mix zdlz Tryz.func47 zzqr (zq6g a.1 a.2)
noncomputable def T563:Tbl:=addT 47 (.pure cCf) tbl0
theorem zaqx:T563 47 = .pure cCf:=by simp [T563]
theorem zbzk:T563.Sound P:=z0rp zkac zr5o
theorem z8ix (d:Sl Dg) (f:Fct):Runs T563 a51 [.agg (faC f),.ref [zd09 d]] (.bool (!subB f.docs.l d.l)):=by
  refine ⟨?_⟩
  have h:=z8o6 (x:=f.docs) (q:=d)
  have hs : ∀ H k,snap H k (zd09 d)=some (zd09 d):=fun H k=>z6nl (zc6z d)
  simp (disch:=first|omega|(simp<;>omega)|fail) [-map_take,-map_drop,-map_set,-map_append,-drop_one,a51,zaqx,h,hs]
theorem zf7l (n:Str) (f:Fct):Runs tbl0 a127 [.agg (faC f),.ref [.str n]] (.bool (decide (f.own=n))):=by
  refine ⟨?_⟩
  simp (disch:=first|omega|(simp<;>omega)|fail) [-map_take,-map_drop,-map_set,-map_append,-drop_one,a127]
theorem zs3q (f:Fct):Runs tbl0 a128 [.agg (faC f)] (.bool f.agr):=by
  refine ⟨?_⟩
  simp (disch:=first|omega|(simp<;>omega)|fail) [-map_take,-map_drop,-map_set,-map_append,-drop_one,a128]
theorem zu0y:(Con.pure (cFp 127)).Sound P 127:=z07s fun s f h=>by
  cases s<;>first
    | (simp [Fp.fid] at h; done)
    | exact zljw mix zr5o Tryz.func127 z6yq (zf7l _ f)
theorem z5yr:(Con.pure (cFp 128)).Sound P 128:=z07s fun s f h=>by
  cases s<;>first
    | (simp [Fp.fid] at h; done)
    | exact zljw mix zr5o Tryz.func128 zv7v (zs3q f)
theorem zxjm:(Con.pure (cFp 51)).Sound P 51:=z07s fun s f h=>by
  cases s<;>first
    | (simp [Fp.fid] at h; done)
    | exact zljw mix zbzk Tryz.func51 z8rx (z8ix _ f)
noncomputable def T564:Tbl:=addT 127 (.pure (cFp 127)) (addT 128 (.pure (cFp 128)) (addT 51 (.pure (cFp 51)) tbl0))
theorem z2vt (s:Fp):T564 s.fid = .pure (cFp s.fid):=by cases s<;>simp [T564,Fp.fid]
theorem zxej:T564.Sound P:=z0rp zu0y (z0rp z5yr (z0rp zxjm zr5o))
def SfF (x:Sl Fct) (q:Fp) (i:Nat):St:=z5pk (x.dv 71 faC) (q.dv) (.int .i64 x.l.length) (.int .i64 i) []
theorem zcdi (x:Sl Fct) (q:Fp):Runs T564 a90 [x.dv 71 faC,q.dv] (.int .i64 (ixI q.p x.l)):=by
  refine ⟨?_⟩
  have hb:=x.b
  simp (disch:=first|omega|(simp<;>omega)|fail) [-map_take,-map_drop,-map_set,-map_append,-drop_one,a90]
  refine zlm5 (SfF x q) (fun i=>x.l.length-i) (fun i=>i≤x.l.length ∧ ∀ j (hj:j<x.l.length),j<i→q.p x.l[j]=false) 0 (z515 (by simp (disch:=first|omega|(simp<;>omega)|fail) [-map_take,-map_drop,-map_set,-map_append,-drop_one,SfF,z5pk]) (by simp (disch:=first|omega|(simp<;>omega)|fail) [-map_take,-map_drop,-map_set,-map_append,-drop_one,SfF,z5pk])) ⟨by omega,fun j _ hj=>by omega⟩ (fun i hi => ?_)
  obtain ⟨h1,h2⟩:=hi
  simp (disch:=first|omega|(simp<;>omega)|fail) [-map_take,-map_drop,-map_set,-map_append,-drop_one,z08j,z5pk,SfF]
  by_cases h:i<x.l.length
  · have h':(i:Int)<x.l.length:=by omega
    have hg:=zalo (x:=x) (h:=[]) zs77 h
    obtain ⟨f,hf⟩ : ∃ f,x.l[i]=f:=⟨_,rfl⟩
    rw [hf] at hg
    have hcs:=zi5i (s:=q) (f:=f)
    cases e:q.p f with
    | true =>
      have hr:ixI q.p x.l=i:=zy9u h (by rw [hf]; exact e) h2
      rw [e] at hcs
      simp (disch:=first|omega|(simp<;>omega)|fail) [-map_take,-map_drop,-map_set,-map_append,-drop_one,h',h,hg,Fp.dv,z2vt,hcs,hr]
    | false =>
      rw [e] at hcs
      simp (disch:=first|omega|(simp<;>omega)|fail) [-map_take,-map_drop,-map_set,-map_append,-drop_one,h',h,hg,Fp.dv,z2vt,hcs]
      refine ⟨i+1,z515 (by simp (disch:=first|omega|(simp<;>omega)|fail) [-map_take,-map_drop,-map_set,-map_append,-drop_one,SfF,z5pk,Fp.dv,z2vt]) (by simp (disch:=first|omega|(simp<;>omega)|fail) [-map_take,-map_drop,-map_set,-map_append,-drop_one,SfF,z5pk]),by omega,by omega,fun j hj hji => ?_⟩
      by_cases ej:j=i
      · subst ej; rw [hf]; simpa using e
      · simpa using h2 j hj (by omega)
  · have h':¬ (i:Int)<x.l.length:=by omega
    have hr:ixI q.p x.l = -1:=zfki (fun j hj=>h2 j hj (by omega))
    simp (disch:=first|omega|(simp<;>omega)|fail) [-map_take,-map_drop,-map_set,-map_append,-drop_one,h,h',hr]
noncomputable def zld3:List DV→Option DV:=con (fun _=>True) (fun a:Sl Fct × Fp=>[a.1.dv 71 faC,a.2.dv]) (fun a => .int .i64 (ixI a.2.p a.1.l))
theorem zjlk {x:Sl Fct} {q:Fp}:zld3 [x.dv 71 faC,q.dv]=some (.int .i64 (ixI q.p x.l)) :=
  zsn4 (f:=fun a:Sl Fct × Fp=>[a.1.dv 71 faC,a.2.dv]) (g:=fun a => .int .i64 (ixI a.2.p a.1.l)) (by
    rintro ⟨a,b⟩ ⟨c,d⟩ e
    simp only [List.cons.injEq,and_true] at e
    rw [z4rf e.1,Fp.dv_inj e.2]) (x,q)
theorem zdfr:(Con.pure zld3).Sound P 90:=z2au fun a _=>zljw mix zxej Tryz.func90 z9pi (zcdi a.1 a.2)
def fAg (x:Sl Str):DV := .fn (.func 130) [] [.ref [x.dv 1 stC]]
theorem zenh {a b:Sl Str} (h:fAg a=fAg b):a=b:=by
  simp only [fAg,DV.fn.injEq,List.cons.injEq,DV.ref.injEq,and_true,true_and] at h
  exact z8p4 h
noncomputable def T565:Tbl:=addT 131 (.pure (c2St z5by)) tbl0
theorem znfs:T565 131 = .pure (c2St z5by):=by simp [T565]
theorem zzml:T565.Sound P:=z0rp z4ap zr5o
theorem zwxm (x:Sl Str) (d:Str):Runs T565 a130 [.str d,.ref [x.dv 1 stC]] (.bool (decide (d ∈ x.l))):=by
  refine ⟨?_⟩
  simp (disch:=first|omega|(simp<;>omega)|fail) [-map_take,-map_drop,-map_set,-map_append,-drop_one,a130,znfs,z742,z5by]
noncomputable def cAg:List DV→Option DV:=con (fun _=>True) (fun a:Sl Str × Str=>[.str a.2,.ref [a.1.dv 1 stC]]) (fun a => .bool (decide (a.2 ∈ a.1.l)))
theorem zr9y {x:Sl Str} {d:Str}:cAg [.str d,.ref [x.dv 1 stC]]=some (.bool (decide (d ∈ x.l))) :=
  zsn4 (f:=fun a:Sl Str × Str=>[.str a.2,.ref [a.1.dv 1 stC]]) (g:=fun a => .bool (decide (a.2 ∈ a.1.l))) (by
    rintro ⟨a,b⟩ ⟨c,d⟩ e
    simp only [List.cons.injEq,DV.str.injEq,DV.ref.injEq,and_true] at e
    rw [e.1,z8p4 e.2]) (x,d)
noncomputable def T566:Tbl:=addT 130 (.pure cAg) tbl0
theorem znqo:T566 130 = .pure cAg:=by simp [T566]
theorem zhcv:T566.Sound P:=z0rp (z2au fun (a:Sl Str × Str) _=>zljw mix zzml Tryz.func130 zndb (zwxm a.1 a.2)) zr5o
def SfS (x:Sl Str) (q:Sl Str) (i:Nat):St:=znr8 (x.dv 1 stC) (fAg q) (.int .i64 x.l.length) (.int .i64 i) []
theorem z8z7 (x:Sl Str) (q:Sl Str):Runs T566 a141 [x.dv 1 stC,fAg q] (.int .i64 (ixI (fun d=>decide (d ∈ q.l)) x.l)):=by
  refine ⟨?_⟩
  have hb:=x.b
  simp (disch:=first|omega|(simp<;>omega)|fail) [-map_take,-map_drop,-map_set,-map_append,-drop_one,a141]
  refine zlm5 (SfS x q) (fun i=>x.l.length-i) (fun i=>i≤x.l.length ∧ ∀ j (hj:j<x.l.length),j<i→(fun d=>decide (d ∈ q.l)) x.l[j]=false) 0 (z515 (by simp (disch:=first|omega|(simp<;>omega)|fail) [-map_take,-map_drop,-map_set,-map_append,-drop_one,SfS,znr8]) (by simp (disch:=first|omega|(simp<;>omega)|fail) [-map_take,-map_drop,-map_set,-map_append,-drop_one,SfS,znr8])) ⟨by omega,fun j _ hj=>by omega⟩ (fun i hi => ?_)
  obtain ⟨h1,h2⟩:=hi
  simp (disch:=first|omega|(simp<;>omega)|fail) [-map_take,-map_drop,-map_set,-map_append,-drop_one,zij2,znr8,SfS]
  by_cases h:i<x.l.length
  · have h':(i:Int)<x.l.length:=by omega
    have hg:=zalo (x:=x) (h:=[]) zqv6 h
    obtain ⟨f,hf⟩ : ∃ f,x.l[i]=f:=⟨_,rfl⟩
    rw [hf] at hg
    have hcs:=zr9y (x:=q) (d:=f)
    cases e:(fun d=>decide (d ∈ q.l)) f with
    | true =>
      have hr:ixI (fun d=>decide (d ∈ q.l)) x.l=i:=zy9u h (by rw [hf]; exact e) h2
      rw [show decide (f ∈ q.l)=_ from e] at hcs
      simp (disch:=first|omega|(simp<;>omega)|fail) [-map_take,-map_drop,-map_set,-map_append,-drop_one,h',h,hg,fAg,znqo,stC,hcs,hr]
    | false =>
      rw [show decide (f ∈ q.l)=_ from e] at hcs
      simp (disch:=first|omega|(simp<;>omega)|fail) [-map_take,-map_drop,-map_set,-map_append,-drop_one,h',h,hg,fAg,znqo,stC,hcs]
      refine ⟨i+1,z515 (by simp (disch:=first|omega|(simp<;>omega)|fail) [-map_take,-map_drop,-map_set,-map_append,-drop_one,SfS,znr8,fAg,znqo,stC]) (by simp (disch:=first|omega|(simp<;>omega)|fail) [-map_take,-map_drop,-map_set,-map_append,-drop_one,SfS,znr8]),by omega,by omega,fun j hj hji => ?_⟩
      by_cases ej:j=i
      · subst ej; rw [hf]; simpa using e
      · simpa using h2 j hj (by omega)
  · have h':¬ (i:Int)<x.l.length:=by omega
    have hr:ixI (fun d=>decide (d ∈ q.l)) x.l = -1:=zfki (fun j hj=>h2 j hj (by omega))
    simp (disch:=first|omega|(simp<;>omega)|fail) [-map_take,-map_drop,-map_set,-map_append,-drop_one,h,h',hr]
noncomputable def zeas:List DV→Option DV:=con (fun _=>True) (fun a:Sl Str × Sl Str=>[a.1.dv 1 stC,fAg a.2]) (fun a => .int .i64 (ixI (fun d=>decide (d ∈ a.2.l)) a.1.l))
theorem zd24 {x:Sl Str} {q:Sl Str}:zeas [x.dv 1 stC,fAg q]=some (.int .i64 (ixI (fun d=>decide (d ∈ q.l)) x.l)) :=
  zsn4 (f:=fun a:Sl Str × Sl Str=>[a.1.dv 1 stC,fAg a.2]) (g:=fun a => .int .i64 (ixI (fun d=>decide (d ∈ a.2.l)) a.1.l)) (by
    rintro ⟨a,b⟩ ⟨c,d⟩ e
    simp only [List.cons.injEq,and_true] at e
    rw [z8p4 e.1,zenh e.2]) (x,q)
theorem z4ei:(Con.pure zeas).Sound P 141:=z2au fun a _=>zljw mix zhcv Tryz.func141 zjg6 (z8z7 a.1 a.2)
end Go.Proofs.YtdnhbfmlklaldaaGreat
set_option linter.unusedSimpArgs false
set_option linter.unusedVariables false
namespace Go.Proofs.YtdnhbfmlklaldaaGreat
open Go Go.Am
def cmV (p:Nat) (l:List Str):DV:=if l=[] then .nils else .ms p l.length 0 1 (zwrc l).length l.length
def cmH (pre:List AObj) (l:List Str):List AObj:=stH pre (zly8 [] l)
theorem zjem {p:Nat} {l:List Str} (h:l≠[]):cmV p l = .ms p l.length 0 1 (zwrc l).length l.length:=if_neg h
theorem zc33 {l:List Str} (h:l≠[]):zly8 [] l≠[]:=fun e=>h (List.eq_nil_of_length_eq_zero (by rw [← zglm [] l,e]; rfl))
theorem zt8r {pre:List AObj} {l:List Str} (h:l≠[]):cmH pre l=pre++[.cells ((zly8 [] l).map .str)]:=zm1n (zc33 h)
def S510 (pre:List AObj) (n:Nat) (l:List Str) (k:Nat):St:=z8io (.ms pre.length n 0 1 n n) (.int .i64 k) (pre++[.cells (l.map .str)])
def S511 (pre:List AObj) (n k0:Nat) (l:List Str) (a:CPg Str):St:=z0wp (.ms pre.length n 0 1 n n) (.int .i64 (zwrc (l.take a.j)).length) (.ms pre.length n k0 1 (n-k0) n) (.int .i64 ((a.j-k0:Nat):Int)) (pre++[.cells (a.M.map .str)])
theorem zgjp {n:Nat}:reps n [DV.str []]=(List.replicate n ([]:Str)).map .str:=by
  induction n with
  | zero=>rfl
  | succ n ih=>rw [List.replicate_succ,List.map_cons,← ih]; rfl
theorem zgup {l:List Str} (h:l.length≤1):zwrc l=l:=by
  match l,h with
  | [],_=>rfl
  | [a],_=>rfl
theorem zo37 (pre:List AObj) (l:List Str) (hb:l.length≤1000000) (hne:l≠[]) :
    RunsH tbl0 a126 [.ms pre.length l.length 0 1 l.length l.length] (pre++[.cells (l.map .str)]) (.ms pre.length l.length 0 1 (zwrc l).length l.length) (pre++[.cells ((zly8 [] l).map .str)]):=by
  refine ⟨?_⟩
  obtain ⟨n,hn⟩ : ∃ n,l.length=n:=⟨_,rfl⟩
  have hn0:0<n:=by rw [← hn]; exact List.length_pos_iff.2 hne
  have hln:lenD (pre++[.cells (l.map .str)]) (.ms pre.length n 0 1 n n)=some (.int .i64 n):=by simp [zrsa,hn]
  rw [hn]
  rw [hn] at hb
  by_cases h2:n<2
  · have h2':(n:Int)<2:=by omega
    have hc:=zgup (l:=l) (by omega)
    have hcl:(zwrc l).length=n:=by rw [hc,hn]
    have ho:=zixv (z:=[]) hc
    rw [hcl,ho]
    simp (disch:=first|omega|(simp<;>omega)|fail) [-map_take,-map_drop,-map_set,-map_append,-drop_one,a126,hln,h2,h2']
  have h2':¬ (n:Int)<2:=by omega
  simp (disch:=first|omega|(simp<;>omega)|fail) [-map_take,-map_drop,-map_set,-map_append,-drop_one,a126,hln,h2,h2']
  refine zlm5 (S510 pre n l) (fun i=>n-i) (fun i=>1≤i∧i≤n∧zwrc (l.take i)=l.take i) 1 (z515 (by simp (disch:=first|omega|(simp<;>omega)|fail) [-map_take,-map_drop,-map_set,-map_append,-drop_one,S510,z8io]) (by simp (disch:=first|omega|(simp<;>omega)|fail) [-map_take,-map_drop,-map_set,-map_append,-drop_one,S510,z8io])) ⟨by omega,by omega,zgup (by simp; omega)⟩ (fun i hi => ?_)
  obtain ⟨h3,h4,h5⟩:=hi
  simp (disch:=first|omega|(simp<;>omega)|fail) [-map_take,-map_drop,-map_set,-map_append,-drop_one,zr1f,z8io,S510,hln]
  by_cases h:i<n
  · have h':(i:Int)<n:=by omega
    have hil:i<l.length:=by omega
    have hi1:(((i:Int)-1)).toNat=i-1:=by omega
    by_cases e:l[i-1]=l[i]
    · simp (disch:=first|omega|(simp<;>omega)|fail) [-map_take,-map_drop,-map_set,-map_append,-drop_one,h,h',hn,zjj2,hi1,e]
      obtain ⟨hs,hk⟩:=CompI.start (by omega) hil h5 e
      refine zlm5 (S511 pre n i l) (fun a=>n-a.j) (fun a=>CompI l i a) ⟨i+1,l⟩ (z515 (by simp (disch:=first|omega|(simp<;>omega)|fail) [-map_take,-map_drop,-map_set,-map_append,-drop_one,S511,z0wp,hk]) (by simp (disch:=first|omega|(simp<;>omega)|fail) [-map_take,-map_drop,-map_set,-map_append,-drop_one,S511,z0wp])) hs (fun a ha => ?_)
      obtain ⟨j,M⟩:=a
      have h6:=ha.j0
      have h7:=ha.j1
      have h8:=ha.len
      have h9:=ha.k
      simp only at h6 h7 h8 h9
      obtain ⟨K,hK⟩ : ∃ K,(zwrc (l.take j)).length=K:=⟨_,rfl⟩
      obtain ⟨J,hJ⟩ : ∃ J,j-i=J:=⟨_,rfl⟩
      rw [hK] at h9
      have hlM:lenD (pre++[.cells (M.map .str)]) (.ms pre.length n i 1 (n-i) n)=some (.int .i64 ((n-i:Nat):Int)):=by simp [zrsa,h8,hn]
      simp (disch:=first|omega|(simp<;>omega)|fail) [-map_take,-map_drop,-map_set,-map_append,-drop_one,z321,z0wp,S511,hK,hJ,hlM]
      by_cases hj:j<n
      · have hj1:(J:Int)<((n-i:Nat):Int):=by omega
        have hj1':J<n-i:=by omega
        have hj2:((J:Int)-1).toNat=J-1:=by omega
        have hj3:i+J=j:=by omega
        have hj4:i+(J-1)=j-1:=by omega
        have hjl:j<l.length:=by omega
        obtain ⟨g1,g2⟩:=ha.get hjl (by simp only; omega) (by simp only; omega)
        simp only at g1 g2
        by_cases e2:l[j-1]=l[j]
        · simp (disch:=first|omega|(simp<;>omega)|fail) [-map_take,-map_drop,-map_set,-map_append,-drop_one,hj1,hj1',hj2,hj3,hj4,hn,h8,zjj2,g1,g2,e2]
          obtain ⟨q1,q2⟩:=ha.same (by omega) hjl e2
          have hJ':j+1-i=J+1:=by omega
          simp only at q1 q2
          exact ⟨⟨j+1,M⟩,z515 (by simp (disch:=first|omega|(simp<;>omega)|fail) [-map_take,-map_drop,-map_set,-map_append,-drop_one,S511,z0wp,q2,hK,hJ']) (by simp (disch:=first|omega|(simp<;>omega)|fail) [-map_take,-map_drop,-map_set,-map_append,-drop_one,S511,z0wp]),by simp only; omega,q1⟩
        · have e2':¬ l[j]=l[j-1]:=fun q=>e2 q.symm
          simp (disch:=first|omega|(simp<;>omega)|fail) [-map_take,-map_drop,-map_set,-map_append,-drop_one,hj1,hj1',hj2,hj3,hj4,hn,h8,zjj2,g1,g2,e2',zxft]
          obtain ⟨q1,q2⟩:=ha.step (by omega) hjl e2
          have hJ':j+1-i=J+1:=by omega
          simp only [hK] at q1 q2
          exact ⟨⟨j+1,M.set K l[j]⟩,z515 (by simp (disch:=first|omega|(simp<;>omega)|fail) [-map_take,-map_drop,-map_set,-map_append,-drop_one,S511,z0wp,q2,hK,hJ']) (by simp (disch:=first|omega|(simp<;>omega)|fail) [-map_take,-map_drop,-map_set,-map_append,-drop_one,S511,z0wp,List.map_set]),by simp only; omega,q1⟩
      · have hj1:¬ (J:Int)<((n-i:Nat):Int):=by omega
        have hj1':¬ J<n-i:=by omega
        obtain rfl:j=n:=by omega
        have hfin:=ha.fin (by simp only; omega)
        simp only at hfin
        have htl:l.take j=l:=List.take_of_length_le (by omega)
        rw [htl] at hK
        rw [hK] at hfin
        have hclr:clrD (pre++[.cells (M.map .str)]) 1 [.str []] (.ms pre.length j K 1 (j-K) j)=some (.tup [],pre++[.cells ((zly8 [] l).map .str)]):=by
          have hov:objV (pre++[.cells (M.map .str)]) pre.length j=some (M.map .str):=by simp [zrsa,h8,hn]
          rw [z7ty (s:=1) (m:=j-K) (off:=K) (ver:=j) (zs:=[.str []]) rfl (by decide) rfl (by omega),hov,Option.map_some,zxft,zgjp]
          have hs:=zem6 (A:=(zwrc l).map DV.str) (B:=(M.drop K).map .str) (C:=(List.replicate (j-K) ([]:Str)).map .str) (by simp; omega)
          rw [← List.map_append,← hfin,← List.map_append,List.length_map,hK] at hs
          rw [hs]
          simp only [zly8,hK,hn,List.set_cons_zero]
        have hol:(zly8 [] l).length=j:=by rw [zglm,hn]
        simp (disch:=first|omega|(simp<;>omega)|fail) [-map_take,-map_drop,-map_set,-map_append,-drop_one,hj1,hj1',hn,h8,zjj2,zxft,hclr,hK,hol]
    · have e':¬ l[i]=l[i-1]:=fun q=>e q.symm
      simp (disch:=first|omega|(simp<;>omega)|fail) [-map_take,-map_drop,-map_set,-map_append,-drop_one,h,h',hn,zjj2,hi1,e']
      refine ⟨i+1,z515 (by simp (disch:=first|omega|(simp<;>omega)|fail) [-map_take,-map_drop,-map_set,-map_append,-drop_one,S510,z8io]) (by simp (disch:=first|omega|(simp<;>omega)|fail) [-map_take,-map_drop,-map_set,-map_append,-drop_one,S510,z8io]),by omega,by omega,by omega,?_⟩
      rw [z6fn (by omega) hil,if_neg e,h5,List.take_succ_eq_append_getElem hil]
  · have h':¬ (i:Int)<n:=by omega
    have e2:l.take i=l:=List.take_of_length_le (by omega)
    rw [e2] at h5
    have ho:=zixv (z:=[]) h5
    simp (disch:=first|omega|(simp<;>omega)|fail) [-map_take,-map_drop,-map_set,-map_append,-drop_one,h,h',ho,h5,hn]
theorem z8bc (pre:List AObj):RunsH tbl0 a126 [.nils] pre .nils pre:=by
  refine ⟨?_⟩
  simp (disch:=first|omega|(simp<;>omega)|fail) [-map_take,-map_drop,-map_set,-map_append,-drop_one,a126]
def cB (a:SA):Prop:=a.2.length≤1000000
def sCmp (a:SA):DV × List AObj:=(cmV a.1.length a.2,cmH a.1 a.2)
theorem zesh {a:SA} (h:cB a):RunsH tbl0 a126 (fOne a) (stH a.1 a.2) (cmV a.1.length a.2) (cmH a.1 a.2):=by
  obtain ⟨pre,l⟩:=a
  by_cases e:l=[]
  · subst e; exact z8bc pre
  · simp only [fOne,z93k e,zm1n e,zjem e,zt8r e]
    exact zo37 pre l h e
theorem zm73:(Con.heap (cSt cB fOne sCmp)).Sound P 126:=z7sf fun a h=>zv22 mix zr5o Tryz.func126 zq5w (zesh h)
theorem zup5 {pre:List AObj} {l:List Str} (h:l.length≤12):cSt sB fOne sSrt [stV pre.length l] (stH pre l)=some (.tup [],stH pre (zxu4 Op.bytesLess l)):=z6bm zshm (a:=(pre,l)) h
theorem zvlb {pre:List AObj} {l:List Str} (h:l.length≤1000000):cSt cB fOne sCmp [stV pre.length l] (stH pre l)=some (cmV pre.length l,cmH pre l):=z6bm zshm (a:=(pre,l)) h
end Go.Proofs.YtdnhbfmlklaldaaGreat
set_option linter.unusedSimpArgs false
set_option linter.unusedVariables false
namespace Go.Proofs.YtdnhbfmlklaldaaGreat
open Go Go.Am
def nms (l:List Fct):List Str:=l.map (·.own)
def nmV (p:Nat) (l:List Fct):DV:=if l=[] then .nils else .ms (p+1) l.length 0 1 (zzy4 l).length l.length
def nmO (l:List Fct):List AObj:=match l with
  | []=>[]
  | f::r=>[.cells (faC f),.cells ((zly8 [] (zxu4 Op.bytesLess (nms (f::r)))).map .str)]
theorem zdnb (l:List Fct):(nms l).length=l.length:=by simp [nms]
theorem ziv1 (l:List Fct):zwrc (zxu4 Op.bytesLess (nms l))=zzy4 l:=zl78 z3gj _
def S570 (x:Sl Fct) (o:Fct) (i:Nat):St:=zfq0 (stV 1 (nms (x.l.take i))) (x.dv 71 faC) (.int .i64 x.l.length) (.int .i64 i) (if nms (x.l.take i)=[] then [] else stH [.cells (faC o)] (nms (x.l.take i)))
noncomputable def T570:Tbl:=addT 125 (.heap (cSt sB fOne sSrt)) (addT 126 (.heap (cSt cB fOne sCmp)) tbl0)
theorem ziw1:T570 125 = .heap (cSt sB fOne sSrt):=by simp [T570]
theorem zh3z:T570 126 = .heap (cSt cB fOne sCmp):=by simp [T570]
theorem ztvz:T570.Sound P:=z0rp z92z (z0rp zm73 zr5o)
theorem zzip {h:List AObj} {id b:Nat} {l:List Str} {x:Str} (hb:b≤16384) (hbig:l.length+1≤4294967296) (ho:objV h id l.length=some (l.map .str)) :
    appX h 1 b (.ms id l.length 0 1 l.length l.length) 1 [.str x]=some (.ms id (l.length+1) 0 1 (l.length+1) (l.length+1),h.set id (.cells ((l++[x]).map .str))):=by
  rw [zbho (by simp) hb (by decide) (by simp) hbig (by simp [DV.one]),ho,Option.map_some,List.map_append]
  rfl
theorem zykc (l:List Str):zbao (l.map DV.str)=true:=by
  induction l with
  | nil=>rfl
  | cons a l ih=>simp [zbao,zyp8,ih]
theorem zp2k {n:Nat} {l:List Str}:z1r6 n (l.map DV.str)=true:=zmq5 n _ (zykc l)
theorem zgdy (x:Sl Fct) (e:x.l=[]):RunsH T570 a105 [x.dv 71 faC] [] (nmV 0 x.l) (nmO x.l):=by
  refine ⟨?_⟩
  have e0:x.l.length=0:=by rw [e]; rfl
  rw [e]
  simp (disch:=first|omega|(simp<;>omega)|fail) [-map_take,-map_drop,-map_set,-map_append,-drop_one,a105]
  refine zlm5 (fun _:Unit=>zfq0 .nils (x.dv 71 faC) (.int .i64 0) (.int .i64 0) []) (fun _=>0) (fun _=>True) () (z515 (by simp (disch:=first|omega|(simp<;>omega)|fail) [-map_take,-map_drop,-map_set,-map_append,-drop_one,zfq0,e0]) (by simp (disch:=first|omega|(simp<;>omega)|fail) [-map_take,-map_drop,-map_set,-map_append,-drop_one,zfq0])) trivial (fun i hi => ?_)
  have h1:=zup5 (pre:=[]) (l:=[]) (by decide)
  have h2:=zvlb (pre:=[]) (l:=[]) (by decide)
  simp only [zejt,z4dm,List.length_nil,show zxu4 Op.bytesLess ([]:List Str)=[] from rfl,show cmV 0 [] = .nils from rfl,show cmH [] []=[] from rfl] at h1 h2
  simp (disch:=first|omega|(simp<;>omega)|fail) [-map_take,-map_drop,-map_set,-map_append,-drop_one,z0tq,zfq0,ziw1,zh3z,h1,h2,nmV,nmO]
set_option maxRecDepth 20000 in
theorem zavm (x:Sl Fct) (hb:x.l.length≤12) (f0:Fct) (r0:List Fct) (e:x.l=f0::r0):RunsH T570 a105 [x.dv 71 faC] [] (nmV 0 x.l) (nmO x.l):=by
  refine ⟨?_⟩
  have e0:0<x.l.length:=by rw [e]; simp
  simp (disch:=first|omega|(simp<;>omega)|fail) [-map_take,-map_drop,-map_set,-map_append,-drop_one,a105]
  refine zlm5 (S570 x f0) (fun i=>x.l.length-i) (fun i=>i≤x.l.length) 0 (z515 (by simp (disch:=first|omega|(simp<;>omega)|fail) [-map_take,-map_drop,-map_set,-map_append,-drop_one,S570,zfq0,nms,zejt]) (by simp (disch:=first|omega|(simp<;>omega)|fail) [-map_take,-map_drop,-map_set,-map_append,-drop_one,S570,zfq0,nms])) (by omega) (fun i hi => ?_)
  simp only [S570]
  by_cases h:i<x.l.length
  · have h':(i:Int)<x.l.length:=by omega
    have hg : ∀ H,zpsc H 71 (x.dv 71 faC) i=some (.ref (faC x.l[i])):=fun H=>zalo zs77 h
    obtain ⟨f,hf⟩ : ∃ f,x.l[i]=f:=⟨_,rfl⟩
    have hn:nms (x.l.take (i+1))=nms (x.l.take i)++[f.own]:=by rw [List.take_succ_eq_append_getElem h,hf]; simp only [nms,List.map_append,List.map_cons,List.map_nil]
    have hl:(nms (x.l.take i)).length=i:=by rw [zdnb,List.length_take]; omega
    rw [hf] at hg
    obtain ⟨L,hL⟩ : ∃ L,nms (x.l.take i)=L:=⟨_,rfl⟩
    rw [hL] at hn hl ⊢
    by_cases eL:L=[]
    · subst eL
      have i0:i=0:=by rw [← hl]; rfl
      subst i0
      have hff:f=f0:=by rw [← hf]; simp [e]
      subst hff
      have hap:=zsuq (h:=[AObj.cells (faC f)]) (s:=1) (b:=16) (m:=1) (cs:=[.str f.own]) (by decide) (by decide) rfl (by decide) (by decide)
      simp only [List.length_cons,List.length_nil,Nat.zero_add] at hap
      have hg0 : ∀ H,zpsc H 71 (x.dv 71 faC) 0=some (.ref (faC f)):=fun H=>hg H
      simp (disch:=first|omega|(simp<;>omega)|fail) [-map_take,-map_drop,-map_set,-map_append,-drop_one,z0tq,zfq0,h,h',hg0,zejt,hap]
      have e1:stV 1 [f.own] = .ms 1 1 0 1 1 1:=rfl
      have e2:stH [.cells (faC f)] [f.own]=[.cells (faC f),.cells [.str f.own]]:=rfl
      rw [List.nil_append] at hn
      exact ⟨1,z515 (by simp (disch:=first|omega|(simp<;>omega)|fail) [-map_take,-map_drop,-map_set,-map_append,-drop_one,S570,zfq0,hn,e1]) (by simp (disch:=first|omega|(simp<;>omega)|fail) [-map_take,-map_drop,-map_set,-map_append,-drop_one,S570,zfq0,hn,e2]),by omega,by omega⟩
    · have hap:=zzip (h:=[AObj.cells (faC f0),.cells (L.map .str),.cells (faC f)]) (id:=1) (b:=16) (l:=L) (x:=f.own) (by decide) (by omega) (by simp [objV,ziu0])
      have e1:=z93k (p:=1) eL
      have e2:=zm1n (pre:=[.cells (faC f0)]) eL
      have e3:stV 1 (L++[f.own]) = .ms 1 (L.length+1) 0 1 (L.length+1) (L.length+1):=by rw [z93k (by simp),List.length_append]; rfl
      have e4:stH [.cells (faC f0)] (L++[f.own])=[.cells (faC f0),.cells ((L++[f.own]).map .str)]:=zm1n (by simp)
      have e5:L++[f.own]≠[]:=by simp
      rw [if_neg eL]
      simp (disch:=first|omega|(simp<;>omega)|fail) [-map_take,-map_drop,-map_set,-map_append,-drop_one,z0tq,zfq0,h,h',hg,e1,e2,hap]
      refine ⟨i+1,zju2 (tail:=[.cells (faC f)]) (by simp (disch:=first|omega|(simp<;>omega)|fail) [-map_take,-map_drop,-map_set,-map_append,-drop_one,S570,zfq0,hn,e3]) (by simp (disch:=first|omega|(simp<;>omega)|fail) [-map_take,-map_drop,-map_set,-map_append,-drop_one,S570,zfq0,hn,e5,e4]) (Nat.zero_le _) (by simp (disch:=first|omega|(simp<;>omega)|fail) [-map_take,-map_drop,-map_set,-map_append,-drop_one,S570,zfq0,hn,z1r6,Am.below,e3,e4,e5]) (by simp (disch:=first|omega|(simp<;>omega)|fail) [-map_take,-map_drop,-map_set,-map_append,-drop_one,S570,zfq0,hn,e4,e5,zlf2,zp2k]),by omega,by omega⟩
  · have h':¬ (i:Int)<x.l.length:=by omega
    have ht:x.l.take i=x.l:=List.take_of_length_le (by omega)
    rw [ht]
    have hne:nms x.l≠[]:=by rw [e]; simp [nms]
    rw [if_neg hne]
    have hln:=zdnb x.l
    have h1:=zup5 (pre:=[.cells (faC f0)]) (l:=nms x.l) (by omega)
    have hsl:(zxu4 Op.bytesLess (nms x.l)).length=(nms x.l).length:=zmgd _
    have h2:=zvlb (pre:=[.cells (faC f0)]) (l:=zxu4 Op.bytesLess (nms x.l)) (by omega)
    have hsn:zxu4 Op.bytesLess (nms x.l)≠[]:=ztug hne
    have hv:stV 1 (zxu4 Op.bytesLess (nms x.l))=stV 1 (nms x.l):=by rw [z93k hsn,z93k hne,hsl]
    have hxl:x.l≠[]:=by rw [e]; simp
    have hr1:cmV 1 (zxu4 Op.bytesLess (nms x.l))=nmV 0 x.l:=by rw [zjem hsn,hsl,ziv1,hln,nmV,if_neg hxl]
    have hr2:cmH [.cells (faC f0)] (zxu4 Op.bytesLess (nms x.l))=nmO x.l:=by rw [zt8r hsn,e]; rfl
    simp only [List.length_cons,List.length_nil,Nat.zero_add] at h1 h2
    rw [hv,hr1,hr2] at h2
    simp (disch:=first|omega|(simp<;>omega)|fail) [-map_take,-map_drop,-map_set,-map_append,-drop_one,z0tq,zfq0,h,h',ziw1,zh3z,h1,h2]
theorem z8o9 (x:Sl Fct) (hb:x.l.length≤12):RunsH T570 a105 [x.dv 71 faC] [] (nmV 0 x.l) (nmO x.l):=by
  cases e:x.l with
  | nil=>rw [← e]; exact zgdy x e
  | cons f r=>rw [← e]; exact zavm x hb f r e
noncomputable def cOwn:List DV→Nat→Option (DV × List AObj):=conN (fun x:Sl Fct=>x.l.length≤12) (fun x=>[x.dv 71 faC]) (fun x=>(nmV 0 x.l,nmO x.l))
theorem zd3p {k:Nat} {l:List Fct}:shD k (nmV 0 l)=nmV k l:=by
  unfold nmV; split
  · rfl
  · simp only [shD]
theorem zjz1 {k:Nat} {l:List Fct}:(nmO l).map (shO k)=nmO l:=by
  cases l with
  | nil=>rfl
  | cons f r=>simp only [nmO,List.map_cons,List.map_nil,z05k,zj45 k _ (z93p f),zj45 k _ (zykc _)]
theorem zj2t {x:Sl Fct} {k:Nat} (h:x.l.length≤12):cOwn [x.dv 71 faC] k=some (nmV k x.l,nmO x.l):=by
  have:=zqtp (A:=fun x:Sl Fct=>x.l.length≤12) (f:=fun x:Sl Fct=>[x.dv 71 faC]) (g:=fun x=>(nmV 0 x.l,nmO x.l)) (fun a b e=>by
    simp only [List.cons.injEq,and_true] at e
    rw [z4rf e]) x h k
  rw [zd3p,zjz1] at this
  exact this
theorem z0u2:(Con.new cOwn).Sound P 105:=z3ld (fun x _=>by simp [zbao]) fun x h=>zv22 mix ztvz Tryz.func105 z9rf (z8o9 x h)
end Go.Proofs.YtdnhbfmlklaldaaGreat
set_option linter.unusedSimpArgs false
set_option linter.unusedVariables false
namespace Go.Proofs.YtdnhbfmlklaldaaGreat
open Go Go.Am
theorem znpa {α:Type} {p:α→Bool} {l:List α} {k:Nat} (hk:k<l.length) (h1:p l[k]=true) (h2 : ∀ j (hj:j<l.length),j<k→p l[j]=false):l.find? p=some l[k]:=by
  rw [List.find?_eq_some_iff_getElem]
  exact ⟨h1,k,hk,rfl,fun j hj=>by rw [h2 j (by omega) hj]; rfl⟩
def zkur (x:Sl Fct) (y:Sl Str):Prop:=y.l.length≤1000∧(∀ f ∈ x.l,f.docs.l.length≤1000) ∧ ∀ n ∈ y.l,∃ f ∈ x.l,f.own=n
noncomputable def T571:Tbl:=addT 90 (.pure zld3) tbl0
theorem zbmz:T571 90 = .pure zld3:=by simp [T571]
theorem zjb9:T571.Sound P:=z0rp zdfr zr5o
structure DP where
  i:Nat
  o:Str
def S571 (x:Sl Fct) (y:Sl Str) (a:DP):St:=z3x7 (x.dv 71 faC) (gV 32 (ztt8 x.l (y.l.take a.i))) (y.dv 1 stC) (.int .i64 y.l.length) (.int .i64 a.i) (gH dgC (.cells [.str a.o]) (ztt8 x.l (y.l.take a.i)))
theorem zvix {l:List Fct} {m:List Str} {n:Str}:ztt8 l (m++[n])=ztt8 l m++zm3u l n:=by simp [ztt8]
theorem z5lv {l:List Fct} {m:List Str} (h : ∀ f ∈ l,f.docs.l.length≤1000):(ztt8 l m).length≤m.length*1000:=zqok fun n _=>by
  unfold zm3u; split
  · rename_i f e; exact h f (List.mem_of_find?_eq_some e)
  · simp
set_option maxRecDepth 20000 in
theorem zjok (x:Sl Fct) (y:Sl Str) (hok:zkur x y):Runs T571 a108 [x.dv 71 faC,y.dv 1 stC] ((ownN (ztt8 x.l y.l)).dv 32 dgC):=by
  obtain ⟨k1,k2,k3⟩:=hok
  refine ⟨?_⟩
  simp (disch:=first|omega|(simp<;>omega)|fail) [-map_take,-map_drop,-map_set,-map_append,-drop_one,a108]
  refine zlm5 (S571 x y) (fun a=>y.l.length-a.i) (fun a=>a.i≤y.l.length) ⟨0,[]⟩ (z515 (by simp (disch:=first|omega|(simp<;>omega)|fail) [-map_take,-map_drop,-map_set,-map_append,-drop_one,S571,z3x7,ztt8,gV]) (by simp (disch:=first|omega|(simp<;>omega)|fail) [-map_take,-map_drop,-map_set,-map_append,-drop_one,S571,z3x7,ztt8,gH])) (by simp) (fun a hi => ?_)
  obtain ⟨i,o⟩:=a
  simp only at hi
  simp only [S571]
  have hlen:=z5lv (l:=x.l) (m:=y.l.take i) k2
  have hti:(y.l.take i).length≤1000:=by rw [List.length_take]; omega
  by_cases h:i<y.l.length
  · have h':(i:Int)<y.l.length:=by omega
    have hg : ∀ H,zpsc H 1 (y.dv 1 stC) i=some (.ref (stC y.l[i])):=fun H=>zalo zqv6 h
    obtain ⟨n,hn⟩ : ∃ n,y.l[i]=n:=⟨_,rfl⟩
    have hmem : ∃ f ∈ x.l,f.own=n:=k3 n (hn▸List.getElem_mem h)
    rw [hn] at hg
    have hs:ztt8 x.l (y.l.take (i+1))=ztt8 x.l (y.l.take i)++zm3u x.l n:=by rw [List.take_succ_eq_append_getElem h,hn,zvix]
    obtain ⟨k,hk,hke,hkp,hkf⟩ : ∃ (k:Nat) (hk:k<x.l.length),ixI (Fp.own n).p x.l=k∧(Fp.own n).p x.l[k]=true ∧ ∀ j (hj:j<x.l.length),j<k→(Fp.own n).p x.l[j]=false:=by
      refine zgr5 ?_
      refine Classical.byContradiction fun hc => ?_
      obtain ⟨f,h1,h2⟩:=hmem
      obtain ⟨j,hj,e⟩:=List.getElem_of_mem h1
      have:=z378 (p:=(Fp.own n).p) (l:=x.l) (by omega) j hj
      simp [Fp.p,e,h2] at this
    have hcs:zld3 [x.dv 71 faC,.fn (.func 127) [] [.ref [.str n]]]=some (.int .i64 k):=by
      rw [← hke]; exact zjlk (x:=x) (q := .own n)
    have hg2 : ∀ H,zpsc H 71 (x.dv 71 faC) k=some (.ref (faC x.l[k])):=fun H=>zalo zs77 hk
    have hfd:zm3u x.l n=x.l[k].docs.l:=by
      unfold zm3u; rw [znpa (p:=fun f:Fct=>decide (f.own=n)) hk hkp hkf]
    have hdl:x.l[k].docs.l.length≤1000:=k2 _ (List.getElem_mem hk)
    rw [hfd] at hs
    obtain ⟨D,hD⟩ : ∃ D,x.l[k].docs=D:=⟨_,rfl⟩
    rw [hD] at hs hdl
    obtain ⟨F,hF⟩ : ∃ F,x.l[k]=F:=⟨_,rfl⟩
    rw [hF] at hg2 hD
    subst hD
    obtain ⟨L,hL⟩ : ∃ L,ztt8 x.l (y.l.take i)=L:=⟨_,rfl⟩
    rw [hL] at hs hlen ⊢
    have hv : ∀ H,visY H (F.docs.dv 32 dgC)=some (F.docs.l.length,F.docs.l.flatMap dgC):=fun H=>zwaa z1t1
    by_cases e:L=[]
    · subst e
      rw [List.nil_append] at hs
      by_cases e2:F.docs.l=[]
      · have hap:=zw6v (h:=[AObj.cells [.str n]]) (s:=32) (b:=32) (by decide) (by decide)
        have hv2 : ∀ H,visY H (F.docs.dv 32 dgC)=some (0,[]):=fun H=>by rw [hv,e2]; rfl
        rw [e2] at hs
        simp (disch:=first|omega|(simp<;>omega)|fail) [-map_take,-map_drop,-map_set,-map_append,-drop_one,z990,z3x7,h,h',hg,stC,zbmz,hcs,hg2,zq1z,z1yk,hv2,hap]
        exact ⟨⟨i+1,o⟩,zju2 (tail:=[.cells [.str n]]) (by simp (disch:=first|omega|(simp<;>omega)|fail) [-map_take,-map_drop,-map_set,-map_append,-drop_one,S571,z3x7,hs,zq1z]) (by simp (disch:=first|omega|(simp<;>omega)|fail) [-map_take,-map_drop,-map_set,-map_append,-drop_one,S571,z3x7,hs,z1yk]) (Nat.zero_le _) (by simp (disch:=first|omega|(simp<;>omega)|fail) [-map_take,-map_drop,-map_set,-map_append,-drop_one,S571,z3x7,hs,zq1z,z1r6,Am.below]) (by simp (disch:=first|omega|(simp<;>omega)|fail) [-map_take,-map_drop,-map_set,-map_append,-drop_one,S571,z3x7,hs,z1yk,zlf2]),by simp only; omega,by simp only; omega⟩
      · have hpos:0<F.docs.l.length:=List.length_pos_iff.2 e2
        have hcl:(F.docs.l.flatMap dgC).length=F.docs.l.length*32:=z1rq z1t1 _
        have hap:=zsuq (h:=[AObj.cells [.str n]]) (s:=32) (b:=32) (m:=F.docs.l.length) (cs:=F.docs.l.flatMap dgC) (by decide) (by decide) hcl.symm hpos (by omega)
        rw [hcl] at hap
        have e3:=z6zt (K:=32) e2
        have e4:=zju3 (f:=dgC) (o := .cells [.str n]) e2
        have e5:fl dgC F.docs.l=F.docs.l.flatMap dgC:=rfl
        simp only [List.length_cons,List.length_nil,Nat.zero_add] at hap
        simp (disch:=first|omega|(simp<;>omega)|fail) [-map_take,-map_drop,-map_set,-map_append,-drop_one,z990,z3x7,h,h',hg,stC,zbmz,hcs,hg2,zq1z,z1yk,hv,hap]
        exact ⟨⟨i+1,n⟩,z515 (by simp (disch:=first|omega|(simp<;>omega)|fail) [-map_take,-map_drop,-map_set,-map_append,-drop_one,S571,z3x7,hs,e3]) (by simp (disch:=first|omega|(simp<;>omega)|fail) [-map_take,-map_drop,-map_set,-map_append,-drop_one,S571,z3x7,hs,e4,e5]),by simp only; omega,by simp only; omega⟩
    · have hap:=zvrp (h:=[AObj.cells [.str o],.cells (fl dgC L),.cells [.str n]]) (id:=1) (b:=32) (l:=L) (m:=F.docs.l.length) (cs:=F.docs.l) z1t1 (by decide) (by decide) (fun _=>zoxk) rfl (by omega) (by simp [objV,ziu0,z8lx z1t1])
      have e1:=z6zt (K:=32) e
      have e2:=zju3 (f:=dgC) (o := .cells [.str o]) e
      have e0:L++F.docs.l≠[]:=by simp [e]
      have e3:=z6zt (K:=32) e0
      have e4:=zju3 (f:=dgC) (o := .cells [.str o]) e0
      rw [List.length_append] at e3
      simp (disch:=first|omega|(simp<;>omega)|fail) [-map_take,-map_drop,-map_set,-map_append,-drop_one,z990,z3x7,h,h',hg,stC,zbmz,hcs,hg2,e1,e2,hv,hap]
      exact ⟨⟨i+1,o⟩,zju2 (tail:=[.cells [.str n]]) (by simp (disch:=first|omega|(simp<;>omega)|fail) [-map_take,-map_drop,-map_set,-map_append,-drop_one,S571,z3x7,hs,e3]) (by simp (disch:=first|omega|(simp<;>omega)|fail) [-map_take,-map_drop,-map_set,-map_append,-drop_one,S571,z3x7,hs,e4]) (Nat.zero_le _) (by simp (disch:=first|omega|(simp<;>omega)|fail) [-map_take,-map_drop,-map_set,-map_append,-drop_one,S571,z3x7,hs,e3,e4,z1r6,Am.below]) (by simp only [S571,z3x7,hs]; exact z5x4 z3ot (by simp [zbao,zyp8])),by simp only; omega,by simp only; omega⟩
  · have h':¬ (i:Int)<y.l.length:=by omega
    have ht:y.l.take i=y.l:=List.take_of_length_le (by omega)
    rw [ht] at hlen ⊢
    have hsn:=znhj (f:=dgC) (o := .cells [.str o]) (l:=ztt8 x.l y.l) (X:=[]) z1t1 z3ot (by omega)
    rw [List.append_nil] at hsn
    simp (disch:=first|omega|(simp<;>omega)|fail) [-map_take,-map_drop,-map_set,-map_append,-drop_one,z990,z3x7,h,h',hsn]
noncomputable def cDoc:List DV→Option DV:=con (fun a:Sl Fct × Sl Str=>zkur a.1 a.2) (fun a=>[a.1.dv 71 faC,a.2.dv 1 stC]) (fun a=>(ownN (ztt8 a.1.l a.2.l)).dv 32 dgC)
theorem zk58 {x:Sl Fct} {y:Sl Str} (h:zkur x y):cDoc [x.dv 71 faC,y.dv 1 stC]=some ((ownN (ztt8 x.l y.l)).dv 32 dgC) :=
  zlyi (f:=fun a:Sl Fct × Sl Str=>[a.1.dv 71 faC,a.2.dv 1 stC]) (g:=fun a=>(ownN (ztt8 a.1.l a.2.l)).dv 32 dgC) (by
    rintro ⟨a,b⟩ ⟨c,d⟩ e
    simp only [List.cons.injEq,and_true] at e
    rw [z4rf e.1,z8p4 e.2]) (x,y) h
theorem z6o4:(Con.pure cDoc).Sound P 108:=z2au fun a h=>zljw mix zjb9 Tryz.func108 zh50 (zjok a.1 a.2 h)
theorem z0dj (n:Int):Runs tbl0 a106 [.int .i64 n] (.agg (suC (zcc9 n))):=by
  refine ⟨?_⟩
  have e:zvnk [DV.bool false,.nils,.int .i64 0] [(2,1,.int .i64 n)]=some (.agg (suC (zcc9 n))):=rfl
  simp (disch:=first|omega|(simp<;>omega)|fail) [-map_take,-map_drop,-map_set,-map_append,-drop_one,a106,e]
noncomputable def ztk6:List DV→Option DV
  | [.int .i64 t]=>some (.agg (suC (zcc9 t)))|_=>none
theorem zg94 {t:Int}:ztk6 [.int .i64 t]=some (.agg (suC (zcc9 t))):=rfl
theorem z38w:(Con.pure ztk6).Sound P 106:=by
  intro args v e
  unfold ztk6 at e
  split at e
  · simp at e; subst e; exact zljw mix zr5o Tryz.func106 zex6 (z0dj _)
  · simp at e
noncomputable def T572:Tbl:=addT 110 (.pure zp5o) tbl0
theorem zq8u:T572 110 = .pure zp5o:=by simp [T572]
theorem zzno:T572.Sound P:=z0rp zce9 zr5o
theorem zxjc {x:Sl Dg}:zvnk [DV.bool false,.nils,.int .i64 0] [(0,1,.bool true),(1,1,x.dv 32 dgC)]=some (.agg [.bool true,x.dv 32 dgC,.int .i64 0]):=by
  obtain ⟨k,l,h,hb⟩:=x
  cases k<;>rfl
theorem zgxp (x:Sl Dg) (h:x.l.length≤12):Runs T572 a107 [x.dv 32 dgC] (.agg (suC (zp7s x))):=by
  refine ⟨?_⟩
  have e:=zxjc (x:=zln3 x)
  have e2:[DV.bool true,(zln3 x).dv 32 dgC,.int .i64 0]=suC (zp7s x):=rfl
  rw [e2] at e
  simp (disch:=first|omega|(simp<;>omega)|fail) [-map_take,-map_drop,-map_set,-map_append,-drop_one,a107,zq8u,zoh6 h,e]
noncomputable def zzr5:List DV→Option DV:=con (fun x:Sl Dg=>x.l.length≤12) (fun x=>[x.dv 32 dgC]) (fun x => .agg (suC (zp7s x)))
theorem zk0w {x:Sl Dg} (h:x.l.length≤12):zzr5 [x.dv 32 dgC]=some (.agg (suC (zp7s x))) :=
  zlyi (f:=fun x:Sl Dg=>[x.dv 32 dgC]) (g:=fun x => .agg (suC (zp7s x))) (fun a b e=>by simp only [List.cons.injEq,and_true] at e; rw [z42k e]) x h
theorem ztbv:(Con.pure zzr5).Sound P 107:=z2au fun x h=>zljw mix zzno Tryz.func107 z38u (zgxp x h)
end Go.Proofs.YtdnhbfmlklaldaaGreat
set_option linter.unusedSimpArgs false
set_option linter.unusedVariables false
namespace Go.Proofs.YtdnhbfmlklaldaaGreat
open Go Go.Am
set_option linter.unusedSectionVars false
section
variable {α:Type} {p:α→Bool}
theorem zmmk {l M:List α} {i:Nat} (h:M.drop i=l.drop i):M.drop (i+1)=l.drop (i+1):=by
  have:=congrArg (List.drop 1) h
  simpa [List.drop_drop] using this
def kp (p:α→Bool) (l:List α):List α:=l.filter fun a => !p a
theorem zomf (l:List α):(kp p l).length≤l.length:=List.length_filter_le _ _
theorem zlg5 {l:List α} {j:Nat} (h:j<l.length):kp p (l.take (j+1))=if p l[j] then kp p (l.take j) else kp p (l.take j)++[l[j]]:=by
  rw [List.take_succ_eq_append_getElem h,kp,List.filter_append,← kp]
  by_cases e:p l[j]=true<;>simp [e]
theorem ztn8 {l:List α} (h : ∀ a ∈ l,p a=false):kp p l=l:=List.filter_eq_self.2 fun a ha=>by rw [h a ha]; rfl
structure DelI (p:α→Bool) (l:List α) (a:CPg α):Prop where
  j1:a.j≤l.length
  len:a.M.length=l.length
  t:a.M.take (kp p (l.take a.j)).length=kp p (l.take a.j)
  d:a.M.drop a.j=l.drop a.j
  k:(kp p (l.take a.j)).length≤a.j
theorem DelI.start {l:List α} {i:Nat} (h:i<l.length) (hp:p l[i]=true) (hn : ∀ j (hj:j<l.length),j<i→p l[j]=false):DelI p l ⟨i+1,l⟩∧(kp p (l.take (i+1))).length=i:=by
  have e1:kp p (l.take i)=l.take i:=ztn8 fun a ha=>by
    obtain ⟨j,hj,e⟩:=List.getElem_of_mem ha
    rw [List.length_take] at hj
    rw [← e,List.getElem_take]; exact hn j (by omega) (by omega)
  have e2:kp p (l.take (i+1))=l.take i:=by rw [zlg5 h,if_pos hp,e1]
  have e3:(l.take i).length=i:=by rw [List.length_take]; omega
  refine ⟨⟨h,rfl,?_,rfl,?_⟩,by rw [e2,e3]⟩
  · simp only [e2,e3]
  · simp only [e2,e3]; omega
theorem DelI.get {l:List α} {a:CPg α} (h:DelI p l a) (hj:a.j<l.length) (h1:a.j<a.M.length):a.M[a.j]=l[a.j]:=by
  have hd:=h.d
  have e1:(a.M.drop a.j)[0]'(by simp; omega)=(l.drop a.j)[0]'(by simp; omega):=by simp only [hd]
  simpa only [List.getElem_drop,Nat.add_zero] using e1
theorem DelI.del {l:List α} {a:CPg α} (h:DelI p l a) (hj:a.j<l.length) (e:p l[a.j]=true):DelI p l ⟨a.j+1,a.M⟩∧kp p (l.take (a.j+1))=kp p (l.take a.j):=by
  have ec:kp p (l.take (a.j+1))=kp p (l.take a.j):=by rw [zlg5 hj,if_pos e]
  have hd:=zmmk h.d
  exact ⟨⟨hj,h.len,by simp only [ec]; exact h.t,hd,by have:=h.k; simp only [ec]; omega⟩,ec⟩
theorem DelI.keep {l:List α} {a:CPg α} (h:DelI p l a) (hj:a.j<l.length) (e:¬ p l[a.j]=true):DelI p l ⟨a.j+1,a.M.set (kp p (l.take a.j)).length l[a.j]⟩∧(kp p (l.take (a.j+1))).length=(kp p (l.take a.j)).length+1:=by
  have hk:=h.k
  have hl:=h.len
  have ht:=h.t
  have ec:kp p (l.take (a.j+1))=kp p (l.take a.j)++[l[a.j]]:=by rw [zlg5 hj,if_neg e]
  have el:(kp p (l.take (a.j+1))).length=(kp p (l.take a.j)).length+1:=by rw [ec]; simp
  obtain ⟨C,hC⟩ : ∃ C,kp p (l.take a.j)=C:=⟨_,rfl⟩
  rw [hC] at ec el hk ht ⊢
  have hd:=zmmk h.d
  refine ⟨⟨hj,by simp only [List.length_set]; exact hl,?_,?_,by simp only [el]; omega⟩,el⟩
  · show (a.M.set C.length l[a.j]).take (kp p (l.take (a.j+1))).length=kp p (l.take (a.j+1))
    rw [el,ec]
    rw [List.set_eq_take_append_cons_drop,if_pos (by omega),ht,List.take_append,List.take_of_length_le (by omega),show C.length+1-C.length=1 by omega]
    rfl
  · simp only
    rw [List.drop_set,if_pos (by omega)]
    exact hd
theorem DelI.fin {l:List α} {a:CPg α} (h:DelI p l a) (hj:a.j=l.length):a.M=kp p l++a.M.drop (kp p l).length:=by
  have ht:=h.t
  rw [hj,List.take_length] at ht
  have:=(List.take_append_drop (kp p l).length a.M).symm
  rw [ht] at this
  exact this
def delO (z:α) (p:α→Bool) (l:List α):List α:=kp p l++List.replicate (l.length-(kp p l).length) z
theorem zwda (z:α) (l:List α):(delO z p l).length=l.length:=by have:=zomf (p:=p) l; simp [delO]; omega
theorem zuia {z:α} {l:List α} (h:kp p l=l):delO z p l=l:=by simp [delO,h]
theorem z8wb {z:α} {l:List α} (h:l≠[]):delO z p l≠[]:=fun e=>h (List.eq_nil_of_length_eq_zero (by rw [← zwda (p:=p) z l,e]; rfl))
theorem zgcl {z:α} {l:List α}:(delO z p l).take (kp p l).length=kp p l:=by rw [delO]; simp
end
theorem zrpz {pre l:List AObj} {ver:Nat}:objV (pre++l) (pre.length+1) ver=objV l 1 ver:=by
  unfold objV ziu0; rw [List.getElem?_append_right (by omega),show pre.length+1-pre.length=1 by omega]
theorem z6rf {pre l:List AObj} {o:AObj}:(pre++l).set (pre.length+1) o=pre++l.set 1 o:=by rw [List.set_append_right _ _ (by omega)]; simp
theorem zq4p (x:Sl Fct):RunsH tbl0 a50 [x.dv 71 faC] [] (mutD 0 71 x faC) (mo faC x.l):=by
  refine ⟨?_⟩
  obtain ⟨k,l,h,hb⟩:=x
  cases k with
  | none =>
    have hl:l=[]:=h rfl
    subst hl
    simp (disch:=first|omega|(simp<;>omega)|fail) [-map_take,-map_drop,-map_set,-map_append,-drop_one,a50,z5oj]
    exact ⟨by rw [zpj6 rfl]; rfl,z7sv⟩
  | some b =>
    have hb:l.length≤4294967296:=hb
    by_cases hl:l=[]
    · subst hl; simp (disch:=first|omega|(simp<;>omega)|fail) [-map_take,-map_drop,-map_set,-map_append,-drop_one,a50,z707,mutD,mo,Sl.clone]
    · have h1:=z1rq zs77 l
      have h2:=z9jy (f:=faC) (fun _=>zfgo) l
      have h3:0<l.length:=List.length_pos_iff.2 hl
      simp (disch:=first|omega|(simp<;>omega)|fail) [-map_take,-map_drop,-map_set,-map_append,-drop_one,a50,z707,mutD,mo,fl,hl,h1,h2,h3]
noncomputable def cNF:List DV→Nat→Option (DV × List AObj):=conN (fun _=>True) (fun x:Sl Fct=>[x.dv 71 faC]) (fun x=>(mutD 0 71 x faC,mo faC x.l))
theorem zrkp {x:Sl Fct} {n:Nat}:cNF [x.dv 71 faC] n=some (mutD n 71 x faC,mo faC x.l):=by
  have:=zqtp (A:=fun _=>True) (f:=fun x:Sl Fct=>[x.dv 71 faC]) (g:=fun x=>(mutD 0 71 x faC,mo faC x.l)) (fun a b e=>by
    simp only [List.cons.injEq,and_true] at e
    rw [z4rf e]) x trivial n
  rw [zaip z93p,z2b7 z93p] at this
  exact this
theorem zu1a:(Con.new cNF).Sound P 50:=z3ld (fun x _=>by simp [zbao]) fun x _=>zv22 mix zr5o Tryz.func50 z12y (zq4p x)
structure DF where
  pre:List AObj
  caps:List DV
  p:Fp
  x:Sl Fct
def DF.fn (a:DF):DV := .fn (.func a.p.fid) [] a.caps
theorem zck5:faC fct0=[.int .i64 0,.str [],w8 0#8,w8 0#8,w8 0#8,w8 0#8,w8 0#8,w8 0#8,w8 0#8,w8 0#8,w8 0#8,w8 0#8,w8 0#8,w8 0#8,w8 0#8,w8 0#8,w8 0#8,w8 0#8,w8 0#8,w8 0#8,w8 0#8,w8 0#8,w8 0#8,w8 0#8,w8 0#8,w8 0#8,w8 0#8,w8 0#8,w8 0#8,w8 0#8,w8 0#8,w8 0#8,w8 0#8,w8 0#8,.str [],.str [],.int .i64 0,.bool false,w8 0#8,w8 0#8,w8 0#8,w8 0#8,w8 0#8,w8 0#8,w8 0#8,w8 0#8,w8 0#8,w8 0#8,w8 0#8,w8 0#8,w8 0#8,w8 0#8,w8 0#8,w8 0#8,w8 0#8,w8 0#8,w8 0#8,w8 0#8,w8 0#8,w8 0#8,w8 0#8,w8 0#8,w8 0#8,w8 0#8,w8 0#8,w8 0#8,w8 0#8,w8 0#8,w8 0#8,w8 0#8,.nils]:=rfl
theorem zavu {n:Nat} {l:List DV} : ∀ {a:List AObj},zlf2 n a=true→z1r6 n l=true→zlf2 n (a++[.cells l])=true
  | [],_,h=>by simp [zlf2,h]
  | .cells c::r,h1,h2=>by simp only [List.cons_append,zlf2,Bool.and_eq_true] at *; exact ⟨h1.1,zavu h1.2 h2⟩
  | .dead::r,h1,h2=>by simp only [List.cons_append,zlf2] at *; exact zavu h1 h2
structure DFOK (a:DF):Prop where
  s : ∀ X,z4tt (a.pre++X) 3 a.caps=some a.p.cap
  b:z1r6 (a.pre.length+1) a.caps=true
  h:zlf2 (a.pre.length+1) a.pre=true
  n:a.x.l.length≤1000000
noncomputable def T575:Tbl:=addT 90 (.pure zld3) T564
theorem zn0k:T575 90 = .pure zld3:=by simp [T575]
theorem zdf7 (s:Fp):T575 s.fid = .pure (cFp s.fid):=by cases s<;>simp [T575,T564,Fp.fid]
theorem zqp8:T575.Sound P:=z0rp zdfr zxej
def S575 (d:DF) (n:Nat) (a:CPg Fct):St:=zvur (.ms d.pre.length (n*71) 0 71 n (n*71)) d.fn (.int .i64 (kp d.p.p (d.x.l.take a.j)).length) (.int .i64 a.j) (d.pre++[.cells (fl faC a.M)])
set_option maxRecDepth 20000 in
theorem zue3 (d:DF) (ok:DFOK d) (hne:d.x.l≠[]):RunsH T575 a49 [.ms d.pre.length (d.x.l.length*71) 0 71 d.x.l.length (d.x.l.length*71),d.fn] (d.pre++[.cells (fl faC d.x.l)]) (.ms d.pre.length (d.x.l.length*71) 0 71 (kp d.p.p d.x.l).length (d.x.l.length*71)) (d.pre++[.cells (fl faC (delO fct0 d.p.p d.x.l))]):=by
  refine ⟨?_⟩
  obtain ⟨pre,caps,p,x⟩:=d
  obtain ⟨ks,kb,kh,kn⟩:=ok
  simp only [DF.fn] at *
  obtain ⟨n,hn⟩ : ∃ n,x.l.length=n:=⟨_,rfl⟩
  have hn0:0<n:=by rw [← hn]; exact List.length_pos_iff.2 hne
  rw [hn] at kn ⊢
  have hfl:(fl faC x.l).length=n*71:=by rw [z8lx zs77,hn]
  have hxd:snap (pre++[.cells (fl faC x.l)]) 3 (.ms pre.length (n*71) 0 71 n (n*71))=some ((own x.l).dv 71 faC):=by
    have:=z29t (f:=faC) zs77 z93p (pre:=pre) (l:=x.l) (m:=n)
    rw [hn,List.take_of_length_le (by omega)] at this
    rw [this,zqrs x.b,hn]
  have hks:snap (pre++[.cells (fl faC x.l)]) 3 (.fn (.func p.fid) [] caps)=some p.dv:=by
    have:=ks [.cells (fl faC x.l)]
    rw [zxbs,this]; rfl
  have hcs:=zjlk (x:=own x.l) (q:=p)
  rw [z3e9 x.b] at hcs
  have hargs:z4tt (pre++[.cells (fl faC x.l)]) 3 [.ms pre.length (n*71) 0 71 n (n*71),.fn (.func p.fid) [] caps]=some [(own x.l).dv 71 faC,p.dv]:=by
    rw [zrz6,hxd,zrz6,hks,zfu7]; rfl
  by_cases hix:ixI p.p x.l<0
  · have hall:=z378 hix
    have hm:ixI p.p x.l = -1:=by have:=zkgb p.p x.l; omega
    have hk:kp p.p x.l=x.l:=ztn8 fun a ha=>by
      obtain ⟨j,hj,e⟩:=List.getElem_of_mem ha
      rw [← e]; exact hall j hj
    have ho:=zuia (z:=fct0) hk
    rw [hm] at hcs
    rw [ho,hk,hn]
    simp (disch:=first|omega|(simp<;>omega)|fail) [-map_take,-map_drop,-map_set,-map_append,-drop_one,a49,hxd,hks,zn0k,hcs,zjj2,z1zn,hfl]
  · obtain ⟨i,hi,hie,hip,hin⟩:=zgr5 (p:=p.p) (l:=x.l) (by omega)
    rw [hie] at hcs
    have hi1:¬ (i:Int) = -1:=by omega
    obtain ⟨hs,hk0⟩:=DelI.start hi hip hin
    simp (disch:=first|omega|(simp<;>omega)|fail) [-map_take,-map_drop,-map_set,-map_append,-drop_one,a49,hxd,hks,zn0k,hcs,hi1]
    refine zlm5 (S575 ⟨pre,caps,p,x⟩ n) (fun a=>n-a.j) (fun a=>DelI p.p x.l a) ⟨i+1,x.l⟩ (z515 (by simp (disch:=first|omega|(simp<;>omega)|fail) [-map_take,-map_drop,-map_set,-map_append,-drop_one,S575,zvur,hk0,DF.fn]) (by simp (disch:=first|omega|(simp<;>omega)|fail) [-map_take,-map_drop,-map_set,-map_append,-drop_one,S575,zvur])) hs (fun a ha => ?_)
    obtain ⟨j,M⟩:=a
    have h6:=ha.j1
    have h8:=ha.len
    have h9:=ha.k
    simp only at h6 h8 h9
    obtain ⟨K,hK⟩ : ∃ K,(kp p.p (x.l.take j)).length=K:=⟨_,rfl⟩
    rw [hK] at h9
    have hfM:(fl faC M).length=n*71:=by rw [z8lx zs77,h8,hn]
    have hlM:lenD (pre++[.cells (fl faC M)]) (.ms pre.length (n*71) 0 71 n (n*71))=some (.int .i64 n):=by rw [z59c,zjj2,z1zn,if_pos hfM]; rfl
    simp only [S575,hK,DF.fn]
    by_cases hj:j<n
    · have hj1:(j:Int)<n:=by omega
      have hjl:j<x.l.length:=by omega
      have g1:=ha.get hjl (by simp only; omega)
      simp only at g1
      obtain ⟨f,hf⟩ : ∃ f,x.l[j]=f:=⟨_,rfl⟩
      rw [hf] at g1
      have u1:one 71 true ((fl faC M).drop (j*71))=some (.agg (faC f)):=by rw [zfiy zs77 (by omega),g1]
      have hcf:=zi5i (s:=p) (f:=f)
      have hk2:=ks [.cells (fl faC M),.cells (faC f)]
      have hite : ∀ b,p.p f=b→(if zbao caps=true then cFp p.fid (.agg (faC f)::caps) else some (.bool b))=some (.bool b):=fun b hb=>by
        split
        · rename_i hpc
          rw [z619 hpc] at hk2
          rw [Option.some.inj hk2,hcf,hb]
        · rfl
      cases hp:p.p f with
      | true =>
        rw [hp] at hcf
        simp (disch:=first|omega|(simp<;>omega)|fail) [-map_take,-map_drop,-map_set,-map_append,-drop_one,zuys,zvur,hlM,hj,hj1,zjj2,zrpz,z1zn,ze6m,hfM,u1,z6rf,zdf7,hk2,hcf,hite true hp]
        obtain ⟨q1,q2⟩:=ha.del hjl (by rw [hf]; exact hp)
        simp only at q1 q2
        exact ⟨⟨j+1,M⟩,zju2 (tail:=[.cells (faC f)]) (by simp (disch:=first|omega|(simp<;>omega)|fail) [-map_take,-map_drop,-map_set,-map_append,-drop_one,S575,zvur,q2,hK,DF.fn]) (by simp (disch:=first|omega|(simp<;>omega)|fail) [-map_take,-map_drop,-map_set,-map_append,-drop_one,S575,zvur]) (by simp (disch:=first|omega|(simp<;>omega)|fail) [-map_take,-map_drop,-map_set,-map_append,-drop_one,S575,zvur]) (by simp (disch:=first|omega|(simp<;>omega)|fail) [-map_take,-map_drop,-map_set,-map_append,-drop_one,S575,zvur,z1r6,Am.below,DF.fn,kb]) (by simp (disch:=first|omega|(simp<;>omega)|fail) [-map_take,-map_drop,-map_set,-map_append,-drop_one,S575,zvur]; exact zavu kh (zmq5 _ _ (zp6k z93p _))),by simp only; omega,q1⟩
      | false =>
        rw [hp] at hcf
        have st : ∀ h:List AObj,zy6o h pre.length 71 (K*71) (.agg (faC f)) (some (fl faC M))=some (.junk,h.set pre.length (.cells (fl faC (M.set K f)))):=fun h=>zdvi zs77 (by decide) (fun _=>zfgo) (by omega)
        simp (disch:=first|omega|(simp<;>omega)|fail) [-map_take,-map_drop,-map_set,-map_append,-drop_one,zuys,zvur,hlM,hj,hj1,zjj2,zrpz,z1zn,ze6m,hfM,u1,zxft,z6rf,zdf7,hk2,hcf,hite false hp,st]
        obtain ⟨q1,q2⟩:=ha.keep hjl (by rw [hf,hp]; simp)
        simp only [hK,hf] at q1 q2
        exact ⟨⟨j+1,M.set K f⟩,zju2 (tail:=[.cells (faC f)]) (by simp (disch:=first|omega|(simp<;>omega)|fail) [-map_take,-map_drop,-map_set,-map_append,-drop_one,S575,zvur,q2,hK,DF.fn]) (by simp (disch:=first|omega|(simp<;>omega)|fail) [-map_take,-map_drop,-map_set,-map_append,-drop_one,S575,zvur]) (by simp (disch:=first|omega|(simp<;>omega)|fail) [-map_take,-map_drop,-map_set,-map_append,-drop_one,S575,zvur]) (by simp (disch:=first|omega|(simp<;>omega)|fail) [-map_take,-map_drop,-map_set,-map_append,-drop_one,S575,zvur,z1r6,Am.below,DF.fn,kb]) (by simp (disch:=first|omega|(simp<;>omega)|fail) [-map_take,-map_drop,-map_set,-map_append,-drop_one,S575,zvur]; exact zavu kh (zmq5 _ _ (zp6k z93p _))),by simp only; omega,q1⟩
    · have hj1:¬ (j:Int)<n:=by omega
      obtain rfl:j=n:=by omega
      have hfin:=ha.fin (by simp only; omega)
      simp only at hfin
      have htl:x.l.take j=x.l:=List.take_of_length_le (by omega)
      rw [htl] at hK
      rw [hK] at hfin
      have hclr:clrD (pre++[.cells (fl faC M)]) 71 (faC fct0) (.ms pre.length (j*71) (K*71) 71 (j-K) (j*71))=some (.tup [],pre++[.cells (fl faC (delO fct0 p.p x.l))]):=by
        have hov:objV (pre++[.cells (fl faC M)]) pre.length (j*71)=some (fl faC M):=by rw [zjj2,z1zn,if_pos hfM]
        rw [z7ty (s:=71) (m:=j-K) (off:=K*71) (ver:=j*71) (zs:=faC fct0) (zs77 _) (by decide) zfgo (by omega),hov,Option.map_some,zxft,zqtu]
        have hs:=z507 (f:=faC) zs77 (A:=kp p.p x.l) (B:=M.drop K) (C:=List.replicate (j-K) fct0) (by simp; omega)
        rw [← hfin,hK] at hs
        rw [hs]
        simp only [delO,hK,hn,List.set_cons_zero]
      rw [zck5] at hclr
      have hol:(fl faC (delO fct0 p.p x.l)).length=j*71:=by rw [z8lx zs77,zwda,hn]
      simp (disch:=first|omega|(simp<;>omega)|fail) [-map_take,-map_drop,-map_set,-map_append,-drop_one,zuys,zvur,hlM,hj,hj1,zjj2,z1zn,hfM,zxft,hclr,hK,hol]
end Go.Proofs.YtdnhbfmlklaldaaGreat
set_option linter.unusedSimpArgs false
set_option linter.unusedVariables false
namespace Go.Proofs.YtdnhbfmlklaldaaGreat
open Go Go.Am
def dlD (p:Nat) (q:Fp) (x:Sl Fct):DV:=if x.l=[] then x.clone.dv 71 faC else .ms p (x.l.length*71) 0 71 (kp q.p x.l).length (x.l.length*71)
theorem zy6r {α:Type} {p:α→Bool} {z:α}:delO z p ([]:List α)=[]:=rfl
theorem zgqj (d:DF) (ok:DFOK d) (e:d.x.l=[]):RunsH T575 a49 [d.x.clone.dv 71 faC,d.fn] d.pre (d.x.clone.dv 71 faC) d.pre:=by
  refine ⟨?_⟩
  obtain ⟨pre,caps,p,x⟩:=d
  obtain ⟨ks,kb,kh,kn⟩:=ok
  simp only [DF.fn] at *
  have hks:snap pre 3 (.fn (.func p.fid) [] caps)=some p.dv:=by
    have:=ks []
    rw [List.append_nil] at this
    rw [zxbs,this]; rfl
  have hcs:=zjlk (x:=x.clone) (q:=p)
  rw [show x.clone.l=x.l from rfl,e,show ixI p.p [] = -1 from rfl] at hcs
  have hite:(if zbao caps=true then zld3 [x.clone.dv 71 faC,.fn (.func p.fid) [] caps] else some (.int .i64 (-1)))=some (.int .i64 (-1)):=by
    split
    · rename_i hpc
      have:=ks []
      rw [z619 hpc] at this
      rw [Option.some.inj this]; exact hcs
    · rfl
  simp (disch:=first|omega|(simp<;>omega)|fail) [-map_take,-map_drop,-map_set,-map_append,-drop_one,a49,hks,zn0k,hcs,hite]
theorem ztgq (d:DF) (ok:DFOK d):RunsH T575 a49 [mutD d.pre.length 71 d.x faC,d.fn] (d.pre++mo faC d.x.l) (dlD d.pre.length d.p d.x) (d.pre++mo faC (delO fct0 d.p.p d.x.l)):=by
  by_cases e:d.x.l=[]
  · have h1:dlD d.pre.length d.p d.x=d.x.clone.dv 71 faC:=if_pos e
    rw [zpj6 e,h1,e,zy6r,z7sv,List.append_nil]
    exact zgqj d ok e
  · have h1:dlD d.pre.length d.p d.x = .ms d.pre.length (d.x.l.length*71) 0 71 (kp d.p.p d.x.l).length (d.x.l.length*71):=if_neg e
    rw [z2ra e,h1,zsqo e,zsqo (z8wb e)]
    exact zue3 d ok e
noncomputable def z10r:List DV→List AObj→Option (DV × List AObj):=conH DFOK (fun d=>([mutD d.pre.length 71 d.x faC,d.fn],d.pre++mo faC d.x.l)) (fun d=>(dlD d.pre.length d.p d.x,d.pre++mo faC (delO fct0 d.p.p d.x.l)))
theorem zo2w {d:DF} (h:DFOK d):z10r [mutD d.pre.length 71 d.x faC,.fn (.func d.p.fid) [] d.caps] (d.pre++mo faC d.x.l)=some (dlD d.pre.length d.p d.x,d.pre++mo faC (delO fct0 d.p.p d.x.l)) :=
  zu6y (A:=DFOK) (f:=fun d=>([mutD d.pre.length 71 d.x faC,d.fn],d.pre++mo faC d.x.l)) (g:=fun d=>(dlD d.pre.length d.p d.x,d.pre++mo faC (delO fct0 d.p.p d.x.l))) (fun a b h1 h2 e=>by
    simp only [Prod.mk.injEq,List.cons.injEq,and_true,DF.fn,DV.fn.injEq,Fn.func.injEq,true_and] at e
    obtain ⟨⟨e1,e2,e3⟩,e4⟩:=e
    obtain ⟨p,q,r⟩:=zt7j zs77 (by decide) (fun _ _=>z38a) e1 e4
    have ep:a.p=b.p:=Fp.inj e2 (by
      have s1:=h1.s []
      have s2:=h2.s []
      rw [p,e3,s2] at s1
      exact (Option.some.inj s1).symm)
    rw [p,q,ep]
    congr 1
    unfold dlD
    rw [q]
    by_cases e:b.x.l=[]
    · rw [if_pos e,if_pos e,r (q.trans e)]
    · rw [if_neg e,if_neg e]) d h
theorem zoba:(Con.heap z10r).Sound P 49:=z7sf fun d h=>zv22 mix zqp8 Tryz.func49 zdc4 (ztgq d h)
theorem zkhp {A B C D:List DV} (h:B.length=D.length):zk7y (A++(B++C)) A.length D=A++(D++C):=by
  unfold zk7y
  rw [List.take_left' rfl,← h,← List.drop_drop,List.drop_left' rfl,List.drop_left' rfl,List.append_assoc]
structure DS where
  pre:List AObj
  caps:List DV
  q:Sl Str
  l:List Str
  z:List Str
def DS.fn (a:DS):DV := .fn (.func 130) [] a.caps
def DS.p (a:DS):Str→Bool:=fun d=>decide (d ∈ a.q.l)
structure DSOK (a:DS):Prop where
  s : ∀ X,z4tt (a.pre++X) 3 a.caps=some [.ref [a.q.dv 1 stC]]
  n:a.l.length≤1000000
  z:a.l=[]→a.z=[]
noncomputable def T576:Tbl:=addT 141 (.pure zeas) (addT 130 (.pure cAg) tbl0)
theorem z6zg:T576 141 = .pure zeas:=by simp [T576]
theorem zw6k:T576 130 = .pure cAg:=by simp [T576]
theorem zla7:T576.Sound P:=z0rp z4ei (z0rp (z2au fun (a:Sl Str × Str) _=>zljw mix zzml Tryz.func130 zndb (zwxm a.1 a.2)) zr5o)
def S576 (d:DS) (n N:Nat) (a:CPg Str):St:=zave (.ms d.pre.length N 0 1 n N) d.fn (.int .i64 (kp d.p (d.l.take a.j)).length) (.int .i64 a.j) (d.pre++[.cells ((a.M++d.z).map .str)])
theorem z5q1 (l:List Str):l.flatMap stC=l.map DV.str:=by
  induction l with
  | nil=>rfl
  | cons a l ih=>rw [List.flatMap_cons,ih]; rfl
theorem z8xu {pre:List AObj} {l z:List Str} {m N:Nat} (hN:(l++z).length=N) (hm:m≤l.length):snap (pre++[.cells ((l++z).map .str)]) 3 (.ms pre.length N 0 1 m N)=some (.sl false 1 m ((l.take m).flatMap stC)):=by
  rw [zve7,zjj2,z1zn,if_pos (by rw [List.length_map,hN]),Option.bind_some,List.drop_zero,Nat.mul_one,← List.map_take,List.take_append_of_le_length hm,z619 (zykc _),z5q1]
  rfl
theorem zsii (d:DS) (ok:DSOK d) (hne:d.l≠[]) (N:Nat) (hN:(d.l++d.z).length=N):RunsH T576 a129 [.ms d.pre.length N 0 1 d.l.length N,d.fn] (d.pre++[.cells ((d.l++d.z).map .str)]) (.ms d.pre.length N 0 1 (kp d.p d.l).length N) (d.pre++[.cells ((delO [] d.p d.l++d.z).map .str)]):=by
  refine ⟨?_⟩
  obtain ⟨pre,caps,q,l,z⟩:=d
  obtain ⟨ks,kn,kz⟩:=ok
  simp only [DS.fn] at *
  obtain ⟨n,hn⟩ : ∃ n,l.length=n:=⟨_,rfl⟩
  have hn0:0<n:=by rw [← hn]; exact List.length_pos_iff.2 hne
  have hnN:n≤N:=by rw [← hN,List.length_append]; omega
  rw [hn] at kn ⊢
  obtain ⟨p,hp0⟩ : ∃ p:Str→Bool,DS.p ⟨pre,caps,q,l,z⟩=p:=⟨_,rfl⟩
  have hp:(fun d=>decide (d ∈ q.l))=p:=hp0
  have hq0 : ∀ d,decide (d ∈ q.l)=p d:=fun d=>by rw [← hp]
  have hb:l.length≤4294967296:=by omega
  have hxd:snap (pre++[.cells ((l++z).map .str)]) 3 (.ms pre.length N 0 1 n N)=some ((own l).dv 1 stC):=by
    have:=z8xu (pre:=pre) (l:=l) (z:=z) (m:=n) hN (by omega)
    rw [List.take_of_length_le (by omega)] at this
    rw [this,zqrs hb,hn]
  have hks:snap (pre++[.cells ((l++z).map .str)]) 3 (.fn (.func 130) [] caps)=some (fAg q):=by
    rw [zxbs,ks]; rfl
  have hcs:=zd24 (x:=own l) (q:=q)
  rw [z3e9 hb,hp] at hcs
  rw [hp0]
  by_cases hix:ixI p l<0
  · have hall:=z378 hix
    have hm:ixI p l = -1:=by have:=zkgb p l; omega
    have hk:kp p l=l:=ztn8 fun a ha=>by
      obtain ⟨j,hj,e⟩:=List.getElem_of_mem ha
      rw [← e]; exact hall j hj
    have ho:=zuia (z:=[]) hk
    rw [hm] at hcs
    rw [ho,hk,hn]
    have hov:((l++z).map DV.str).length=N:=by rw [List.length_map,hN]
    simp (disch:=first|omega|(simp<;>omega)|fail) [-map_take,-map_drop,-map_set,-map_append,-drop_one,a129,hxd,hks,z6zg,hcs,zjj2,z1zn,hov]
  · obtain ⟨i,hi,hie,hip,hin⟩:=zgr5 (p:=p) (l:=l) (by omega)
    rw [hie] at hcs
    have hi1:¬ (i:Int) = -1:=by omega
    obtain ⟨hs,hk0⟩:=DelI.start hi hip hin
    simp (disch:=first|omega|(simp<;>omega)|fail) [-map_take,-map_drop,-map_set,-map_append,-drop_one,a129,hxd,hks,z6zg,hcs,hi1]
    refine zlm5 (S576 ⟨pre,caps,q,l,z⟩ n N) (fun a=>n-a.j) (fun a=>DelI p l a) ⟨i+1,l⟩ (z515 (by simp (disch:=first|omega|(simp<;>omega)|fail) [-map_take,-map_drop,-map_set,-map_append,-drop_one,S576,zave,hk0,DS.fn,hp0]) (by simp (disch:=first|omega|(simp<;>omega)|fail) [-map_take,-map_drop,-map_set,-map_append,-drop_one,S576,zave])) hs (fun a ha => ?_)
    obtain ⟨j,M⟩:=a
    have h6:=ha.j1
    have h8:=ha.len
    have h9:=ha.k
    simp only at h6 h8 h9
    obtain ⟨K,hK⟩ : ∃ K,(kp p (l.take j)).length=K:=⟨_,rfl⟩
    rw [hK] at h9
    have hMz:(M++z).length=N:=by rw [List.length_append,h8,← List.length_append,hN]
    obtain ⟨G,hG⟩ : ∃ G,M++z=G:=⟨_,rfl⟩
    rw [hG] at hMz
    have hlM:lenD (pre++[.cells (G.map .str)]) (.ms pre.length N 0 1 n N)=some (.int .i64 n):=by simp [zrsa,hMz]
    simp only [S576,hp0,hK,hG,DS.fn]
    by_cases hj:j<n
    · have hj1:(j:Int)<n:=by omega
      have hjl:j<l.length:=by omega
      have g1:=ha.get hjl (by simp only; omega)
      simp only at g1
      obtain ⟨f,hf⟩ : ∃ f,l[j]=f:=⟨_,rfl⟩
      rw [hf] at g1
      have g2 : ∀ h:j<G.length,G[j]=f:=fun h=>by
        subst hG
        rw [List.getElem_append_left (by omega)]; exact g1
      have hcf:=zr9y (x:=q) (d:=f)
      rw [hq0] at hcf
      have hk2:=ks [.cells (G.map .str)]
      have hite : ∀ b,p f=b→(if zbao caps=true then cAg (.str f::caps) else some (.bool b))=some (.bool b):=fun b hb=>by
        split
        · rename_i hpc
          rw [z619 hpc] at hk2
          rw [Option.some.inj hk2,hcf,hb]
        · rfl
      cases hpf:p f with
      | true =>
        rw [hpf] at hcf
        simp (disch:=first|omega|(simp<;>omega)|fail) [-map_take,-map_drop,-map_set,-map_append,-drop_one,zl9a,zave,hlM,hj,hj1,zjj2,hMz,g2,zw6k,hk2,hcf,hite true hpf]
        obtain ⟨q1,q2⟩:=ha.del hjl (by rw [hf]; exact hpf)
        simp only at q1 q2
        exact ⟨⟨j+1,M⟩,z515 (by simp (disch:=first|omega|(simp<;>omega)|fail) [-map_take,-map_drop,-map_set,-map_append,-drop_one,S576,zave,q2,hK,DS.fn,hp0]) (by simp (disch:=first|omega|(simp<;>omega)|fail) [-map_take,-map_drop,-map_set,-map_append,-drop_one,S576,zave,hG]),by simp only; omega,q1⟩
      | false =>
        rw [hpf] at hcf
        simp (disch:=first|omega|(simp<;>omega)|fail) [-map_take,-map_drop,-map_set,-map_append,-drop_one,zl9a,zave,hlM,hj,hj1,zjj2,zxft,hMz,g2,zw6k,hk2,hcf,hite false hpf]
        obtain ⟨q1,q2⟩:=ha.keep hjl (by rw [hf,hpf]; simp)
        simp only [hK,hf] at q1 q2
        have hG2:(M.set K f++z).map DV.str=(G.map DV.str).set K (.str f):=by
          rw [← hG,← List.map_set,List.set_append_left _ _ (by omega)]
        exact ⟨⟨j+1,M.set K f⟩,z515 (by simp (disch:=first|omega|(simp<;>omega)|fail) [-map_take,-map_drop,-map_set,-map_append,-drop_one,S576,zave,q2,hK,DS.fn,hp0]) (by simp (disch:=first|omega|(simp<;>omega)|fail) [-map_take,-map_drop,-map_set,-map_append,-drop_one,S576,zave,hG2]),by simp only; omega,q1⟩
    · have hj1:¬ (j:Int)<n:=by omega
      obtain rfl:j=n:=by omega
      have hfin:=ha.fin (by simp only; omega)
      simp only at hfin
      have htl:l.take j=l:=List.take_of_length_le (by omega)
      rw [htl] at hK
      rw [hK] at hfin
      have hclr:clrD (pre++[.cells (G.map .str)]) 1 [.str []] (.ms pre.length N K 1 (j-K) N)=some (.tup [],pre++[.cells ((delO [] p l++z).map .str)]):=by
        have hov:objV (pre++[.cells (G.map .str)]) pre.length N=some (G.map .str):=by simp [zrsa,hMz]
        rw [z7ty (s:=1) (m:=j-K) (off:=K) (ver:=N) (zs:=[.str []]) rfl (by decide) rfl (by omega),hov,Option.map_some,zxft,zgjp]
        have h3:(M.drop K).length=j-K:=by rw [List.length_drop,h8,hn]
        have hs:zk7y (G.map DV.str) K ((List.replicate (j-K) ([]:Str)).map .str)=(delO [] p l++z).map .str:=by
          rw [← hG,hfin]
          have h4:=zkhp (A:=(kp p l).map DV.str) (B:=(M.drop K).map DV.str) (C:=z.map DV.str) (D:=(List.replicate (j-K) ([]:Str)).map DV.str) (by rw [List.length_map,List.length_map,h3,List.length_replicate])
          rw [List.length_map,hK] at h4
          simp only [delO,hK,hn,List.map_append,List.append_assoc] at h4 ⊢
          exact h4
        rw [hs]
        rfl
      have hol:(delO [] p l++z).length=N:=by rw [List.length_append,zwda,← List.length_append,hN]
      simp (disch:=first|omega|(simp<;>omega)|fail) [-map_take,-map_drop,-map_set,-map_append,-drop_one,zl9a,zave,hlM,hj,hj1,zjj2,hMz,zxft,hclr,hK,hol]
def dsV (p:Nat) (l z:List Str) (m:Nat):DV:=if l=[] then .nils else .ms p (l++z).length 0 1 m (l++z).length
def dsH (pre:List AObj) (l z:List Str):List AObj:=if l=[] then pre else pre++[.cells ((l++z).map .str)]
theorem zd54 (d:DS) (ok:DSOK d):RunsH T576 a129 [.nils,d.fn] d.pre .nils d.pre:=by
  refine ⟨?_⟩
  obtain ⟨pre,caps,q,l,z⟩:=d
  obtain ⟨ks,kn,kz⟩:=ok
  simp only [DS.fn] at *
  have hks:snap pre 3 (.fn (.func 130) [] caps)=some (fAg q):=by
    have:=ks []
    rw [List.append_nil] at this
    rw [zxbs,this]; rfl
  have hcs:zeas [.nils,fAg q]=some (.int .i64 (-1)):=zd24 (x:=nilS) (q:=q)
  have hite:(if zbao caps=true then zeas [.nils,.fn (.func 130) [] caps] else some (.int .i64 (-1)))=some (.int .i64 (-1)):=by
    split
    · rename_i hpc
      have:=ks []
      rw [z619 hpc] at this
      rw [Option.some.inj this]; exact hcs
    · rfl
  simp (disch:=first|omega|(simp<;>omega)|fail) [-map_take,-map_drop,-map_set,-map_append,-drop_one,a129,hks,z6zg,hcs,hite]
theorem z1sv {p:Str→Bool} {l:List Str} (h:l≠[]):delO [] p l≠[]:=z8wb h
noncomputable def ziol:List DV→List AObj→Option (DV × List AObj):=conH DSOK (fun d=>([dsV d.pre.length d.l d.z d.l.length,d.fn],dsH d.pre d.l d.z)) (fun d=>(dsV d.pre.length d.l d.z (kp d.p d.l).length,dsH d.pre (delO [] d.p d.l) d.z))
theorem zk4p (d:DS) (ok:DSOK d):RunsH T576 a129 [dsV d.pre.length d.l d.z d.l.length,d.fn] (dsH d.pre d.l d.z) (dsV d.pre.length d.l d.z (kp d.p d.l).length) (dsH d.pre (delO [] d.p d.l) d.z):=by
  by_cases e:d.l=[]
  · have e1:delO [] d.p d.l=[]:=by rw [e]; rfl
    simp only [dsV,dsH,e1,if_pos e,if_true]
    exact zd54 d ok
  · simp only [dsV,dsH,if_neg e,if_neg (z1sv e)]
    exact zsii d ok e _ rfl
theorem zi6x {d:DS} (h:DSOK d):ziol [dsV d.pre.length d.l d.z d.l.length,.fn (.func 130) [] d.caps] (dsH d.pre d.l d.z)=some (dsV d.pre.length d.l d.z (kp d.p d.l).length,dsH d.pre (delO [] d.p d.l) d.z) :=
  zu6y (A:=DSOK) (f:=fun d=>([dsV d.pre.length d.l d.z d.l.length,d.fn],dsH d.pre d.l d.z)) (g:=fun d=>(dsV d.pre.length d.l d.z (kp d.p d.l).length,dsH d.pre (delO [] d.p d.l) d.z)) (fun a b h1 h2 e=>by
    simp only [Prod.mk.injEq,List.cons.injEq,and_true,DS.fn,DV.fn.injEq,Fn.func.injEq,true_and] at e
    obtain ⟨⟨e1,e3⟩,e4⟩:=e
    have eq:a.pre=b.pre∧a.l=b.l∧a.z=b.z:=by
      by_cases ea:a.l=[]
      · by_cases eb:b.l=[]
        · simp only [dsH,if_pos ea,if_pos eb] at e4
          exact ⟨e4,ea.trans eb.symm,(h1.z ea).trans (h2.z eb).symm⟩
        · simp only [dsV,if_pos ea,if_neg eb] at e1; cases e1
      · by_cases eb:b.l=[]
        · simp only [dsV,if_neg ea,if_pos eb] at e1; cases e1
        · simp only [dsV,dsH,if_neg ea,if_neg eb] at e1 e4
          have h:=List.append_inj' e4 rfl
          have h3:=h.2
          simp only [List.cons.injEq,AObj.cells.injEq,and_true,zsma] at h3
          simp only [DV.ms.injEq] at e1
          obtain ⟨-,-,-,-,e5,-⟩:=e1
          have:=List.append_inj h3 e5
          exact ⟨h.1,this.1,this.2⟩
    obtain ⟨p,q,r⟩:=eq
    have es:a.q=b.q:=by
      have s1:=h1.s []
      have s2:=h2.s []
      rw [p,e3,s2] at s1
      simp only [Option.some.injEq,List.cons.injEq,DV.ref.injEq,and_true] at s1
      exact (z8p4 s1).symm
    have ep:a.p=b.p:=by unfold DS.p; rw [es]
    rw [p,q,r,ep]) d h
theorem zmrm:(Con.heap ziol).Sound P 129:=z7sf fun d h=>zv22 mix zla7 Tryz.func129 z1y5 (zk4p d h)
end Go.Proofs.YtdnhbfmlklaldaaGreat
set_option linter.unusedSimpArgs false
set_option linter.unusedVariables false
namespace Go.Proofs.YtdnhbfmlklaldaaGreat
open Go Go.Am
structure OL where
  pre:List AObj
  p:Nat
  M:List Fct
  n:Nat
structure OLK (a:OL):Prop where
  o:a.pre[a.p]? = some (.cells (fl faC a.M))
  n:a.n≤a.M.length
  b:a.n≤12
  h:zlf2 (a.pre.length+2) a.pre=true
def OL.v (a:OL):DV := .ms a.p (a.M.length*71) 0 71 a.n (a.M.length*71)
def OL.l (a:OL):List Fct:=a.M.take a.n
theorem OLK.obj {a:OL} (h:OLK a) (X:List AObj):objV (a.pre++X) a.p (a.M.length*71)=some (fl faC a.M):=by
  have hlt:=(List.getElem?_eq_some_iff.1 h.o).1
  unfold objV ziu0
  rw [List.getElem?_append_left hlt,h.o]
  simp [z8lx zs77]
def S581 (a:OL) (o:Fct) (i:Nat):St:=zfq0 (stV (a.pre.length+1) (nms (a.l.take i))) a.v (.int .i64 a.n) (.int .i64 i) (a.pre++if nms (a.l.take i)=[] then [] else [.cells (faC o),.cells ((nms (a.l.take i)).map .str)])
theorem zh8f {pre r:List AObj} {o:AObj} {c:List DV} {n:Nat} (h:c.length=n):objV (pre++o :: .cells c::r) (pre.length+1) n=some c:=zw28 (by
  unfold ziu0; rw [List.getElem?_append_right (by omega),show pre.length+1-pre.length=1 by omega]; rfl) h
theorem z100 {pre r:List AObj} {o x y:AObj}:(pre++o::x::r).set (pre.length+1) y=pre++o::y::r:=by rw [List.set_append_right _ _ (by omega),show pre.length+1-pre.length=1 by omega]; rfl
theorem zwhp {pre l:List AObj} {ver:Nat}:objV (pre++l) (pre.length+2) ver=objV l 2 ver:=by
  unfold objV ziu0; rw [List.getElem?_append_right (by omega),show pre.length+2-pre.length=2 by omega]
theorem zzym {pre l:List AObj} {o:AObj}:(pre++l).set (pre.length+2) o=pre++l.set 2 o:=by rw [List.set_append_right _ _ (by omega),show pre.length+2-pre.length=2 by omega]
theorem zmf5 {n:Nat} {c d:List DV} : ∀ {a:List AObj},zlf2 n a=true→z1r6 n c=true→z1r6 n d=true→zlf2 n (a++[.cells c,.cells d])=true
  | [],_,h1,h2=>by simp [zlf2,h1,h2]
  | .cells c::r,h1,h2,h3=>by simp only [List.cons_append,zlf2,Bool.and_eq_true] at *; exact ⟨h1.1,zmf5 h1.2 h2 h3⟩
  | .dead::r,h1,h2,h3=>by simp only [List.cons_append,zlf2] at *; exact zmf5 h1 h2 h3
theorem zk0c (a:OL) (ok:OLK a) (e:a.n=0):RunsH T570 a105 [a.v] a.pre (nmV a.pre.length a.l) (a.pre++nmO a.l):=by
  refine ⟨?_⟩
  have ho:=ok.obj []
  rw [List.append_nil] at ho
  have hl:a.l=[]:=by unfold OL.l; rw [e]; rfl
  have hln:lenD a.pre a.v=some (.int .i64 0):=by unfold OL.v; rw [z59c,ho,e]; rfl
  rw [hl]
  obtain ⟨V,hV⟩ : ∃ V,a.v=V:=⟨_,rfl⟩
  obtain ⟨pre,hp⟩ : ∃ p,a.pre=p:=⟨_,rfl⟩
  rw [hV,hp] at hln ⊢
  simp (disch:=first|omega|(simp<;>omega)|fail) [-map_take,-map_drop,-map_set,-map_append,-drop_one,a105,hln]
  refine zlm5 (fun _:Unit=>zfq0 .nils V (.int .i64 0) (.int .i64 0) pre) (fun _=>0) (fun _=>True) () (z515 (by simp (disch:=first|omega|(simp<;>omega)|fail) [-map_take,-map_drop,-map_set,-map_append,-drop_one,zfq0]) (by simp (disch:=first|omega|(simp<;>omega)|fail) [-map_take,-map_drop,-map_set,-map_append,-drop_one,zfq0])) trivial (fun i hi => ?_)
  have h1:=zup5 (pre:=pre) (l:=[]) (by decide)
  have h2:=zvlb (pre:=pre) (l:=[]) (by decide)
  have e1:cmV pre.length [] = .nils:=rfl
  have e2:cmH pre []=pre:=by show stH pre []=pre; rfl
  simp only [zejt,z4dm,show zxu4 Op.bytesLess ([]:List Str)=[] from rfl,e1,e2] at h1 h2
  simp (disch:=first|omega|(simp<;>omega)|fail) [-map_take,-map_drop,-map_set,-map_append,-drop_one,z0tq,zfq0,ziw1,zh3z,h1,h2,nmV,nmO]
set_option maxRecDepth 20000 in
theorem zedo (a:OL) (ok:OLK a) (f0:Fct) (r0:List Fct) (e:a.l=f0::r0):RunsH T570 a105 [a.v] a.pre (nmV a.pre.length a.l) (a.pre++nmO a.l):=by
  refine ⟨?_⟩
  have hll:a.l.length=a.n:=by unfold OL.l; rw [List.length_take]; have:=ok.n; omega
  have ho:=fun X=>ok.obj X
  have hn12:=ok.b
  have hbel:=ok.h
  have hnM:=ok.n
  have hoko:=ok.o
  obtain ⟨pre,p,M,n⟩:=a
  simp only [OL.v] at *
  obtain ⟨l,hl⟩ : ∃ l,OL.l ⟨pre,p,M,n⟩=l:=⟨_,rfl⟩
  have hMl:M.take n=l:=hl
  rw [hl] at e hll ⊢
  have e0:0<n:=by rw [← hll,e]; simp
  obtain ⟨N,hN⟩ : ∃ N,M.length*71=N:=⟨_,rfl⟩
  rw [hN] at ho ⊢
  have ho0:=ho []
  rw [List.append_nil] at ho0
  have hln:lenD pre (.ms p N 0 71 n N)=some (.int .i64 n):=by rw [z59c,ho0]; rfl
  simp (disch:=first|omega|(simp<;>omega)|fail) [-map_take,-map_drop,-map_set,-map_append,-drop_one,a105,hln]
  refine zlm5 (S581 ⟨pre,p,M,n⟩ f0) (fun i=>n-i) (fun i=>i≤n) 0 (z515 (by simp (disch:=first|omega|(simp<;>omega)|fail) [-map_take,-map_drop,-map_set,-map_append,-drop_one,S581,zfq0,nms,zejt,OL.v,hN]) (by simp (disch:=first|omega|(simp<;>omega)|fail) [-map_take,-map_drop,-map_set,-map_append,-drop_one,S581,zfq0,nms])) (by omega) (fun i hi => ?_)
  simp only [S581,hl,OL.v,hN]
  by_cases h:i<n
  · have h':(i:Int)<n:=by omega
    have hil:i<l.length:=by omega
    obtain ⟨f,hf⟩ : ∃ f,l[i]=f:=⟨_,rfl⟩
    have hMi:M[i]'(by omega)=f:=by
      have h3:(M.take n)[i]'(by rw [hMl]; exact hil)=f:=by simp only [hMl]; exact hf
      rwa [List.getElem_take] at h3
    have u1:one 71 true ((fl faC M).drop (i*71))=some (.agg (faC f)):=by rw [zfiy zs77 (by omega),hMi]
    have hg : ∀ X,zpsc (pre++X) 71 (.ms p N 0 71 n N) i=some (.mp p N (i*71)):=fun X=>by
      rw [z3a7 (by omega) (by omega),ho]; simp
    have hg0:zpsc pre 71 (.ms p N 0 71 n N) i=some (.mp p N (i*71)):=by have:=hg []; rwa [List.append_nil] at this
    have hn:nms (l.take (i+1))=nms (l.take i)++[f.own]:=by rw [List.take_succ_eq_append_getElem hil,hf]; simp only [nms,List.map_append,List.map_cons,List.map_nil]
    have hlen:(nms (l.take i)).length=i:=by rw [zdnb,List.length_take]; omega
    obtain ⟨L,hL⟩ : ∃ L,nms (l.take i)=L:=⟨_,rfl⟩
    rw [hL] at hn hlen ⊢
    by_cases eL:L=[]
    · subst eL
      have i0:i=0:=by rw [← hlen]; rfl
      subst i0
      have hff:f=f0:=by rw [← hf]; simp [e]
      subst hff
      have hap:=zsuq (h:=pre++[AObj.cells (faC f)]) (s:=1) (b:=16) (m:=1) (cs:=[.str f.own]) (by decide) (by decide) rfl (by decide) (by decide)
      simp only [List.length_append,List.length_cons,List.length_nil,Nat.zero_add,List.append_assoc] at hap
      simp only [Nat.zero_mul,List.drop_zero] at u1 hg0
      have hg1:zpsc pre 71 (.ms p N 0 71 n N) 0=some (.mp p N 0):=hg0
      simp (disch:=first|omega|(simp<;>omega)|fail) [-map_take,-map_drop,-map_set,-map_append,-drop_one,z0tq,zfq0,h,h',hg1,ho,ho0,u1,zejt,hap,zjj2,z1zn]
      have e1:stV (pre.length+1) [f.own] = .ms (pre.length+1) 1 0 1 1 1:=rfl
      rw [List.nil_append] at hn
      exact ⟨1,z515 (by simp (disch:=first|omega|(simp<;>omega)|fail) [-map_take,-map_drop,-map_set,-map_append,-drop_one,S581,zfq0,hl,hn,e1,OL.v,hN]) (by simp (disch:=first|omega|(simp<;>omega)|fail) [-map_take,-map_drop,-map_set,-map_append,-drop_one,S581,zfq0,hl,hn]),by omega,by omega⟩
    · have hap:=zzip (h:=pre++[AObj.cells (faC f0),.cells (L.map .str),.cells (faC f)]) (id:=pre.length+1) (b:=16) (l:=L) (x:=f.own) (by decide) (by omega) (zh8f (by simp))
      rw [z100] at hap
      have e1:=z93k (p:=pre.length+1) eL
      have e3:stV (pre.length+1) (L++[f.own]) = .ms (pre.length+1) (L.length+1) 0 1 (L.length+1) (L.length+1):=by rw [z93k (by simp),List.length_append]; rfl
      have e5:L++[f.own]≠[]:=by simp
      rw [if_neg eL]
      simp (disch:=first|omega|(simp<;>omega)|fail) [-map_take,-map_drop,-map_set,-map_append,-drop_one,z0tq,zfq0,h,h',hg,ho,u1,e1,hap,zwhp,ze6m,z1zn,zzym]
      have hq:zlf2 (pre.length+2) (pre++[AObj.cells (faC f0),.cells ((L++[f.own]).map .str)])=true:=zmf5 hbel (zmq5 _ _ (z93p _)) zp2k
      have hpl:p<pre.length+2:=by have:=(List.getElem?_eq_some_iff.1 hoko).1; omega
      have hplt:p<pre.length:=(List.getElem?_eq_some_iff.1 hoko).1
      exact ⟨i+1,zju2 (tail:=[.cells (faC f)]) (by simp (disch:=first|omega|(simp<;>omega)|fail) [-map_take,-map_drop,-map_set,-map_append,-drop_one,S581,zfq0,hl,hn,e3,OL.v,hN]) (by simp (disch:=first|omega|(simp<;>omega)|fail) [-map_take,-map_drop,-map_set,-map_append,-drop_one,S581,zfq0,hl,hn,e5]) (by simp (disch:=first|omega|(simp<;>omega)|fail) [-map_take,-map_drop,-map_set,-map_append,-drop_one,S581,zfq0]) (by simp (disch:=first|omega|(simp<;>omega)|fail) [-map_take,-map_drop,-map_set,-map_append,-drop_one,S581,zfq0,hl,hn,z1r6,Am.below,e3,e5,OL.v,hpl]) (by simp (disch:=first|omega|(simp<;>omega)|fail) [-map_take,-map_drop,-map_set,-map_append,-drop_one,S581,zfq0,hl,hn,e5,hq]),by omega,by omega⟩
  · have h':¬ (i:Int)<n:=by omega
    have ht:l.take i=l:=List.take_of_length_le (by omega)
    rw [ht]
    have hne:nms l≠[]:=by rw [e]; simp [nms]
    rw [if_neg hne]
    have hlen:=zdnb l
    have h1:=zup5 (pre:=pre++[.cells (faC f0)]) (l:=nms l) (by omega)
    have hsl:(zxu4 Op.bytesLess (nms l)).length=(nms l).length:=zmgd _
    have h2:=zvlb (pre:=pre++[.cells (faC f0)]) (l:=zxu4 Op.bytesLess (nms l)) (by omega)
    have hsn:zxu4 Op.bytesLess (nms l)≠[]:=ztug hne
    have hv:stV (pre.length+1) (zxu4 Op.bytesLess (nms l))=stV (pre.length+1) (nms l):=by rw [z93k hsn,z93k hne,hsl]
    have hxl:l≠[]:=by rw [e]; simp
    have hr1:cmV (pre.length+1) (zxu4 Op.bytesLess (nms l))=nmV pre.length l:=by rw [zjem hsn,hsl,ziv1,hlen,nmV,if_neg hxl]
    have hr2:cmH (pre++[.cells (faC f0)]) (zxu4 Op.bytesLess (nms l))=pre++nmO l:=by rw [zt8r hsn,e,List.append_assoc]; rfl
    simp only [List.length_append,List.length_cons,List.length_nil,Nat.zero_add] at h1 h2
    rw [hv,hr1,hr2] at h2
    have hst:stH (pre++[.cells (faC f0)]) (nms l)=pre++[.cells (faC f0),.cells ((nms l).map .str)]:=by rw [zm1n hne,List.append_assoc]; rfl
    rw [hst] at h1
    simp (disch:=first|omega|(simp<;>omega)|fail) [-map_take,-map_drop,-map_set,-map_append,-drop_one,z0tq,zfq0,h,h',ziw1,zh3z,h1,h2]
theorem z9i2 (a:OL) (ok:OLK a):RunsH T570 a105 [a.v] a.pre (nmV a.pre.length a.l) (a.pre++nmO a.l):=by
  by_cases e:a.n=0
  · exact zk0c a ok e
  · have hll:a.l.length=a.n:=by unfold OL.l; rw [List.length_take]; have:=ok.n; omega
    cases h:a.l with
    | nil=>rw [h] at hll; simp at hll; omega
    | cons f r=>rw [← h]; exact zedo a ok f r h
inductive OO where
  | live (a:OL)
  | frz (pre:List AObj) (x:Sl Fct)
def OO.A:OO→Prop
  | .live a=>OLK a
  | .frz _ x=>x.l.length≤12
def OO.f:OO→List DV × List AObj
  | .live a=>([a.v],a.pre)
  | .frz pre x=>([x.dv 71 faC],pre)
def OO.g:OO→DV × List AObj
  | .live a=>(nmV a.pre.length a.l,a.pre++nmO a.l)
  | .frz pre x=>(nmV pre.length x.l,pre++nmO x.l)
noncomputable def zxi1:List DV→List AObj→Option (DV × List AObj):=conH OO.A OO.f OO.g
theorem zhk1 {x:Sl Fct} {a b c d e g:Nat}:x.dv 71 faC ≠ .ms a b c d e g:=fun h=>by
  unfold Sl.dv slD at h; split at h<;>cases h
theorem OO.inj {a b:OO} (h1:a.A) (h2:b.A) (e:a.f=b.f):a.g=b.g:=by
  cases a with
  | live a =>
    cases b with
    | live b =>
      simp only [OO.f,Prod.mk.injEq,List.cons.injEq,and_true,OL.v,DV.ms.injEq] at e
      obtain ⟨⟨e1,-,-,-,e2,-⟩,e3⟩:=e
      have o1:=(h1:OLK a).o
      have o2:=(h2:OLK b).o
      rw [e1,e3,o2] at o1
      simp only [Option.some.injEq,AObj.cells.injEq] at o1
      have eM:b.M=a.M:=z1ch zs77 (by decide) (fun _ _=>z38a) o1
      have el:a.l=b.l:=by unfold OL.l; rw [eM,e2]
      simp only [OO.g,el,e3]
    | frz pre x =>
      simp only [OO.f,Prod.mk.injEq,List.cons.injEq,and_true,OL.v] at e
      exact absurd e.1.symm zhk1
  | frz pre x =>
    cases b with
    | live b =>
      simp only [OO.f,Prod.mk.injEq,List.cons.injEq,and_true,OL.v] at e
      exact absurd e.1 zhk1
    | frz pre' x' =>
      simp only [OO.f,Prod.mk.injEq,List.cons.injEq,and_true] at e
      rw [z4rf e.1,e.2]
theorem zd45 {a:OL} (h:OLK a):zxi1 [a.v] a.pre=some (nmV a.pre.length a.l,a.pre++nmO a.l):=zu6y (A:=OO.A) (f:=OO.f) (g:=OO.g) (fun _ _=>OO.inj) (.live a) h
theorem zqcg {pre:List AObj} {x:Sl Fct} (h:x.l.length≤12):zxi1 [x.dv 71 faC] pre=some (nmV pre.length x.l,pre++nmO x.l):=zu6y (A:=OO.A) (f:=OO.f) (g:=OO.g) (fun _ _=>OO.inj) (.frz pre x) h
theorem z3ls:(Con.heap zxi1).Sound P 105:=z7sf fun a h=>by
  cases a with
  | live a=>exact zv22 mix ztvz Tryz.func105 z9rf (z9i2 a h)
  | frz pre x=>exact z0u2 _ pre _ _ (zj2t (x:=x) (k:=pre.length) h)
end Go.Proofs.YtdnhbfmlklaldaaGreat
