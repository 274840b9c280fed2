/-
  Functions of this claim, as the abstract machine has them. MADE BY A PROGRAM of mine.
-/
import Derived.Test.YthkcgeokfcbllaaAmU
import Derived.Test.YthkcgeokfcbllaaProg
set_option linter.unusedSimpArgs false
set_option linter.unusedVariables false
namespace Go.Proofs.Ythkcgeokfcbllaa
open Go Go.Am
noncomputable abbrev P : Program := Try.prog
theorem mix : P.follows .mixedOrders = true := by kernel_rfl
-- 63 admission/digest.schedule
def a63L0 : ACode :=
  (.seq (.region false [⟨none, (some 11), .bin .lss (.t 10) (.k (.int .i64 16))⟩])
  (.seq (.cond (.t 11) .skip
  (.exit 0))
  (.seq (.block 1 (.seq (.region false [⟨none, (some 12), .mov (.t 10)⟩,
    ⟨none, (some 4), .mov (.t 12)⟩])
  (.region true [⟨none, (some 13), .mov (.t 4)⟩,
    ⟨none, (some 14), .mov (.t 0)⟩,
    ⟨none, (some 15), .mov (.t 4)⟩,
    ⟨none, (some 16), .bin .mul (.k (.int .i64 4)) (.t 15)⟩,
    ⟨none, (some 17), .idxS 1 (.t 14) (.t 16)⟩,
    ⟨none, (some 18), .load 1 false (.t 17)⟩,
    ⟨none, (some 19), .conv .u32 (.t 18)⟩,
    ⟨none, (some 20), .bin .shl (.t 19) (.k (w64 24#64))⟩,
    ⟨none, (some 21), .mov (.t 0)⟩,
    ⟨none, (some 22), .mov (.t 4)⟩,
    ⟨none, (some 23), .bin .mul (.k (.int .i64 4)) (.t 22)⟩,
    ⟨none, (some 24), .bin .add (.t 23) (.k (.int .i64 1))⟩,
    ⟨none, (some 25), .idxS 1 (.t 21) (.t 24)⟩,
    ⟨none, (some 26), .load 1 false (.t 25)⟩,
    ⟨none, (some 27), .conv .u32 (.t 26)⟩,
    ⟨none, (some 28), .bin .shl (.t 27) (.k (w64 16#64))⟩,
    ⟨none, (some 29), .bin .or (.t 20) (.t 28)⟩,
    ⟨none, (some 30), .mov (.t 0)⟩,
    ⟨none, (some 31), .mov (.t 4)⟩,
    ⟨none, (some 32), .bin .mul (.k (.int .i64 4)) (.t 31)⟩,
    ⟨none, (some 33), .bin .add (.t 32) (.k (.int .i64 2))⟩,
    ⟨none, (some 34), .idxS 1 (.t 30) (.t 33)⟩,
    ⟨none, (some 35), .load 1 false (.t 34)⟩,
    ⟨none, (some 36), .conv .u32 (.t 35)⟩,
    ⟨none, (some 37), .bin .shl (.t 36) (.k (w64 8#64))⟩,
    ⟨none, (some 38), .bin .or (.t 29) (.t 37)⟩,
    ⟨none, (some 39), .mov (.t 0)⟩,
    ⟨none, (some 40), .mov (.t 4)⟩,
    ⟨none, (some 41), .bin .mul (.k (.int .i64 4)) (.t 40)⟩,
    ⟨none, (some 42), .bin .add (.t 41) (.k (.int .i64 3))⟩,
    ⟨none, (some 43), .idxS 1 (.t 39) (.t 42)⟩,
    ⟨none, (some 44), .load 1 false (.t 43)⟩,
    ⟨none, (some 45), .conv .u32 (.t 44)⟩,
    ⟨none, (some 46), .bin .or (.t 38) (.t 45)⟩,
    ⟨none, (some 47), .idxA 64 1 (.t 3) (.t 13)⟩,
    ⟨none, none, .store 1 (.t 47) (.t 46)⟩])))
  (.region false [⟨none, (some 48), .bin .add (.t 10) (.k (.int .i64 1))⟩,
    ⟨none, (some 10), .mov (.t 48)⟩]))))
/-- 0:b 2: 3:w 10: -/
def a63S0 (x0 x2 x3 x10 : DV) (h : List AObj) : St := ⟨[x0, .junk, x2, x3] ++ js 6 ++ [x10] ++ js 82, h⟩

def a63L1 : ACode :=
  (.seq (.seq (.region false [⟨none, (some 49), .mov (.t 5)⟩,
    ⟨none, (some 50), .bin .lss (.t 49) (.k (.int .i64 64))⟩])
  (.cond (.t 50) .skip
  (.exit 2)))
  (.seq (.block 3 (.seq (.region true [⟨none, (some 53), .mov (.t 5)⟩,
    ⟨none, (some 54), .bin .sub (.t 53) (.k (.int .i64 15))⟩,
    ⟨none, (some 55), .idxA 64 1 (.t 3) (.t 54)⟩,
    ⟨none, (some 56), .load 1 false (.t 55)⟩,
    ⟨none, (some 57), .mov (.t 5)⟩,
    ⟨none, (some 58), .bin .sub (.t 57) (.k (.int .i64 2))⟩,
    ⟨none, (some 59), .idxA 64 1 (.t 3) (.t 58)⟩,
    ⟨none, (some 60), .load 1 false (.t 59)⟩,
    ⟨none, (some 6), .mov (.t 56)⟩,
    ⟨none, (some 7), .mov (.t 60)⟩])
  (.seq (.region false [⟨none, (some 61), .mov (.t 6)⟩,
    ⟨none, (some 62), .call (.k (.fn (.func 64) [] [])) [(.t 61), (.k (.int .i64 (-7)))]⟩,
    ⟨none, (some 63), .mov (.t 6)⟩,
    ⟨none, (some 64), .call (.k (.fn (.func 64) [] [])) [(.t 63), (.k (.int .i64 (-18)))]⟩,
    ⟨none, (some 65), .bin .xor (.t 62) (.t 64)⟩,
    ⟨none, (some 66), .mov (.t 6)⟩,
    ⟨none, (some 67), .bin .shr (.t 66) (.k (w64 3#64))⟩,
    ⟨none, (some 68), .bin .xor (.t 65) (.t 67)⟩,
    ⟨none, (some 8), .mov (.t 68)⟩])
  (.seq (.region false [⟨none, (some 69), .mov (.t 7)⟩,
    ⟨none, (some 70), .call (.k (.fn (.func 64) [] [])) [(.t 69), (.k (.int .i64 (-17)))]⟩,
    ⟨none, (some 71), .mov (.t 7)⟩,
    ⟨none, (some 72), .call (.k (.fn (.func 64) [] [])) [(.t 71), (.k (.int .i64 (-19)))]⟩,
    ⟨none, (some 73), .bin .xor (.t 70) (.t 72)⟩,
    ⟨none, (some 74), .mov (.t 7)⟩,
    ⟨none, (some 75), .bin .shr (.t 74) (.k (w64 10#64))⟩,
    ⟨none, (some 76), .bin .xor (.t 73) (.t 75)⟩,
    ⟨none, (some 9), .mov (.t 76)⟩])
  (.region true [⟨none, (some 77), .mov (.t 5)⟩,
    ⟨none, (some 78), .mov (.t 5)⟩,
    ⟨none, (some 79), .bin .sub (.t 78) (.k (.int .i64 16))⟩,
    ⟨none, (some 80), .idxA 64 1 (.t 3) (.t 79)⟩,
    ⟨none, (some 81), .load 1 false (.t 80)⟩,
    ⟨none, (some 82), .mov (.t 8)⟩,
    ⟨none, (some 83), .bin .add (.t 81) (.t 82)⟩,
    ⟨none, (some 84), .mov (.t 5)⟩,
    ⟨none, (some 85), .bin .sub (.t 84) (.k (.int .i64 7))⟩,
    ⟨none, (some 86), .idxA 64 1 (.t 3) (.t 85)⟩,
    ⟨none, (some 87), .load 1 false (.t 86)⟩,
    ⟨none, (some 88), .bin .add (.t 83) (.t 87)⟩,
    ⟨none, (some 89), .mov (.t 9)⟩,
    ⟨none, (some 90), .bin .add (.t 88) (.t 89)⟩,
    ⟨none, (some 91), .idxA 64 1 (.t 3) (.t 77)⟩,
    ⟨none, none, .store 1 (.t 91) (.t 90)⟩])))))
  (.region false [⟨none, (some 51), .mov (.t 5)⟩,
    ⟨none, (some 52), .bin .add (.t 51) (.k (.int .i64 1))⟩,
    ⟨none, (some 5), .mov (.t 52)⟩])))
/-- 2: 3:w 5:i -/
def a63S1 (x2 x3 x5 : DV) (h : List AObj) : St := ⟨[.junk, .junk, x2, x3, .junk, x5] ++ js 87, h⟩

def a63 : AFn where
  code := (.seq (.region false [⟨none, (some 2), .alloc (rep 64 (w32 0#32))⟩])
  (.seq (.region false [⟨none, (some 3), .alloc (rep 64 (w32 0#32))⟩])
  (.seq (.seq (.region false [⟨none, (some 10), .mov (.k (.int .i64 0))⟩])
  (.block 0 (.loop a63L0)))
  (.seq (.seq (.region false [⟨none, (some 5), .mov (.k (.int .i64 16))⟩])
  (.block 2 (.loop a63L1)))
  (.seq (.region false [⟨none, (some 92), .load 64 true (.t 3)⟩,
    ⟨none, none, .store 64 (.t 2) (.t 92)⟩])
  .ret)))))
  ntmps := 93
  res := [.cell 2 64 true]

theorem a63_ok : compileFn P Try.f63 = some a63 := by kernel_rfl

-- 64 math/bits.RotateLeft32
def a64 : AFn where
  code := (.seq (.region false [⟨none, (some 4), .mov (.k (w32 0#32))⟩])
  (.seq (.region false [⟨none, (some 6), .mov (.t 1)⟩,
    ⟨none, (some 7), .conv .u64 (.t 6)⟩,
    ⟨none, (some 8), .bin .and (.t 7) (.k (w64 31#64))⟩,
    ⟨none, (some 5), .mov (.t 8)⟩])
  (.seq (.region false [⟨none, (some 9), .mov (.t 0)⟩,
    ⟨none, (some 10), .mov (.t 5)⟩,
    ⟨none, (some 11), .bin .shl (.t 9) (.t 10)⟩,
    ⟨none, (some 12), .mov (.t 0)⟩,
    ⟨none, (some 13), .mov (.t 5)⟩,
    ⟨none, (some 14), .bin .sub (.k (w64 32#64)) (.t 13)⟩,
    ⟨none, (some 15), .bin .shr (.t 12) (.t 14)⟩,
    ⟨none, (some 16), .bin .or (.t 11) (.t 15)⟩,
    ⟨none, (some 4), .mov (.t 16)⟩])
  .ret)))
  ntmps := 17
  res := [.tmp 4]

theorem a64_ok : compileFn P Try.f64 = some a64 := by kernel_rfl

-- 53 admission/digest.rounds
def a53 : AFn where
  code := (.seq (.region false [⟨none, (some 0), .alloc (rep 64 (w32 0#32))⟩])
  (.seq (.region false [⟨none, (some 1), .build (rep 64 (w32 0#32)) [(0, 1, (.k (w32 1116352408#32))), (1, 1, (.k (w32 1899447441#32))), (2, 1, (.k (w32 3049323471#32))), (3, 1, (.k (w32 3921009573#32))), (4, 1, (.k (w32 961987163#32))), (5, 1, (.k (w32 1508970993#32))), (6, 1, (.k (w32 2453635748#32))), (7, 1, (.k (w32 2870763221#32))), (8, 1, (.k (w32 3624381080#32))), (9, 1, (.k (w32 310598401#32))), (10, 1, (.k (w32 607225278#32))), (11, 1, (.k (w32 1426881987#32))), (12, 1, (.k (w32 1925078388#32))), (13, 1, (.k (w32 2162078206#32))), (14, 1, (.k (w32 2614888103#32))), (15, 1, (.k (w32 3248222580#32))), (16, 1, (.k (w32 3835390401#32))), (17, 1, (.k (w32 4022224774#32))), (18, 1, (.k (w32 264347078#32))), (19, 1, (.k (w32 604807628#32))), (20, 1, (.k (w32 770255983#32))), (21, 1, (.k (w32 1249150122#32))), (22, 1, (.k (w32 1555081692#32))), (23, 1, (.k (w32 1996064986#32))), (24, 1, (.k (w32 2554220882#32))), (25, 1, (.k (w32 2821834349#32))), (26, 1, (.k (w32 2952996808#32))), (27, 1, (.k (w32 3210313671#32))), (28, 1, (.k (w32 3336571891#32))), (29, 1, (.k (w32 3584528711#32))), (30, 1, (.k (w32 113926993#32))), (31, 1, (.k (w32 338241895#32))), (32, 1, (.k (w32 666307205#32))), (33, 1, (.k (w32 773529912#32))), (34, 1, (.k (w32 1294757372#32))), (35, 1, (.k (w32 1396182291#32))), (36, 1, (.k (w32 1695183700#32))), (37, 1, (.k (w32 1986661051#32))), (38, 1, (.k (w32 2177026350#32))), (39, 1, (.k (w32 2456956037#32))), (40, 1, (.k (w32 2730485921#32))), (41, 1, (.k (w32 2820302411#32))), (42, 1, (.k (w32 3259730800#32))), (43, 1, (.k (w32 3345764771#32))), (44, 1, (.k (w32 3516065817#32))), (45, 1, (.k (w32 3600352804#32))), (46, 1, (.k (w32 4094571909#32))), (47, 1, (.k (w32 275423344#32))), (48, 1, (.k (w32 430227734#32))), (49, 1, (.k (w32 506948616#32))), (50, 1, (.k (w32 659060556#32))), (51, 1, (.k (w32 883997877#32))), (52, 1, (.k (w32 958139571#32))), (53, 1, (.k (w32 1322822218#32))), (54, 1, (.k (w32 1537002063#32))), (55, 1, (.k (w32 1747873779#32))), (56, 1, (.k (w32 1955562222#32))), (57, 1, (.k (w32 2024104815#32))), (58, 1, (.k (w32 2227730452#32))), (59, 1, (.k (w32 2361852424#32))), (60, 1, (.k (w32 2428436474#32))), (61, 1, (.k (w32 2756734187#32))), (62, 1, (.k (w32 3204031479#32))), (63, 1, (.k (w32 3329325298#32)))]⟩,
    ⟨none, none, .store 64 (.t 0) (.t 1)⟩])
  .ret))
  ntmps := 2
  res := [.cell 0 64 true]

theorem a53_ok : compileFn P Try.f53 = some a53 := by kernel_rfl

-- 54 admission/digest.absorb
def a54L0 : ACode :=
  (.seq (.region false [⟨none, (some 55), .bin .lss (.t 54) (.k (.int .i64 64))⟩])
  (.seq (.cond (.t 55) .skip
  (.exit 0))
  (.seq (.block 1 (.seq (.region false [⟨none, (some 56), .mov (.t 54)⟩,
    ⟨none, (some 15), .mov (.t 56)⟩])
  (.seq (.region true [⟨none, (some 57), .mov (.t 14)⟩,
    ⟨none, (some 58), .mov (.t 1)⟩,
    ⟨none, (some 59), .mov (.t 15)⟩,
    ⟨none, (some 60), .nilc (.t 58)⟩,
    ⟨none, (some 61), .idxA 64 1 (.t 60) (.t 59)⟩,
    ⟨none, (some 62), .load 1 false (.t 61)⟩,
    ⟨none, (some 63), .bin .add (.t 57) (.t 62)⟩,
    ⟨none, (some 64), .mov (.t 15)⟩,
    ⟨none, (some 65), .idxA 64 1 (.t 6) (.t 64)⟩,
    ⟨none, (some 66), .load 1 false (.t 65)⟩,
    ⟨none, (some 67), .bin .add (.t 63) (.t 66)⟩,
    ⟨none, (some 68), .mov (.t 11)⟩,
    ⟨none, (some 69), .mov (.t 12)⟩,
    ⟨none, (some 70), .bin .and (.t 68) (.t 69)⟩,
    ⟨none, (some 71), .mov (.t 11)⟩,
    ⟨none, (some 72), .un .xor (.t 71)⟩,
    ⟨none, (some 73), .mov (.t 13)⟩,
    ⟨none, (some 74), .bin .and (.t 72) (.t 73)⟩,
    ⟨none, (some 75), .bin .xor (.t 70) (.t 74)⟩,
    ⟨none, (some 76), .bin .add (.t 67) (.t 75)⟩,
    ⟨none, (some 16), .mov (.t 76)⟩])
  (.seq (.region false [⟨none, (some 77), .mov (.t 16)⟩,
    ⟨none, (some 78), .mov (.t 11)⟩,
    ⟨none, (some 79), .call (.k (.fn (.func 64) [] [])) [(.t 78), (.k (.int .i64 (-6)))]⟩,
    ⟨none, (some 80), .mov (.t 11)⟩,
    ⟨none, (some 81), .call (.k (.fn (.func 64) [] [])) [(.t 80), (.k (.int .i64 (-11)))]⟩,
    ⟨none, (some 82), .bin .xor (.t 79) (.t 81)⟩,
    ⟨none, (some 83), .mov (.t 11)⟩,
    ⟨none, (some 84), .call (.k (.fn (.func 64) [] [])) [(.t 83), (.k (.int .i64 (-25)))]⟩,
    ⟨none, (some 85), .bin .xor (.t 82) (.t 84)⟩,
    ⟨none, (some 86), .bin .add (.t 77) (.t 85)⟩,
    ⟨none, (some 16), .mov (.t 86)⟩])
  (.seq (.region false [⟨none, (some 87), .mov (.t 7)⟩,
    ⟨none, (some 88), .mov (.t 8)⟩,
    ⟨none, (some 89), .bin .and (.t 87) (.t 88)⟩,
    ⟨none, (some 90), .mov (.t 7)⟩,
    ⟨none, (some 91), .mov (.t 9)⟩,
    ⟨none, (some 92), .bin .and (.t 90) (.t 91)⟩,
    ⟨none, (some 93), .bin .xor (.t 89) (.t 92)⟩,
    ⟨none, (some 94), .mov (.t 8)⟩,
    ⟨none, (some 95), .mov (.t 9)⟩,
    ⟨none, (some 96), .bin .and (.t 94) (.t 95)⟩,
    ⟨none, (some 97), .bin .xor (.t 93) (.t 96)⟩,
    ⟨none, (some 17), .mov (.t 97)⟩])
  (.seq (.region false [⟨none, (some 98), .mov (.t 17)⟩,
    ⟨none, (some 99), .mov (.t 7)⟩,
    ⟨none, (some 100), .call (.k (.fn (.func 64) [] [])) [(.t 99), (.k (.int .i64 (-2)))]⟩,
    ⟨none, (some 101), .mov (.t 7)⟩,
    ⟨none, (some 102), .call (.k (.fn (.func 64) [] [])) [(.t 101), (.k (.int .i64 (-13)))]⟩,
    ⟨none, (some 103), .bin .xor (.t 100) (.t 102)⟩,
    ⟨none, (some 104), .mov (.t 7)⟩,
    ⟨none, (some 105), .call (.k (.fn (.func 64) [] [])) [(.t 104), (.k (.int .i64 (-22)))]⟩,
    ⟨none, (some 106), .bin .xor (.t 103) (.t 105)⟩,
    ⟨none, (some 107), .bin .add (.t 98) (.t 106)⟩,
    ⟨none, (some 17), .mov (.t 107)⟩])
  (.seq (.region false [⟨none, (some 108), .mov (.t 13)⟩,
    ⟨none, (some 109), .mov (.t 12)⟩,
    ⟨none, (some 110), .mov (.t 11)⟩,
    ⟨none, (some 111), .mov (.t 10)⟩,
    ⟨none, (some 112), .mov (.t 16)⟩,
    ⟨none, (some 113), .bin .add (.t 111) (.t 112)⟩,
    ⟨none, (some 14), .mov (.t 108)⟩,
    ⟨none, (some 13), .mov (.t 109)⟩,
    ⟨none, (some 12), .mov (.t 110)⟩,
    ⟨none, (some 11), .mov (.t 113)⟩])
  (.region false [⟨none, (some 114), .mov (.t 9)⟩,
    ⟨none, (some 115), .mov (.t 8)⟩,
    ⟨none, (some 116), .mov (.t 7)⟩,
    ⟨none, (some 117), .mov (.t 16)⟩,
    ⟨none, (some 118), .mov (.t 17)⟩,
    ⟨none, (some 119), .bin .add (.t 117) (.t 118)⟩,
    ⟨none, (some 10), .mov (.t 114)⟩,
    ⟨none, (some 9), .mov (.t 115)⟩,
    ⟨none, (some 8), .mov (.t 116)⟩,
    ⟨none, (some 7), .mov (.t 119)⟩]))))))))
  (.region false [⟨none, (some 120), .bin .add (.t 54) (.k (.int .i64 1))⟩,
    ⟨none, (some 54), .mov (.t 120)⟩]))))
/-- 0:state 1:k 6:w 7:a 8:b 9:c 10:d 11:e 12:f 13:g 14:h 54: -/
def a54S0 (x0 x1 x6 x7 x8 x9 x10 x11 x12 x13 x14 x54 : DV) (h : List AObj) : St := ⟨[x0, x1] ++ js 4 ++ [x6, x7, x8, x9, x10, x11, x12, x13, x14] ++ js 39 ++ [x54] ++ js 89, h⟩

def a54L1 : ACode :=
  (.seq (.region false [⟨none, (some 131), .bin .lss (.t 130) (.k (.int .i64 8))⟩])
  (.seq (.cond (.t 131) .skip
  (.exit 2))
  (.seq (.block 3 (.seq (.region false [⟨none, (some 132), .mov (.t 130)⟩,
    ⟨none, (some 133), .idxV 8 1 false (.t 129) (.t 130)⟩,
    ⟨none, (some 18), .mov (.t 132)⟩,
    ⟨none, (some 19), .mov (.t 133)⟩])
  (.region true [⟨none, (some 134), .mov (.t 0)⟩,
    ⟨none, (some 135), .mov (.t 18)⟩,
    ⟨none, (some 136), .nilc (.t 134)⟩,
    ⟨none, (some 137), .idxA 8 1 (.t 136) (.t 135)⟩,
    ⟨none, (some 138), .load 1 false (.t 137)⟩,
    ⟨none, (some 139), .mov (.t 19)⟩,
    ⟨none, (some 140), .bin .add (.t 138) (.t 139)⟩,
    ⟨none, (some 141), .nilc (.t 134)⟩,
    ⟨none, (some 142), .idxA 8 1 (.t 141) (.t 135)⟩,
    ⟨none, none, .store 1 (.t 142) (.t 140)⟩])))
  (.region false [⟨none, (some 143), .bin .add (.t 130) (.k (.int .i64 1))⟩,
    ⟨none, (some 130), .mov (.t 143)⟩]))))
/-- 0:state 129: 130: -/
def a54S1 (x0 x129 x130 : DV) (h : List AObj) : St := ⟨[x0] ++ js 128 ++ [x129, x130] ++ js 13, h⟩

def a54 : AFn where
  code := (.seq (.region false [⟨none, (some 20), .mov (.t 2)⟩,
    ⟨none, (some 21), .call (.k (.fn (.func 63) [] [])) [(.t 20)]⟩,
    ⟨none, (some 6), .alloc (rep 64 (w32 0#32))⟩,
    ⟨none, none, .store 64 (.t 6) (.t 21)⟩])
  (.seq (.region true [⟨none, (some 22), .mov (.t 0)⟩,
    ⟨none, (some 23), .nilc (.t 22)⟩,
    ⟨none, (some 24), .idxA 8 1 (.t 23) (.k (.int .i64 0))⟩,
    ⟨none, (some 25), .load 1 false (.t 24)⟩,
    ⟨none, (some 26), .mov (.t 0)⟩,
    ⟨none, (some 27), .nilc (.t 26)⟩,
    ⟨none, (some 28), .idxA 8 1 (.t 27) (.k (.int .i64 1))⟩,
    ⟨none, (some 29), .load 1 false (.t 28)⟩,
    ⟨none, (some 30), .mov (.t 0)⟩,
    ⟨none, (some 31), .nilc (.t 30)⟩,
    ⟨none, (some 32), .idxA 8 1 (.t 31) (.k (.int .i64 2))⟩,
    ⟨none, (some 33), .load 1 false (.t 32)⟩,
    ⟨none, (some 34), .mov (.t 0)⟩,
    ⟨none, (some 35), .nilc (.t 34)⟩,
    ⟨none, (some 36), .idxA 8 1 (.t 35) (.k (.int .i64 3))⟩,
    ⟨none, (some 37), .load 1 false (.t 36)⟩,
    ⟨none, (some 7), .mov (.t 25)⟩,
    ⟨none, (some 8), .mov (.t 29)⟩,
    ⟨none, (some 9), .mov (.t 33)⟩,
    ⟨none, (some 10), .mov (.t 37)⟩])
  (.seq (.region true [⟨none, (some 38), .mov (.t 0)⟩,
    ⟨none, (some 39), .nilc (.t 38)⟩,
    ⟨none, (some 40), .idxA 8 1 (.t 39) (.k (.int .i64 4))⟩,
    ⟨none, (some 41), .load 1 false (.t 40)⟩,
    ⟨none, (some 42), .mov (.t 0)⟩,
    ⟨none, (some 43), .nilc (.t 42)⟩,
    ⟨none, (some 44), .idxA 8 1 (.t 43) (.k (.int .i64 5))⟩,
    ⟨none, (some 45), .load 1 false (.t 44)⟩,
    ⟨none, (some 46), .mov (.t 0)⟩,
    ⟨none, (some 47), .nilc (.t 46)⟩,
    ⟨none, (some 48), .idxA 8 1 (.t 47) (.k (.int .i64 6))⟩,
    ⟨none, (some 49), .load 1 false (.t 48)⟩,
    ⟨none, (some 50), .mov (.t 0)⟩,
    ⟨none, (some 51), .nilc (.t 50)⟩,
    ⟨none, (some 52), .idxA 8 1 (.t 51) (.k (.int .i64 7))⟩,
    ⟨none, (some 53), .load 1 false (.t 52)⟩,
    ⟨none, (some 11), .mov (.t 41)⟩,
    ⟨none, (some 12), .mov (.t 45)⟩,
    ⟨none, (some 13), .mov (.t 49)⟩,
    ⟨none, (some 14), .mov (.t 53)⟩])
  (.seq (.seq (.region false [⟨none, (some 54), .mov (.k (.int .i64 0))⟩])
  (.block 0 (.loop a54L0)))
  (.seq (.region false [⟨none, (some 121), .mov (.t 7)⟩,
    ⟨none, (some 122), .mov (.t 8)⟩,
    ⟨none, (some 123), .mov (.t 9)⟩,
    ⟨none, (some 124), .mov (.t 10)⟩,
    ⟨none, (some 125), .mov (.t 11)⟩,
    ⟨none, (some 126), .mov (.t 12)⟩,
    ⟨none, (some 127), .mov (.t 13)⟩,
    ⟨none, (some 128), .mov (.t 14)⟩,
    ⟨none, (some 129), .build (rep 8 (w32 0#32)) [(0, 1, (.t 121)), (1, 1, (.t 122)), (2, 1, (.t 123)), (3, 1, (.t 124)), (4, 1, (.t 125)), (5, 1, (.t 126)), (6, 1, (.t 127)), (7, 1, (.t 128))]⟩,
    ⟨none, (some 130), .mov (.k (.int .i64 0))⟩])
  (.block 2 (.loop a54L1)))))))
  ntmps := 144
  res := []

theorem a54_ok : compileFn P Try.f54 = some a54 := by kernel_rfl

-- 33 admission/digest.Sum
def a33L0 : ACode :=
  (.seq (.seq (.region false [⟨none, (some 18), .mov (.t 0)⟩,
    ⟨none, (some 19), .len (.t 18)⟩,
    ⟨none, (some 20), .bin .geq (.t 19) (.k (.int .i64 64))⟩])
  (.cond (.t 20) .skip
  (.exit 0)))
  (.block 1 (.seq (.region false [⟨none, (some 21), .mov (.t 0)⟩,
    ⟨none, (some 22), .slcS 1 (.t 21) none (some (.k (.int .i64 64))) none⟩,
    ⟨none, (some 23), .call (.k (.fn (.func 54) [] [])) [(.t 3), (.t 4), (.t 22)]⟩])
  (.region false [⟨none, (some 24), .mov (.t 0)⟩,
    ⟨none, (some 25), .slcS 1 (.t 24) (some (.k (.int .i64 64))) none none⟩,
    ⟨none, (some 0), .mov (.t 25)⟩]))))
/-- 0:b 2: 3:state 4:k 5:length -/
def a33S0 (x0 x2 x3 x4 x5 : DV) (h : List AObj) : St := ⟨[x0, .junk, x2, x3, x4, x5] ++ js 70, h⟩

def a33L1 : ACode :=
  (.seq (.region false [⟨none, (some 36), .bin .lss (.t 35) (.k (.int .i64 8))⟩])
  (.seq (.cond (.t 36) .skip
  (.exit 2))
  (.seq (.block 3 (.seq (.region false [⟨none, (some 37), .mov (.t 35)⟩,
    ⟨none, (some 8), .mov (.t 37)⟩])
  (.region false [⟨none, (some 38), .mov (.t 7)⟩,
    ⟨none, (some 39), .bin .sub (.t 38) (.k (.int .i64 1))⟩,
    ⟨none, (some 40), .mov (.t 8)⟩,
    ⟨none, (some 41), .bin .sub (.t 39) (.t 40)⟩,
    ⟨none, (some 42), .mov (.t 5)⟩,
    ⟨none, (some 43), .mov (.t 8)⟩,
    ⟨none, (some 44), .bin .mul (.k (.int .i64 8)) (.t 43)⟩,
    ⟨none, (some 45), .bin .shr (.t 42) (.t 44)⟩,
    ⟨none, (some 46), .conv .u8 (.t 45)⟩,
    ⟨none, (some 47), .idxA 128 1 (.t 6) (.t 41)⟩,
    ⟨none, none, .store 1 (.t 47) (.t 46)⟩])))
  (.region false [⟨none, (some 48), .bin .add (.t 35) (.k (.int .i64 1))⟩,
    ⟨none, (some 35), .mov (.t 48)⟩]))))
/-- 2: 3:state 4:k 5:length 6:tail 7:end 35: -/
def a33S1 (x2 x3 x4 x5 x6 x7 x35 : DV) (h : List AObj) : St := ⟨[.junk, .junk, x2, x3, x4, x5, x6, x7] ++ js 27 ++ [x35] ++ js 40, h⟩

def a33L2 : ACode :=
  (.seq (.seq (.region false [⟨none, (some 49), .mov (.t 9)⟩,
    ⟨none, (some 50), .mov (.t 7)⟩,
    ⟨none, (some 51), .bin .lss (.t 49) (.t 50)⟩])
  (.cond (.t 51) .skip
  (.exit 4)))
  (.seq (.block 5 (.region false [⟨none, (some 54), .mov (.t 9)⟩,
    ⟨none, (some 55), .mov (.t 9)⟩,
    ⟨none, (some 56), .bin .add (.t 55) (.k (.int .i64 64))⟩,
    ⟨none, (some 57), .slcA 128 1 (.t 6) (some (.t 54)) (some (.t 56))⟩,
    ⟨none, (some 58), .call (.k (.fn (.func 54) [] [])) [(.t 3), (.t 4), (.t 57)]⟩]))
  (.region false [⟨none, (some 52), .mov (.t 9)⟩,
    ⟨none, (some 53), .bin .add (.t 52) (.k (.int .i64 64))⟩,
    ⟨none, (some 9), .mov (.t 53)⟩])))
/-- 2: 3:state 4:k 6:tail 7:end 9:at -/
def a33S2 (x2 x3 x4 x6 x7 x9 : DV) (h : List AObj) : St := ⟨[.junk, .junk, x2, x3, x4, .junk, x6, x7, .junk, x9] ++ js 66, h⟩

def a33L3 : ACode :=
  (.seq (.region false [⟨none, (some 60), .bin .lss (.t 59) (.k (.int .i64 32))⟩])
  (.seq (.cond (.t 60) .skip
  (.exit 6))
  (.seq (.block 7 (.seq (.region false [⟨none, (some 61), .mov (.t 59)⟩,
    ⟨none, (some 11), .mov (.t 61)⟩])
  (.region false [⟨none, (some 62), .mov (.t 11)⟩,
    ⟨none, (some 63), .mov (.t 11)⟩,
    ⟨none, (some 64), .bin .quo (.t 63) (.k (.int .i64 4))⟩,
    ⟨none, (some 65), .idxA 8 1 (.t 3) (.t 64)⟩,
    ⟨none, (some 66), .load 1 false (.t 65)⟩,
    ⟨none, (some 67), .mov (.t 11)⟩,
    ⟨none, (some 68), .bin .rem (.t 67) (.k (.int .i64 4))⟩,
    ⟨none, (some 69), .bin .mul (.k (.int .i64 8)) (.t 68)⟩,
    ⟨none, (some 70), .bin .sub (.k (.int .i64 24)) (.t 69)⟩,
    ⟨none, (some 71), .bin .shr (.t 66) (.t 70)⟩,
    ⟨none, (some 72), .conv .u8 (.t 71)⟩,
    ⟨none, (some 73), .idxA 32 1 (.t 10) (.t 62)⟩,
    ⟨none, none, .store 1 (.t 73) (.t 72)⟩])))
  (.region false [⟨none, (some 74), .bin .add (.t 59) (.k (.int .i64 1))⟩,
    ⟨none, (some 59), .mov (.t 74)⟩]))))
/-- 2: 3:state 10:d 59: -/
def a33S3 (x2 x3 x10 x59 : DV) (h : List AObj) : St := ⟨[.junk, .junk, x2, x3] ++ js 6 ++ [x10] ++ js 48 ++ [x59] ++ js 16, h⟩

def a33 : AFn where
  code := (.seq (.region false [⟨none, (some 2), .alloc (rep 32 (w8 0#8))⟩])
  (.seq (.region false [⟨none, (some 12), .build (rep 8 (w32 0#32)) [(0, 1, (.k (w32 1779033703#32))), (1, 1, (.k (w32 3144134277#32))), (2, 1, (.k (w32 1013904242#32))), (3, 1, (.k (w32 2773480762#32))), (4, 1, (.k (w32 1359893119#32))), (5, 1, (.k (w32 2600822924#32))), (6, 1, (.k (w32 528734635#32))), (7, 1, (.k (w32 1541459225#32)))]⟩,
    ⟨none, (some 3), .alloc (rep 8 (w32 0#32))⟩,
    ⟨none, none, .store 8 (.t 3) (.t 12)⟩])
  (.seq (.region false [⟨none, (some 13), .call (.k (.fn (.func 53) [] [])) []⟩,
    ⟨none, (some 4), .alloc (rep 64 (w32 0#32))⟩,
    ⟨none, none, .store 64 (.t 4) (.t 13)⟩])
  (.seq (.region false [⟨none, (some 14), .mov (.t 0)⟩,
    ⟨none, (some 15), .len (.t 14)⟩,
    ⟨none, (some 16), .conv .u64 (.t 15)⟩,
    ⟨none, (some 17), .bin .mul (.t 16) (.k (w64 8#64))⟩,
    ⟨none, (some 5), .mov (.t 17)⟩])
  (.seq (.block 0 (.loop a33L0))
  (.seq (.region false [⟨none, (some 6), .alloc (rep 128 (w8 0#8))⟩])
  (.seq (.region false [⟨none, (some 26), .slcA 128 1 (.t 6) none none⟩,
    ⟨none, (some 27), .mov (.t 0)⟩,
    ⟨none, (some 28), .cpy 1 (.t 26) (.t 27)⟩])
  (.seq (.region false [⟨none, (some 29), .mov (.t 0)⟩,
    ⟨none, (some 30), .len (.t 29)⟩,
    ⟨none, (some 31), .idxA 128 1 (.t 6) (.t 30)⟩,
    ⟨none, none, .store 1 (.t 31) (.k (w8 128#8))⟩])
  (.seq (.region false [⟨none, (some 7), .mov (.k (.int .i64 64))⟩])
  (.seq (.seq (.region false [⟨none, (some 32), .mov (.t 0)⟩,
    ⟨none, (some 33), .len (.t 32)⟩,
    ⟨none, (some 34), .bin .geq (.t 33) (.k (.int .i64 56))⟩])
  (.cond (.t 34) (.region false [⟨none, (some 7), .mov (.k (.int .i64 128))⟩])
  .skip))
  (.seq (.seq (.region false [⟨none, (some 35), .mov (.k (.int .i64 0))⟩])
  (.block 2 (.loop a33L1)))
  (.seq (.seq (.region false [⟨none, (some 9), .mov (.k (.int .i64 0))⟩])
  (.block 4 (.loop a33L2)))
  (.seq (.region false [⟨none, (some 10), .alloc (rep 32 (w8 0#8))⟩])
  (.seq (.seq (.region false [⟨none, (some 59), .mov (.k (.int .i64 0))⟩])
  (.block 6 (.loop a33L3)))
  (.seq (.region false [⟨none, (some 75), .load 32 true (.t 10)⟩,
    ⟨none, none, .store 32 (.t 2) (.t 75)⟩])
  .ret)))))))))))))))
  ntmps := 76
  res := [.cell 2 32 true]

theorem a33_ok : compileFn P Try.f33 = some a33 := by kernel_rfl

-- 65 admission/admissionref01.rotate
def a65 : AFn where
  code := (.seq (.region false [⟨none, (some 4), .mov (.k (w32 0#32))⟩])
  (.seq (.region false [⟨none, (some 5), .mov (.t 0)⟩,
    ⟨none, (some 6), .mov (.t 1)⟩,
    ⟨none, (some 7), .conv .u64 (.t 6)⟩,
    ⟨none, (some 8), .bin .shr (.t 5) (.t 7)⟩,
    ⟨none, (some 9), .mov (.t 0)⟩,
    ⟨none, (some 10), .mov (.t 1)⟩,
    ⟨none, (some 11), .bin .sub (.k (.int .i64 32)) (.t 10)⟩,
    ⟨none, (some 12), .conv .u64 (.t 11)⟩,
    ⟨none, (some 13), .bin .shl (.t 9) (.t 12)⟩,
    ⟨none, (some 14), .bin .or (.t 8) (.t 13)⟩,
    ⟨none, (some 4), .mov (.t 14)⟩])
  .ret))
  ntmps := 15
  res := [.tmp 4]

theorem a65_ok : compileFn P Try.f65 = some a65 := by kernel_rfl

-- 66 admission/admissionref01.constants
def a66 : AFn where
  code := (.seq (.region false [⟨none, (some 0), .alloc (rep 64 (w32 0#32))⟩])
  (.seq (.region false [⟨none, (some 1), .build (rep 64 (w32 0#32)) [(0, 1, (.k (w32 1116352408#32))), (1, 1, (.k (w32 1899447441#32))), (2, 1, (.k (w32 3049323471#32))), (3, 1, (.k (w32 3921009573#32))), (4, 1, (.k (w32 961987163#32))), (5, 1, (.k (w32 1508970993#32))), (6, 1, (.k (w32 2453635748#32))), (7, 1, (.k (w32 2870763221#32))), (8, 1, (.k (w32 3624381080#32))), (9, 1, (.k (w32 310598401#32))), (10, 1, (.k (w32 607225278#32))), (11, 1, (.k (w32 1426881987#32))), (12, 1, (.k (w32 1925078388#32))), (13, 1, (.k (w32 2162078206#32))), (14, 1, (.k (w32 2614888103#32))), (15, 1, (.k (w32 3248222580#32))), (16, 1, (.k (w32 3835390401#32))), (17, 1, (.k (w32 4022224774#32))), (18, 1, (.k (w32 264347078#32))), (19, 1, (.k (w32 604807628#32))), (20, 1, (.k (w32 770255983#32))), (21, 1, (.k (w32 1249150122#32))), (22, 1, (.k (w32 1555081692#32))), (23, 1, (.k (w32 1996064986#32))), (24, 1, (.k (w32 2554220882#32))), (25, 1, (.k (w32 2821834349#32))), (26, 1, (.k (w32 2952996808#32))), (27, 1, (.k (w32 3210313671#32))), (28, 1, (.k (w32 3336571891#32))), (29, 1, (.k (w32 3584528711#32))), (30, 1, (.k (w32 113926993#32))), (31, 1, (.k (w32 338241895#32))), (32, 1, (.k (w32 666307205#32))), (33, 1, (.k (w32 773529912#32))), (34, 1, (.k (w32 1294757372#32))), (35, 1, (.k (w32 1396182291#32))), (36, 1, (.k (w32 1695183700#32))), (37, 1, (.k (w32 1986661051#32))), (38, 1, (.k (w32 2177026350#32))), (39, 1, (.k (w32 2456956037#32))), (40, 1, (.k (w32 2730485921#32))), (41, 1, (.k (w32 2820302411#32))), (42, 1, (.k (w32 3259730800#32))), (43, 1, (.k (w32 3345764771#32))), (44, 1, (.k (w32 3516065817#32))), (45, 1, (.k (w32 3600352804#32))), (46, 1, (.k (w32 4094571909#32))), (47, 1, (.k (w32 275423344#32))), (48, 1, (.k (w32 430227734#32))), (49, 1, (.k (w32 506948616#32))), (50, 1, (.k (w32 659060556#32))), (51, 1, (.k (w32 883997877#32))), (52, 1, (.k (w32 958139571#32))), (53, 1, (.k (w32 1322822218#32))), (54, 1, (.k (w32 1537002063#32))), (55, 1, (.k (w32 1747873779#32))), (56, 1, (.k (w32 1955562222#32))), (57, 1, (.k (w32 2024104815#32))), (58, 1, (.k (w32 2227730452#32))), (59, 1, (.k (w32 2361852424#32))), (60, 1, (.k (w32 2428436474#32))), (61, 1, (.k (w32 2756734187#32))), (62, 1, (.k (w32 3204031479#32))), (63, 1, (.k (w32 3329325298#32)))]⟩,
    ⟨none, none, .store 64 (.t 0) (.t 1)⟩])
  .ret))
  ntmps := 2
  res := [.cell 0 64 true]

theorem a66_ok : compileFn P Try.f66 = some a66 := by kernel_rfl

-- 55 admission/admissionref01.block
def a55L0 : ACode :=
  (.seq (.seq (.region false [⟨none, (some 18), .mov (.t 6)⟩,
    ⟨none, (some 19), .bin .lss (.t 18) (.k (.int .i64 16))⟩])
  (.cond (.t 19) .skip
  (.exit 0)))
  (.seq (.block 1 (.region true [⟨none, (some 22), .mov (.t 6)⟩,
    ⟨none, (some 23), .mov (.t 1)⟩,
    ⟨none, (some 24), .mov (.t 6)⟩,
    ⟨none, (some 25), .bin .mul (.k (.int .i64 4)) (.t 24)⟩,
    ⟨none, (some 26), .idxS 1 (.t 23) (.t 25)⟩,
    ⟨none, (some 27), .load 1 false (.t 26)⟩,
    ⟨none, (some 28), .conv .u32 (.t 27)⟩,
    ⟨none, (some 29), .bin .shl (.t 28) (.k (w64 24#64))⟩,
    ⟨none, (some 30), .mov (.t 1)⟩,
    ⟨none, (some 31), .mov (.t 6)⟩,
    ⟨none, (some 32), .bin .mul (.k (.int .i64 4)) (.t 31)⟩,
    ⟨none, (some 33), .bin .add (.t 32) (.k (.int .i64 1))⟩,
    ⟨none, (some 34), .idxS 1 (.t 30) (.t 33)⟩,
    ⟨none, (some 35), .load 1 false (.t 34)⟩,
    ⟨none, (some 36), .conv .u32 (.t 35)⟩,
    ⟨none, (some 37), .bin .shl (.t 36) (.k (w64 16#64))⟩,
    ⟨none, (some 38), .bin .or (.t 29) (.t 37)⟩,
    ⟨none, (some 39), .mov (.t 1)⟩,
    ⟨none, (some 40), .mov (.t 6)⟩,
    ⟨none, (some 41), .bin .mul (.k (.int .i64 4)) (.t 40)⟩,
    ⟨none, (some 42), .bin .add (.t 41) (.k (.int .i64 2))⟩,
    ⟨none, (some 43), .idxS 1 (.t 39) (.t 42)⟩,
    ⟨none, (some 44), .load 1 false (.t 43)⟩,
    ⟨none, (some 45), .conv .u32 (.t 44)⟩,
    ⟨none, (some 46), .bin .shl (.t 45) (.k (w64 8#64))⟩,
    ⟨none, (some 47), .bin .or (.t 38) (.t 46)⟩,
    ⟨none, (some 48), .mov (.t 1)⟩,
    ⟨none, (some 49), .mov (.t 6)⟩,
    ⟨none, (some 50), .bin .mul (.k (.int .i64 4)) (.t 49)⟩,
    ⟨none, (some 51), .bin .add (.t 50) (.k (.int .i64 3))⟩,
    ⟨none, (some 52), .idxS 1 (.t 48) (.t 51)⟩,
    ⟨none, (some 53), .load 1 false (.t 52)⟩,
    ⟨none, (some 54), .conv .u32 (.t 53)⟩,
    ⟨none, (some 55), .bin .or (.t 47) (.t 54)⟩,
    ⟨none, (some 56), .idxA 64 1 (.t 5) (.t 22)⟩,
    ⟨none, none, .store 1 (.t 56) (.t 55)⟩]))
  (.region false [⟨none, (some 20), .mov (.t 6)⟩,
    ⟨none, (some 21), .bin .add (.t 20) (.k (.int .i64 1))⟩,
    ⟨none, (some 6), .mov (.t 21)⟩])))
/-- 1:p 2:h 4: 5:w 6:i -/
def a55S0 (x1 x2 x4 x5 x6 : DV) (h : List AObj) : St := ⟨[.junk, x1, x2, .junk, x4, x5, x6] ++ js 209, h⟩

def a55L1 : ACode :=
  (.seq (.seq (.region false [⟨none, (some 57), .mov (.t 7)⟩,
    ⟨none, (some 58), .bin .lss (.t 57) (.k (.int .i64 64))⟩])
  (.cond (.t 58) .skip
  (.exit 2)))
  (.seq (.block 3 (.seq (.region true [⟨none, (some 61), .mov (.t 7)⟩,
    ⟨none, (some 62), .bin .sub (.t 61) (.k (.int .i64 15))⟩,
    ⟨none, (some 63), .idxA 64 1 (.t 5) (.t 62)⟩,
    ⟨none, (some 64), .load 1 false (.t 63)⟩,
    ⟨none, (some 65), .call (.k (.fn (.func 65) [] [])) [(.t 64), (.k (.int .i64 7))]⟩,
    ⟨none, (some 66), .mov (.t 7)⟩,
    ⟨none, (some 67), .bin .sub (.t 66) (.k (.int .i64 15))⟩,
    ⟨none, (some 68), .idxA 64 1 (.t 5) (.t 67)⟩,
    ⟨none, (some 69), .load 1 false (.t 68)⟩,
    ⟨none, (some 70), .call (.k (.fn (.func 65) [] [])) [(.t 69), (.k (.int .i64 18))]⟩,
    ⟨none, (some 71), .bin .xor (.t 65) (.t 70)⟩,
    ⟨none, (some 72), .mov (.t 7)⟩,
    ⟨none, (some 73), .bin .sub (.t 72) (.k (.int .i64 15))⟩,
    ⟨none, (some 74), .idxA 64 1 (.t 5) (.t 73)⟩,
    ⟨none, (some 75), .load 1 false (.t 74)⟩,
    ⟨none, (some 76), .bin .shr (.t 75) (.k (w64 3#64))⟩,
    ⟨none, (some 77), .bin .xor (.t 71) (.t 76)⟩,
    ⟨none, (some 8), .mov (.t 77)⟩])
  (.seq (.region true [⟨none, (some 78), .mov (.t 7)⟩,
    ⟨none, (some 79), .bin .sub (.t 78) (.k (.int .i64 2))⟩,
    ⟨none, (some 80), .idxA 64 1 (.t 5) (.t 79)⟩,
    ⟨none, (some 81), .load 1 false (.t 80)⟩,
    ⟨none, (some 82), .call (.k (.fn (.func 65) [] [])) [(.t 81), (.k (.int .i64 17))]⟩,
    ⟨none, (some 83), .mov (.t 7)⟩,
    ⟨none, (some 84), .bin .sub (.t 83) (.k (.int .i64 2))⟩,
    ⟨none, (some 85), .idxA 64 1 (.t 5) (.t 84)⟩,
    ⟨none, (some 86), .load 1 false (.t 85)⟩,
    ⟨none, (some 87), .call (.k (.fn (.func 65) [] [])) [(.t 86), (.k (.int .i64 19))]⟩,
    ⟨none, (some 88), .bin .xor (.t 82) (.t 87)⟩,
    ⟨none, (some 89), .mov (.t 7)⟩,
    ⟨none, (some 90), .bin .sub (.t 89) (.k (.int .i64 2))⟩,
    ⟨none, (some 91), .idxA 64 1 (.t 5) (.t 90)⟩,
    ⟨none, (some 92), .load 1 false (.t 91)⟩,
    ⟨none, (some 93), .bin .shr (.t 92) (.k (w64 10#64))⟩,
    ⟨none, (some 94), .bin .xor (.t 88) (.t 93)⟩,
    ⟨none, (some 9), .mov (.t 94)⟩])
  (.region true [⟨none, (some 95), .mov (.t 7)⟩,
    ⟨none, (some 96), .mov (.t 7)⟩,
    ⟨none, (some 97), .bin .sub (.t 96) (.k (.int .i64 16))⟩,
    ⟨none, (some 98), .idxA 64 1 (.t 5) (.t 97)⟩,
    ⟨none, (some 99), .load 1 false (.t 98)⟩,
    ⟨none, (some 100), .mov (.t 8)⟩,
    ⟨none, (some 101), .bin .add (.t 99) (.t 100)⟩,
    ⟨none, (some 102), .mov (.t 7)⟩,
    ⟨none, (some 103), .bin .sub (.t 102) (.k (.int .i64 7))⟩,
    ⟨none, (some 104), .idxA 64 1 (.t 5) (.t 103)⟩,
    ⟨none, (some 105), .load 1 false (.t 104)⟩,
    ⟨none, (some 106), .bin .add (.t 101) (.t 105)⟩,
    ⟨none, (some 107), .mov (.t 9)⟩,
    ⟨none, (some 108), .bin .add (.t 106) (.t 107)⟩,
    ⟨none, (some 109), .idxA 64 1 (.t 5) (.t 95)⟩,
    ⟨none, none, .store 1 (.t 109) (.t 108)⟩]))))
  (.region false [⟨none, (some 59), .mov (.t 7)⟩,
    ⟨none, (some 60), .bin .add (.t 59) (.k (.int .i64 1))⟩,
    ⟨none, (some 7), .mov (.t 60)⟩])))
/-- 2:h 4: 5:w 7:i -/
def a55S1 (x2 x4 x5 x7 : DV) (h : List AObj) : St := ⟨[.junk, .junk, x2, .junk, x4, x5, .junk, x7] ++ js 208, h⟩

def a55L2 : ACode :=
  (.seq (.seq (.region false [⟨none, (some 112), .mov (.t 12)⟩,
    ⟨none, (some 113), .bin .lss (.t 112) (.k (.int .i64 64))⟩])
  (.cond (.t 113) .skip
  (.exit 4)))
  (.seq (.block 5 (.seq (.region true [⟨none, (some 116), .idxA 8 1 (.t 11) (.k (.int .i64 4))⟩,
    ⟨none, (some 117), .load 1 false (.t 116)⟩,
    ⟨none, (some 118), .call (.k (.fn (.func 65) [] [])) [(.t 117), (.k (.int .i64 6))]⟩,
    ⟨none, (some 119), .idxA 8 1 (.t 11) (.k (.int .i64 4))⟩,
    ⟨none, (some 120), .load 1 false (.t 119)⟩,
    ⟨none, (some 121), .call (.k (.fn (.func 65) [] [])) [(.t 120), (.k (.int .i64 11))]⟩,
    ⟨none, (some 122), .bin .xor (.t 118) (.t 121)⟩,
    ⟨none, (some 123), .idxA 8 1 (.t 11) (.k (.int .i64 4))⟩,
    ⟨none, (some 124), .load 1 false (.t 123)⟩,
    ⟨none, (some 125), .call (.k (.fn (.func 65) [] [])) [(.t 124), (.k (.int .i64 25))]⟩,
    ⟨none, (some 126), .bin .xor (.t 122) (.t 125)⟩,
    ⟨none, (some 13), .mov (.t 126)⟩])
  (.seq (.region true [⟨none, (some 127), .idxA 8 1 (.t 11) (.k (.int .i64 7))⟩,
    ⟨none, (some 128), .load 1 false (.t 127)⟩,
    ⟨none, (some 129), .mov (.t 13)⟩,
    ⟨none, (some 130), .bin .add (.t 128) (.t 129)⟩,
    ⟨none, (some 131), .idxA 8 1 (.t 11) (.k (.int .i64 4))⟩,
    ⟨none, (some 132), .load 1 false (.t 131)⟩,
    ⟨none, (some 133), .idxA 8 1 (.t 11) (.k (.int .i64 5))⟩,
    ⟨none, (some 134), .load 1 false (.t 133)⟩,
    ⟨none, (some 135), .bin .and (.t 132) (.t 134)⟩,
    ⟨none, (some 136), .idxA 8 1 (.t 11) (.k (.int .i64 4))⟩,
    ⟨none, (some 137), .load 1 false (.t 136)⟩,
    ⟨none, (some 138), .un .xor (.t 137)⟩,
    ⟨none, (some 139), .idxA 8 1 (.t 11) (.k (.int .i64 6))⟩,
    ⟨none, (some 140), .load 1 false (.t 139)⟩,
    ⟨none, (some 141), .bin .and (.t 138) (.t 140)⟩,
    ⟨none, (some 142), .bin .xor (.t 135) (.t 141)⟩,
    ⟨none, (some 143), .bin .add (.t 130) (.t 142)⟩,
    ⟨none, (some 144), .mov (.t 12)⟩,
    ⟨none, (some 145), .idxA 64 1 (.t 10) (.t 144)⟩,
    ⟨none, (some 146), .load 1 false (.t 145)⟩,
    ⟨none, (some 147), .bin .add (.t 143) (.t 146)⟩,
    ⟨none, (some 148), .mov (.t 12)⟩,
    ⟨none, (some 149), .idxA 64 1 (.t 5) (.t 148)⟩,
    ⟨none, (some 150), .load 1 false (.t 149)⟩,
    ⟨none, (some 151), .bin .add (.t 147) (.t 150)⟩,
    ⟨none, (some 14), .mov (.t 151)⟩])
  (.seq (.region true [⟨none, (some 152), .idxA 8 1 (.t 11) (.k (.int .i64 0))⟩,
    ⟨none, (some 153), .load 1 false (.t 152)⟩,
    ⟨none, (some 154), .call (.k (.fn (.func 65) [] [])) [(.t 153), (.k (.int .i64 2))]⟩,
    ⟨none, (some 155), .idxA 8 1 (.t 11) (.k (.int .i64 0))⟩,
    ⟨none, (some 156), .load 1 false (.t 155)⟩,
    ⟨none, (some 157), .call (.k (.fn (.func 65) [] [])) [(.t 156), (.k (.int .i64 13))]⟩,
    ⟨none, (some 158), .bin .xor (.t 154) (.t 157)⟩,
    ⟨none, (some 159), .idxA 8 1 (.t 11) (.k (.int .i64 0))⟩,
    ⟨none, (some 160), .load 1 false (.t 159)⟩,
    ⟨none, (some 161), .call (.k (.fn (.func 65) [] [])) [(.t 160), (.k (.int .i64 22))]⟩,
    ⟨none, (some 162), .bin .xor (.t 158) (.t 161)⟩,
    ⟨none, (some 15), .mov (.t 162)⟩])
  (.seq (.region false [⟨none, (some 163), .mov (.t 15)⟩,
    ⟨none, (some 164), .idxA 8 1 (.t 11) (.k (.int .i64 0))⟩,
    ⟨none, (some 165), .load 1 false (.t 164)⟩,
    ⟨none, (some 166), .idxA 8 1 (.t 11) (.k (.int .i64 1))⟩,
    ⟨none, (some 167), .load 1 false (.t 166)⟩,
    ⟨none, (some 168), .bin .and (.t 165) (.t 167)⟩,
    ⟨none, (some 169), .idxA 8 1 (.t 11) (.k (.int .i64 0))⟩,
    ⟨none, (some 170), .load 1 false (.t 169)⟩,
    ⟨none, (some 171), .idxA 8 1 (.t 11) (.k (.int .i64 2))⟩,
    ⟨none, (some 172), .load 1 false (.t 171)⟩,
    ⟨none, (some 173), .bin .and (.t 170) (.t 172)⟩,
    ⟨none, (some 174), .bin .xor (.t 168) (.t 173)⟩,
    ⟨none, (some 175), .idxA 8 1 (.t 11) (.k (.int .i64 1))⟩,
    ⟨none, (some 176), .load 1 false (.t 175)⟩,
    ⟨none, (some 177), .idxA 8 1 (.t 11) (.k (.int .i64 2))⟩,
    ⟨none, (some 178), .load 1 false (.t 177)⟩,
    ⟨none, (some 179), .bin .and (.t 176) (.t 178)⟩,
    ⟨none, (some 180), .bin .xor (.t 174) (.t 179)⟩,
    ⟨none, (some 181), .bin .add (.t 163) (.t 180)⟩,
    ⟨none, (some 16), .mov (.t 181)⟩])
  (.region false [⟨none, (some 182), .mov (.t 14)⟩,
    ⟨none, (some 183), .mov (.t 16)⟩,
    ⟨none, (some 184), .bin .add (.t 182) (.t 183)⟩,
    ⟨none, (some 185), .idxA 8 1 (.t 11) (.k (.int .i64 0))⟩,
    ⟨none, (some 186), .load 1 false (.t 185)⟩,
    ⟨none, (some 187), .idxA 8 1 (.t 11) (.k (.int .i64 1))⟩,
    ⟨none, (some 188), .load 1 false (.t 187)⟩,
    ⟨none, (some 189), .idxA 8 1 (.t 11) (.k (.int .i64 2))⟩,
    ⟨none, (some 190), .load 1 false (.t 189)⟩,
    ⟨none, (some 191), .idxA 8 1 (.t 11) (.k (.int .i64 3))⟩,
    ⟨none, (some 192), .load 1 false (.t 191)⟩,
    ⟨none, (some 193), .mov (.t 14)⟩,
    ⟨none, (some 194), .bin .add (.t 192) (.t 193)⟩,
    ⟨none, (some 195), .idxA 8 1 (.t 11) (.k (.int .i64 4))⟩,
    ⟨none, (some 196), .load 1 false (.t 195)⟩,
    ⟨none, (some 197), .idxA 8 1 (.t 11) (.k (.int .i64 5))⟩,
    ⟨none, (some 198), .load 1 false (.t 197)⟩,
    ⟨none, (some 199), .idxA 8 1 (.t 11) (.k (.int .i64 6))⟩,
    ⟨none, (some 200), .load 1 false (.t 199)⟩,
    ⟨none, (some 201), .build (rep 8 (w32 0#32)) [(0, 1, (.t 184)), (1, 1, (.t 186)), (2, 1, (.t 188)), (3, 1, (.t 190)), (4, 1, (.t 194)), (5, 1, (.t 196)), (6, 1, (.t 198)), (7, 1, (.t 200))]⟩,
    ⟨none, none, .store 8 (.t 11) (.t 201)⟩]))))))
  (.region false [⟨none, (some 114), .mov (.t 12)⟩,
    ⟨none, (some 115), .bin .add (.t 114) (.k (.int .i64 1))⟩,
    ⟨none, (some 12), .mov (.t 115)⟩])))
/-- 2:h 4: 5:w 10:k 11:s 12:i -/
def a55S2 (x2 x4 x5 x10 x11 x12 : DV) (h : List AObj) : St := ⟨[.junk, .junk, x2, .junk, x4, x5] ++ js 4 ++ [x10, x11, x12] ++ js 203, h⟩

def a55L3 : ACode :=
  (.seq (.seq (.region false [⟨none, (some 202), .mov (.t 17)⟩,
    ⟨none, (some 203), .bin .lss (.t 202) (.k (.int .i64 8))⟩])
  (.cond (.t 203) .skip
  (.exit 6)))
  (.seq (.block 7 (.region true [⟨none, (some 206), .mov (.t 17)⟩,
    ⟨none, (some 207), .mov (.t 17)⟩,
    ⟨none, (some 208), .idxA 8 1 (.t 2) (.t 207)⟩,
    ⟨none, (some 209), .load 1 false (.t 208)⟩,
    ⟨none, (some 210), .mov (.t 17)⟩,
    ⟨none, (some 211), .idxA 8 1 (.t 11) (.t 210)⟩,
    ⟨none, (some 212), .load 1 false (.t 211)⟩,
    ⟨none, (some 213), .bin .add (.t 209) (.t 212)⟩,
    ⟨none, (some 214), .idxA 8 1 (.t 2) (.t 206)⟩,
    ⟨none, none, .store 1 (.t 214) (.t 213)⟩]))
  (.region false [⟨none, (some 204), .mov (.t 17)⟩,
    ⟨none, (some 205), .bin .add (.t 204) (.k (.int .i64 1))⟩,
    ⟨none, (some 17), .mov (.t 205)⟩])))
/-- 2:h 4: 11:s 17:i -/
def a55S3 (x2 x4 x11 x17 : DV) (h : List AObj) : St := ⟨[.junk, .junk, x2, .junk, x4] ++ js 6 ++ [x11] ++ js 5 ++ [x17] ++ js 198, h⟩

def a55 : AFn where
  code := (.seq (.region false [⟨none, (some 2), .box (.t 0)⟩,
    ⟨none, (some 4), .alloc (rep 8 (w32 0#32))⟩])
  (.seq (.region false [⟨none, (some 5), .alloc (rep 64 (w32 0#32))⟩])
  (.seq (.seq (.region false [⟨none, (some 6), .mov (.k (.int .i64 0))⟩])
  (.block 0 (.loop a55L0)))
  (.seq (.seq (.region false [⟨none, (some 7), .mov (.k (.int .i64 16))⟩])
  (.block 2 (.loop a55L1)))
  (.seq (.region false [⟨none, (some 110), .call (.k (.fn (.func 66) [] [])) []⟩,
    ⟨none, (some 10), .alloc (rep 64 (w32 0#32))⟩,
    ⟨none, none, .store 64 (.t 10) (.t 110)⟩])
  (.seq (.region false [⟨none, (some 111), .load 8 true (.t 2)⟩,
    ⟨none, (some 11), .alloc (rep 8 (w32 0#32))⟩,
    ⟨none, none, .store 8 (.t 11) (.t 111)⟩])
  (.seq (.seq (.region false [⟨none, (some 12), .mov (.k (.int .i64 0))⟩])
  (.block 4 (.loop a55L2)))
  (.seq (.seq (.region false [⟨none, (some 17), .mov (.k (.int .i64 0))⟩])
  (.block 6 (.loop a55L3)))
  (.seq (.region false [⟨none, (some 215), .load 8 true (.t 2)⟩,
    ⟨none, none, .store 8 (.t 4) (.t 215)⟩])
  .ret)))))))))
  ntmps := 216
  res := [.cell 4 8 true]

theorem a55_ok : compileFn P Try.f55 = some a55 := by kernel_rfl

-- 34 admission/admissionref01.Sum
def a34L0 : ACode :=
  (.seq (.seq (.region false [⟨none, (some 15), .mov (.t 3)⟩,
    ⟨none, (some 16), .len (.t 15)⟩,
    ⟨none, (some 17), .bin .rem (.t 16) (.k (.int .i64 64))⟩,
    ⟨none, (some 18), .bin .neq (.t 17) (.k (.int .i64 56))⟩])
  (.cond (.t 18) .skip
  (.exit 0)))
  (.block 1 (.region false [⟨none, (some 19), .mov (.t 3)⟩,
    ⟨none, (some 20), .bsl 1 1 [(w8 0#8)] [(0, 1, (.k (w8 0#8)))]⟩,
    ⟨none, (some 21), .app 1 1 (.t 19) (.t 20)⟩,
    ⟨none, (some 3), .mov (.t 21)⟩])))
/-- 0:b 2: 3:p -/
def a34S0 (x0 x2 x3 : DV) (h : List AObj) : St := ⟨[x0, .junk, x2, x3] ++ js 67, h⟩

def a34L1 : ACode :=
  (.seq (.seq (.region false [⟨none, (some 26), .mov (.t 5)⟩,
    ⟨none, (some 27), .bin .geq (.t 26) (.k (.int .i64 0))⟩])
  (.cond (.t 27) .skip
  (.exit 2)))
  (.seq (.block 3 (.region false [⟨none, (some 30), .mov (.t 3)⟩,
    ⟨none, (some 31), .mov (.t 4)⟩,
    ⟨none, (some 32), .mov (.t 5)⟩,
    ⟨none, (some 33), .bin .mul (.k (.int .i64 8)) (.t 32)⟩,
    ⟨none, (some 34), .conv .u64 (.t 33)⟩,
    ⟨none, (some 35), .bin .shr (.t 31) (.t 34)⟩,
    ⟨none, (some 36), .conv .u8 (.t 35)⟩,
    ⟨none, (some 37), .bsl 1 1 [(w8 0#8)] [(0, 1, (.t 36))]⟩,
    ⟨none, (some 38), .app 1 1 (.t 30) (.t 37)⟩,
    ⟨none, (some 3), .mov (.t 38)⟩]))
  (.region false [⟨none, (some 28), .mov (.t 5)⟩,
    ⟨none, (some 29), .bin .sub (.t 28) (.k (.int .i64 1))⟩,
    ⟨none, (some 5), .mov (.t 29)⟩])))
/-- 2: 3:p 4:n 5:i -/
def a34S1 (x2 x3 x4 x5 : DV) (h : List AObj) : St := ⟨[.junk, .junk, x2, x3, x4, x5] ++ js 65, h⟩

def a34L2 : ACode :=
  (.seq (.seq (.region false [⟨none, (some 40), .mov (.t 7)⟩,
    ⟨none, (some 41), .mov (.t 3)⟩,
    ⟨none, (some 42), .len (.t 41)⟩,
    ⟨none, (some 43), .bin .lss (.t 40) (.t 42)⟩])
  (.cond (.t 43) .skip
  (.exit 4)))
  (.seq (.block 5 (.region true [⟨none, (some 46), .load 8 true (.t 6)⟩,
    ⟨none, (some 47), .mov (.t 3)⟩,
    ⟨none, (some 48), .mov (.t 7)⟩,
    ⟨none, (some 49), .mov (.t 7)⟩,
    ⟨none, (some 50), .bin .add (.t 49) (.k (.int .i64 64))⟩,
    ⟨none, (some 51), .slcS 1 (.t 47) (some (.t 48)) (some (.t 50)) none⟩,
    ⟨none, (some 52), .call (.k (.fn (.func 55) [] [])) [(.t 46), (.t 51)]⟩,
    ⟨none, none, .store 8 (.t 6) (.t 52)⟩]))
  (.region false [⟨none, (some 44), .mov (.t 7)⟩,
    ⟨none, (some 45), .bin .add (.t 44) (.k (.int .i64 64))⟩,
    ⟨none, (some 7), .mov (.t 45)⟩])))
/-- 2: 3:p 6:h 7:i -/
def a34S2 (x2 x3 x6 x7 : DV) (h : List AObj) : St := ⟨[.junk, .junk, x2, x3, .junk, .junk, x6, x7] ++ js 63, h⟩

def a34L3 : ACode :=
  (.seq (.seq (.region false [⟨none, (some 53), .mov (.t 9)⟩,
    ⟨none, (some 54), .bin .lss (.t 53) (.k (.int .i64 32))⟩])
  (.cond (.t 54) .skip
  (.exit 6)))
  (.seq (.block 7 (.region false [⟨none, (some 57), .mov (.t 9)⟩,
    ⟨none, (some 58), .mov (.t 9)⟩,
    ⟨none, (some 59), .bin .quo (.t 58) (.k (.int .i64 4))⟩,
    ⟨none, (some 60), .idxA 8 1 (.t 6) (.t 59)⟩,
    ⟨none, (some 61), .load 1 false (.t 60)⟩,
    ⟨none, (some 62), .mov (.t 9)⟩,
    ⟨none, (some 63), .bin .rem (.t 62) (.k (.int .i64 4))⟩,
    ⟨none, (some 64), .bin .mul (.k (.int .i64 8)) (.t 63)⟩,
    ⟨none, (some 65), .bin .sub (.k (.int .i64 24)) (.t 64)⟩,
    ⟨none, (some 66), .conv .u64 (.t 65)⟩,
    ⟨none, (some 67), .bin .shr (.t 61) (.t 66)⟩,
    ⟨none, (some 68), .conv .u8 (.t 67)⟩,
    ⟨none, (some 69), .idxA 32 1 (.t 8) (.t 57)⟩,
    ⟨none, none, .store 1 (.t 69) (.t 68)⟩]))
  (.region false [⟨none, (some 55), .mov (.t 9)⟩,
    ⟨none, (some 56), .bin .add (.t 55) (.k (.int .i64 1))⟩,
    ⟨none, (some 9), .mov (.t 56)⟩])))
/-- 2: 6:h 8:d 9:i -/
def a34S3 (x2 x6 x8 x9 : DV) (h : List AObj) : St := ⟨[.junk, .junk, x2, .junk, .junk, .junk, x6, .junk, x8, x9] ++ js 61, h⟩

def a34 : AFn where
  code := (.seq (.region false [⟨none, (some 2), .alloc (rep 32 (w8 0#8))⟩])
  (.seq (.region false [⟨none, (some 10), .bsl 1 0 [(w8 0#8)] []⟩,
    ⟨none, (some 11), .mov (.t 0)⟩,
    ⟨none, (some 12), .app 1 1 (.t 10) (.t 11)⟩,
    ⟨none, (some 13), .bsl 1 1 [(w8 0#8)] [(0, 1, (.k (w8 128#8)))]⟩,
    ⟨none, (some 14), .app 1 1 (.t 12) (.t 13)⟩,
    ⟨none, (some 3), .mov (.t 14)⟩])
  (.seq (.block 0 (.loop a34L0))
  (.seq (.region false [⟨none, (some 22), .mov (.t 0)⟩,
    ⟨none, (some 23), .len (.t 22)⟩,
    ⟨none, (some 24), .conv .u64 (.t 23)⟩,
    ⟨none, (some 25), .bin .mul (.t 24) (.k (w64 8#64))⟩,
    ⟨none, (some 4), .mov (.t 25)⟩])
  (.seq (.seq (.region false [⟨none, (some 5), .mov (.k (.int .i64 7))⟩])
  (.block 2 (.loop a34L1)))
  (.seq (.region false [⟨none, (some 39), .build (rep 8 (w32 0#32)) [(0, 1, (.k (w32 1779033703#32))), (1, 1, (.k (w32 3144134277#32))), (2, 1, (.k (w32 1013904242#32))), (3, 1, (.k (w32 2773480762#32))), (4, 1, (.k (w32 1359893119#32))), (5, 1, (.k (w32 2600822924#32))), (6, 1, (.k (w32 528734635#32))), (7, 1, (.k (w32 1541459225#32)))]⟩,
    ⟨none, (some 6), .alloc (rep 8 (w32 0#32))⟩,
    ⟨none, none, .store 8 (.t 6) (.t 39)⟩])
  (.seq (.seq (.region false [⟨none, (some 7), .mov (.k (.int .i64 0))⟩])
  (.block 4 (.loop a34L2)))
  (.seq (.region false [⟨none, (some 8), .alloc (rep 32 (w8 0#8))⟩])
  (.seq (.seq (.region false [⟨none, (some 9), .mov (.k (.int .i64 0))⟩])
  (.block 6 (.loop a34L3)))
  (.seq (.region false [⟨none, (some 70), .load 32 true (.t 8)⟩,
    ⟨none, none, .store 32 (.t 2) (.t 70)⟩])
  .ret))))))))))
  ntmps := 71
  res := [.cell 2 32 true]

theorem a34_ok : compileFn P Try.f34 = some a34 := by kernel_rfl

-- 32 admission/admissionlaw01.awake
def a32 : AFn where
  code := (.seq (.region false [⟨none, (some 0), .mov (.k (.bool false))⟩])
  (.seq (.region false [⟨none, (some 2), .call (.k (.fn (.func 33) [] [])) [(.k .nils)]⟩,
    ⟨none, (some 1), .alloc (rep 32 (w8 0#8))⟩,
    ⟨none, none, .store 32 (.t 1) (.t 2)⟩])
  (.seq (.region false [⟨none, (some 3), .idxA 32 1 (.t 1) (.k (.int .i64 0))⟩,
    ⟨none, (some 4), .load 1 false (.t 3)⟩,
    ⟨none, (some 5), .bin .eql (.t 4) (.k (w8 227#8))⟩,
    ⟨none, (some 6), .mov (.t 5)⟩,
    ⟨(some (6, true)), (some 7), .idxA 32 1 (.t 1) (.k (.int .i64 1))⟩,
    ⟨(some (6, true)), (some 8), .load 1 false (.t 7)⟩,
    ⟨(some (6, true)), (some 9), .bin .eql (.t 8) (.k (w8 176#8))⟩,
    ⟨none, (some 10), .pick (.t 6) (.t 9) (.k (.bool false))⟩,
    ⟨none, (some 11), .mov (.t 10)⟩,
    ⟨(some (11, true)), (some 12), .idxA 32 1 (.t 1) (.k (.int .i64 31))⟩,
    ⟨(some (11, true)), (some 13), .load 1 false (.t 12)⟩,
    ⟨(some (11, true)), (some 14), .bin .eql (.t 13) (.k (w8 85#8))⟩,
    ⟨none, (some 15), .pick (.t 11) (.t 14) (.k (.bool false))⟩,
    ⟨none, (some 0), .mov (.t 15)⟩])
  .ret)))
  ntmps := 16
  res := [.tmp 0]

theorem a32_ok : compileFn P Try.f32 = some a32 := by kernel_rfl

-- 9 admission/admissionlaw01.DigestSums
def a9 : AFn where
  code := (.seq (.region false [⟨none, (some 2), .mov (.k (.bool false))⟩])
  (.seq (.seq (.region false [⟨none, (some 3), .mov (.t 0)⟩,
    ⟨none, (some 4), .len (.t 3)⟩,
    ⟨none, (some 5), .bin .gtr (.t 4) (.k (.int .i64 5000))⟩])
  (.cond (.t 5) (.seq (.region false [⟨none, (some 2), .mov (.k (.bool true))⟩])
  .ret)
  .skip))
  (.seq (.region false [⟨none, (some 6), .call (.k (.fn (.func 32) [] [])) []⟩,
    ⟨none, (some 7), .mov (.t 6)⟩,
    ⟨(some (7, true)), (some 8), .mov (.t 0)⟩,
    ⟨(some (7, true)), (some 9), .call (.k (.fn (.func 33) [] [])) [(.t 8)]⟩,
    ⟨(some (7, true)), (some 10), .mov (.t 0)⟩,
    ⟨(some (7, true)), (some 11), .call (.k (.fn (.func 34) [] [])) [(.t 10)]⟩,
    ⟨(some (7, true)), (some 12), .eqa false [(32, 0)] (.t 9) (.t 11)⟩,
    ⟨none, (some 13), .pick (.t 7) (.t 12) (.k (.bool false))⟩,
    ⟨none, (some 2), .mov (.t 13)⟩])
  .ret)))
  ntmps := 14
  res := [.tmp 2]

theorem a9_ok : compileFn P Try.f9 = some a9 := by kernel_rfl

end Go.Proofs.Ythkcgeokfcbllaa
