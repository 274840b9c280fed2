/-
  SHA-256 on lists of words: what the program and the reference compute.
-/
import Derived.Test.YthkcgeokfcbllaaAmW
set_option linter.unusedSimpArgs false
set_option linter.unusedVariables false
namespace Go.Proofs.Ythkcgeokfcbllaa
open Go Go.Am
abbrev B8 := BitVec 8
abbrev B32 := BitVec 32

def rotl (x : B32) (k : Int) : B32 := x <<< (BitVec.ofInt 64 k &&& 31#64).toNat ||| x >>> (32#64 - (BitVec.ofInt 64 k &&& 31#64)).toNat
def rotr (x : B32) (n : Nat) : B32 := x >>> n ||| x <<< (32 - n)
def word (b : List B8) (i : Nat) : B32 := (b.getD (4*i) 0).setWidth 32 <<< 24 ||| (b.getD (4*i+1) 0).setWidth 32 <<< 16 ||| (b.getD (4*i+2) 0).setWidth 32 <<< 8 ||| (b.getD (4*i+3) 0).setWidth 32
def sch1 (b : List B8) (i : Nat) (w : List B32) : List B32 := w.set i (word b i)
def sch2 (i : Nat) (w : List B32) : List B32 := w.set (i + 16) (w.getD i 0 + (rotr (w.getD (i+1) 0) 7 ^^^ rotr (w.getD (i+1) 0) 18 ^^^ (w.getD (i+1) 0) >>> 3) + w.getD (i+9) 0 + (rotr (w.getD (i+14) 0) 17 ^^^ rotr (w.getD (i+14) 0) 19 ^^^ (w.getD (i+14) 0) >>> 10))
def sched (b : List B8) : List B32 := iter sch2 48 (iter (sch1 b) 16 (rep 64 0#32))
theorem len_sch1 (b : List B8) (n : Nat) (w : List B32) : (iter (sch1 b) n w).length = w.length := iter_inv (R := fun l : List B32 => l.length = w.length) (fun i a h => by simpa [sch1] using h) n w rfl
theorem len_sch2 (n : Nat) (w : List B32) : (iter sch2 n w).length = w.length := iter_inv (R := fun l : List B32 => l.length = w.length) (fun i a h => by simpa [sch2] using h) n w rfl
theorem len_sched (b : List B8) : (sched b).length = 64 := by simp [sched, len_sch1, len_sch2]
set_option maxRecDepth 100000 in
def kk : List B32 := [1116352408#32, 1899447441#32, 3049323471#32, 3921009573#32, 961987163#32, 1508970993#32, 2453635748#32, 2870763221#32, 3624381080#32, 310598401#32, 607225278#32, 1426881987#32, 1925078388#32, 2162078206#32, 2614888103#32, 3248222580#32, 3835390401#32, 4022224774#32, 264347078#32, 604807628#32, 770255983#32, 1249150122#32, 1555081692#32, 1996064986#32, 2554220882#32, 2821834349#32, 2952996808#32, 3210313671#32, 3336571891#32, 3584528711#32, 113926993#32, 338241895#32, 666307205#32, 773529912#32, 1294757372#32, 1396182291#32, 1695183700#32, 1986661051#32, 2177026350#32, 2456956037#32, 2730485921#32, 2820302411#32, 3259730800#32, 3345764771#32, 3516065817#32, 3600352804#32, 4094571909#32, 275423344#32, 430227734#32, 506948616#32, 659060556#32, 883997877#32, 958139571#32, 1322822218#32, 1537002063#32, 1747873779#32, 1955562222#32, 2024104815#32, 2227730452#32, 2361852424#32, 2428436474#32, 2756734187#32, 3204031479#32, 3329325298#32]
set_option maxRecDepth 100000 in
theorem len_kk : kk.length = 64 := by rfl
/-- one of the 64 rounds -/
def rnd (k w : B32) (s : List B32) : List B32 :=
  [s.getD 7 0 + k + w + (s.getD 4 0 &&& s.getD 5 0 ^^^ ~~~(s.getD 4 0) &&& s.getD 6 0) + (rotr (s.getD 4 0) 6 ^^^ rotr (s.getD 4 0) 11 ^^^ rotr (s.getD 4 0) 25) +
     ((s.getD 0 0 &&& s.getD 1 0 ^^^ s.getD 0 0 &&& s.getD 2 0 ^^^ s.getD 1 0 &&& s.getD 2 0) + (rotr (s.getD 0 0) 2 ^^^ rotr (s.getD 0 0) 13 ^^^ rotr (s.getD 0 0) 22)),
   s.getD 0 0, s.getD 1 0, s.getD 2 0,
   s.getD 3 0 + (s.getD 7 0 + k + w + (s.getD 4 0 &&& s.getD 5 0 ^^^ ~~~(s.getD 4 0) &&& s.getD 6 0) + (rotr (s.getD 4 0) 6 ^^^ rotr (s.getD 4 0) 11 ^^^ rotr (s.getD 4 0) 25)),
   s.getD 4 0, s.getD 5 0, s.getD 6 0]
def rnds (w : List B32) (n : Nat) (s : List B32) : List B32 := iter (fun i s => rnd (kk.getD i 0) (w.getD i 0) s) n s
theorem len_rnds (w : List B32) (n : Nat) (s : List B32) (hs : s.length = 8) : (rnds w n s).length = 8 := iter_inv (R := fun l : List B32 => l.length = 8) (fun i a h => by simp [rnd]) n s hs
/-- the state after a block of 64 bytes -/
def add8 (u : List B32) (i : Nat) (s : List B32) : List B32 := s.set i (s.getD i 0 + u.getD i 0)
def comp (s : List B32) (b : List B8) : List B32 := iter (add8 (rnds (sched b) 64 s)) 8 s
theorem len_add8 (u : List B32) (n : Nat) (s : List B32) : (iter (add8 u) n s).length = s.length := iter_inv (R := fun l : List B32 => l.length = s.length) (fun i a h => by simpa [add8] using h) n s rfl
theorem len_comp (s : List B32) (b : List B8) : (comp s b).length = s.length := len_add8 _ _ _
def blk (b : List B8) (i : Nat) (s : List B32) : List B32 := comp s ((b.drop (64 * i)).take 64)
def blks (b : List B8) (n : Nat) (s : List B32) : List B32 := iter (blk b) n s
theorem len_blks (b : List B8) (n : Nat) (s : List B32) : (blks b n s).length = s.length := iter_inv (R := fun l : List B32 => l.length = s.length) (fun i a h => by simpa [blk, len_comp] using h) n s rfl
def h0 : List B32 := [1779033703#32, 3144134277#32, 1013904242#32, 2773480762#32, 1359893119#32, 2600822924#32, 528734635#32, 1541459225#32]
/-- the digest's bytes -/
def outs (s : List B32) (i : Nat) : B8 := ((s.getD (i / 4) 0) >>> (24 - 8 * (i % 4))).setWidth 8
def outB (s : List B32) : List B8 := (List.range 32).map (outs s)
theorem len_outB (s : List B32) : (outB s).length = 32 := by simp [outB]
/-- a length's eight bytes -/
def len8 (n : Nat) : List B8 := (List.range 8).map fun i => ((BitVec.ofNat 64 n * 8#64) >>> (8 * (7 - i))).setWidth 8
/-- the bytes behind the content: up to a multiple of 64 -/
def zeros (n : Nat) : Nat := (119 - n % 64) % 64
def pad (b : List B8) : List B8 := b ++ 128#8 :: (rep (zeros b.length) 0#8 ++ len8 b.length)
theorem len_pad (b : List B8) : (pad b).length = b.length + 1 + zeros b.length + 8 := by simp [pad, len8]; omega
theorem pad_mod (b : List B8) : (pad b).length % 64 = 0 := by rw [len_pad, zeros]; omega
def sum (b : List B8) : List B8 := outB (blks (pad b) ((pad b).length / 64) h0)
theorem len_sum (b : List B8) : (sum b).length = 32 := len_outB _
attribute [simp] len_kk len_sched len_outB len_sum len_blks len_comp len_sch1 len_sch2 len_add8
end Go.Proofs.Ythkcgeokfcbllaa
