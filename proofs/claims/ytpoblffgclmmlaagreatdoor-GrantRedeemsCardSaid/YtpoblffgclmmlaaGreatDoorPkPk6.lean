/- A part of the proof of a card: what some functions of the program come to, each under the conditions that its theorem names. -/
import Derived.Lib.Hide
import Derived.Laws.BitsLemmas
import Derived.Test.YtpoblffgclmmlaaGreatDoorPkPk1
import Derived.Test.YtpoblffgclmmlaaGreatDoorPkPk3
section
set_option linter.unusedVariables false
set_option linter.unusedSimpArgs false
namespace Go.Proofs.YtpoblffgclmmlaaGreatDoor.X
open Go.RowKit Go.Proofs.YtpoblffgclmmlaaGreatDoorW.PrintWords Go.Proofs.YtpoblffgclmmlaaGreatDoorW.PrintMore

def getL (l : List Int) : Int := l.foldl (fun v c => Go.bits .or .u32 (v * 256 % 4294967296) (c % 4294967296)) 0
def rr (x : Int) (n : Nat) : Int := Go.bits .or .u32 (x / 2 ^ n) (x * 2 ^ (32 - n) % 4294967296)
theorem bits_or_comm (k : IntKind) (a b : Int) : Go.bits .or k a b = Go.bits .or k b a := by simp [Go.bits, BitVec.or_comm]
def xr (a b : Int) : Int := Go.bits .xor .u32 a b
def lowW (x : Int) : Int := xr (xr (rr x 7) (rr x 18)) (x / 8)
def highW (x : Int) : Int := xr (xr (rr x 17) (rr x 19)) (x / 1024)
/-- One number more of a block's. -/
def sprNew (xs : List Int) (i : Nat) : Int := (rd xs ((i : Int) - 16) + lowW (rd xs ((i : Int) - 15)) + rd xs ((i : Int) - 7) + highW (rd xs ((i : Int) - 2))) % 4294967296
/-- What the first sixteen are of. -/
def sprGet (b : List UInt8) (i : Nat) : Int := getL (((b.drop (4 * i)).take 4).map fun c => (c.toNat : Int))
def sprStep (b : List UInt8) (xs : List Int) (i : Nat) : List Int := xs.set i (if i < 16 then sprGet b i else sprNew xs i)
def sprTo (b : List UInt8) (k : Nat) : List Int := (List.range k).foldl (sprStep b) (List.replicate 64 0)
def spr (b : List UInt8) : List Int := sprTo b 64
theorem sprTo_succ (b : List UInt8) (k : Nat) : sprTo b (k + 1) = sprStep b (sprTo b k) k := by
 unfold sprTo; rw [List.range_succ, List.foldl_append]; rfl
theorem sprStep_length (b : List UInt8) (xs : List Int) (i : Nat) : (sprStep b xs i).length = xs.length := by simp [sprStep]
theorem sprTo_length (b : List UInt8) (k : Nat) : (sprTo b k).length = 64 := by
 induction k with
 | zero => rfl
 | succ k ih => rw [sprTo_succ, sprStep_length, ih]

theorem sprGet_is (b : ByteArray) (k : Nat) (hb : b.size = 64) : getL ((bytesOf (b.extract (4 * k) 64)).take 4) = sprGet b.data.toList k := by
 unfold sprGet bytesOf
 rw [List.map_take]
 congr 3
 rw [ByteArray.data_extract, Array.toList_extract, List.extract_eq_take_drop]
 rw [List.take_of_length_le (by rw [List.length_drop, Array.length_toList]; show b.size - _ ≤ _; omega)]
theorem sprTo_get (b : List UInt8) (k : Nat) (hk : k < 16) : sprTo b (k + 1) = (sprTo b k).set k (sprGet b k) := by
 rw [sprTo_succ, sprStep, if_pos hk]
theorem sprTo_new (b : List UInt8) (k : Nat) (hk : ¬ k < 16) : sprTo b (k + 1) = (sprTo b k).set k (sprNew (sprTo b k) k) := by
 rw [sprTo_succ, sprStep, if_neg hk]

def roundsL : List Int := [0x428a2f98,0x71374491,0xb5c0fbcf,0xe9b5dba5,0x3956c25b,0x59f111f1,0x923f82a4,0xab1c5ed5,0xd807aa98,0x12835b01,0x243185be,0x550c7dc3,0x72be5d74,0x80deb1fe,0x9bdc06a7,0xc19bf174,0xe49b69c1,0xefbe4786,0x0fc19dc6,0x240ca1cc,0x2de92c6f,0x4a7484aa,0x5cb0a9dc,0x76f988da,0x983e5152,0xa831c66d,0xb00327c8,0xbf597fc7,0xc6e00bf3,0xd5a79147,0x06ca6351,0x14292967,0x27b70a85,0x2e1b2138,0x4d2c6dfc,0x53380d13,0x650a7354,0x766a0abb,0x81c2c92e,0x92722c85,0xa2bfe8a1,0xa81a664b,0xc24b8b70,0xc76c51a3,0xd192e819,0xd6990624,0xf40e3585,0x106aa070,0x19a4c116,0x1e376c08,0x2748774c,0x34b0bcb5,0x391c0cb3,0x4ed8aa4a,0x5b9cca4f,0x682e6ff3,0x748f82ee,0x78a5636f,0x84c87814,0x8cc70208,0x90befffa,0xa4506ceb,0xbef9a3f7,0xc67178f2]
def beginL : List Int := [0x6a09e667,0xbb67ae85,0x3c6ef372,0xa54ff53a,0x510e527f,0x9b05688c,0x1f83d9ab,0x5be0cd19]
def bigE (x : Int) : Int := xr (xr (rr x 6) (rr x 11)) (rr x 25)
def bigA (x : Int) : Int := xr (xr (rr x 2) (rr x 13)) (rr x 22)

def anW (a b : Int) : Int := Go.bits .and .u32 a b
def chW (e f g : Int) : Int := xr (anW e f) (anW (xr 4294967295 e) g)
def mjW (a b c : Int) : Int := xr (xr (anW a b) (anW a c)) (anW b c)
def w32 (x : Int) : Int := IntKind.u32.wrap x
def mixOne (xs s : List Int) (i : Nat) : Int := w32 (w32 (w32 (w32 (rd s 7 + bigE (rd s 4)) + chW (rd s 4) (rd s 5) (rd s 6)) + rd roundsL (i : Int)) + rd xs (i : Int))
def mixTwo (s : List Int) : Int := w32 (bigA (rd s 0) + mjW (rd s 0) (rd s 1) (rd s 2))
def mixStep (xs s : List Int) (i : Nat) : List Int :=
 [w32 (mixOne xs s i + mixTwo s), rd s 0, rd s 1, rd s 2, w32 (rd s 3 + mixOne xs s i), rd s 4, rd s 5, rd s 6]
def mixTo (xs s : List Int) (k : Nat) : List Int := (List.range k).foldl (mixStep xs) s
theorem mixTo_succ (xs s : List Int) (k : Nat) : mixTo xs s (k + 1) = mixStep xs (mixTo xs s k) k := by
 unfold mixTo; rw [List.range_succ, List.foldl_append]; rfl
theorem mixTo_length (xs s : List Int) (h : s.length = 8) (k : Nat) : (mixTo xs s k).length = 8 := by
 cases k with
 | zero => exact h
 | succ k => rw [mixTo_succ]; rfl
def addStep (s h : List Int) (i : Nat) : List Int := h.set i ((rd h (i : Int) + rd s (i : Int)) % 4294967296)
def addTo (s h : List Int) (k : Nat) : List Int := (List.range k).foldl (addStep s) h
theorem addTo_succ (s h : List Int) (k : Nat) : addTo s h (k + 1) = addStep s (addTo s h k) k := by
 unfold addTo; rw [List.range_succ, List.foldl_append]; rfl
theorem addTo_length (s h : List Int) (k : Nat) : (addTo s h k).length = h.length := by
 induction k with
 | zero => rfl
 | succ k ih => rw [addTo_succ, addStep, List.length_set, ih]
/-- What a block makes of a state. -/
def mixed (h : List Int) (b : List UInt8) : List Int := addTo (mixTo (spr b) h 64) h 8
theorem spr_length (b : List UInt8) : (spr b).length = 64 := sprTo_length b 64
theorem mixed_length (h : List Int) (b : List UInt8) : (mixed h b).length = h.length := addTo_length _ _ _

/-- A message filled up. -/
def padFill (n : Nat) : Nat := (183 - n % 64) % 64
def longL (n : Nat) : List UInt8 := [n / 72057594037927936, n / 281474976710656, n / 1099511627776, n / 4294967296, n / 16777216, n / 65536, n / 256, n].map fun x => (x % 256).toUInt8
def padL (b : List UInt8) : List UInt8 := b ++ [128] ++ List.replicate (padFill b.length) 0 ++ longL (8 * b.length)
theorem padL_length (b : List UInt8) : (padL b).length = b.length + 9 + padFill b.length := by simp [padL, longL]; omega
theorem padL_mod (b : List UInt8) : (padL b).length % 64 = 0 := by rw [padL_length]; unfold padFill; omega

def blockOf (P : List UInt8) (i : Nat) : List UInt8 := (P.drop (64 * i)).take 64
def statesTo (P : List UInt8) (k : Nat) : List Int := (List.range k).foldl (fun h i => mixed h (blockOf P i)) beginL
theorem statesTo_succ (P : List UInt8) (k : Nat) : statesTo P (k + 1) = mixed (statesTo P k) (blockOf P k) := by
 unfold statesTo; rw [List.range_succ, List.foldl_append]; rfl
theorem statesTo_length (P : List UInt8) (k : Nat) : (statesTo P k).length = 8 := by
 induction k with
 | zero => rfl
 | succ k ih => rw [statesTo_succ, mixed_length, ih]
def four (v : Int) : List Int := [(v / 16777216) % 256, (v / 65536) % 256, (v / 256) % 256, v % 256]
def fourTo (hs : List Int) (k : Nat) : List Int := (List.range k).flatMap fun (i : Nat) => four (rd hs ((i : Nat) : Int))
theorem fourTo_succ (hs : List Int) (k : Nat) : fourTo hs (k + 1) = fourTo hs k ++ four (rd hs (k : Int)) := by
 unfold fourTo; rw [List.range_succ, List.flatMap_append]; simp
theorem fourTo_length (hs : List Int) (k : Nat) : (fourTo hs k).length = 4 * k := by
 induction k with
 | zero => rfl
 | succ k ih => rw [fourTo_succ, List.length_append, ih]; simp [four]; omega
/-- The sum of a text. -/
def sumS (b : List UInt8) : ByteArray := strOfNums (fourTo (statesTo (padL b) ((padL b).length / 64)) 8)

theorem or_add (v c : Nat) (hv : v < 16777216) (hc : c < 256) : Go.bits .or .u32 ((v : Int) * 256 % 4294967296) ((c : Int) % 4294967296) = (v : Int) * 256 + c := by
 rw [show (v : Int) * 256 % 4294967296 = ((v * 256 : Nat) : Int) by omega, show (c : Int) % 4294967296 = ((c : Nat) : Int) by omega]
 have h1 : v * 256 ||| c = v * 256 + c := by
  have := Nat.two_pow_add_eq_or_of_lt (i := 8) (b := c) (by omega) v
  rw [Nat.mul_comm v 256]
  exact this.symm
 have h2 : BitVec.ofInt 32 ((v * 256 : Nat) : Int) = BitVec.ofNat 32 (v * 256) := BitVec.ofInt_natCast 32 _
 have h3 : BitVec.ofInt 32 ((c : Nat) : Int) = BitVec.ofNat 32 c := BitVec.ofInt_natCast 32 _
 show IntKind.u32.wrap (((BitVec.ofInt 32 ((v * 256 : Nat) : Int) ||| BitVec.ofInt 32 ((c : Nat) : Int)).toNat : Nat) : Int) = _
 rw [h2, h3, BitVec.toNat_or, BitVec.toNat_ofNat, BitVec.toNat_ofNat, Nat.mod_eq_of_lt (by omega), Nat.mod_eq_of_lt (by omega), h1, IntKind.wrap_u32]
 omega
theorem getL_four (a b c d : Nat) (ha : a < 256) (hb : b < 256) (hc : c < 256) (hd : d < 256) : getL [(a : Int), b, c, d] = (a : Int) * 16777216 + b * 65536 + c * 256 + d := by
 unfold getL
 simp only [List.foldl_cons, List.foldl_nil]
 rw [show (0 : Int) * 256 = ((0 : Nat) : Int) * 256 from rfl, or_add 0 a (by omega) ha]
 rw [show ((0 : Nat) : Int) * 256 + (a : Int) = ((a : Nat) : Int) by omega, or_add a b (by omega) hb]
 rw [show (a : Int) * 256 + (b : Int) = ((a * 256 + b : Nat) : Int) by omega, or_add _ c (by omega) hc]
 rw [show ((a * 256 + b : Nat) : Int) * 256 + (c : Int) = (((a * 256 + b) * 256 + c : Nat) : Int) by omega, or_add _ d (by omega) hd]
 omega

theorem rd_nat (P : List UInt8) (q : Nat) (h : q < P.length) : rd (P.map fun c => (c.toNat : Int)) (q : Int) = (P[q].toNat : Int) := by
 simp [rd, List.getD_eq_getElem?_getD, List.getElem?_eq_getElem h]
theorem sprGet_at (P : List UInt8) (k i q : Nat) (hi : i < 16) (hk : 64 * k + 64 ≤ P.length) (hq : q = 64 * k + 4 * i) :
  sprGet (blockOf P k) i = rd (P.map fun c => (c.toNat : Int)) (q : Int) * 16777216 + rd (P.map fun c => (c.toNat : Int)) ((q + 1 : Nat) : Int) * 65536 + rd (P.map fun c => (c.toNat : Int)) ((q + 2 : Nat) : Int) * 256 + rd (P.map fun c => (c.toNat : Int)) ((q + 3 : Nat) : Int) := by
 rw [rd_nat P q (by omega), rd_nat P (q + 1) (by omega), rd_nat P (q + 2) (by omega), rd_nat P (q + 3) (by omega)]
 have h1 : ((blockOf P k).drop (4 * i)).take 4 = [P[q]'(by omega), P[q + 1]'(by omega), P[q + 2]'(by omega), P[q + 3]'(by omega)] := by
  unfold blockOf
  rw [List.drop_take, List.take_take, List.drop_drop, Nat.min_eq_left (by omega), ← hq]
  rw [List.drop_eq_getElem_cons (show q < P.length by omega), List.drop_eq_getElem_cons (show q + 1 < P.length by omega), List.drop_eq_getElem_cons (show q + 1 + 1 < P.length by omega), List.drop_eq_getElem_cons (show q + 1 + 1 + 1 < P.length by omega)]
  rfl
 unfold sprGet
 rw [h1]
 exact getL_four _ _ _ _ (UInt8.toNat_lt _) (UInt8.toNat_lt _) (UInt8.toNat_lt _) (UInt8.toNat_lt _)
theorem rd_nat_lt (P : List UInt8) (q : Nat) (h : q < P.length) : 0 ≤ rd (P.map fun c => (c.toNat : Int)) (q : Int) ∧ rd (P.map fun c => (c.toNat : Int)) (q : Int) < 256 := by
 rw [rd_nat P q h]
 have := UInt8.toNat_lt P[q]
 omega

/-- The numbers of a state one place on, from behind. -/
def shiftTo (ss : List Int) : Nat → List Int
 | 0 => ss
 | t + 1 => (shiftTo ss t).set (7 - t) (rd (shiftTo ss t) ((6 - t : Nat) : Int))
theorem shiftTo_succ (ss : List Int) (t : Nat) : shiftTo ss (t + 1) = (shiftTo ss t).set (7 - t) (rd (shiftTo ss t) ((6 - t : Nat) : Int)) := rfl
theorem shiftTo_length (ss : List Int) (t : Nat) : (shiftTo ss t).length = ss.length := by
 induction t with
 | zero => rfl
 | succ t ih => rw [shiftTo_succ, List.length_set, ih]
theorem shift_is (xs ss : List Int) (h : ss.length = 8) (i : Nat) (x y : Int) (hx : x = mixOne xs ss i) (hy : y = mixTwo ss) :
  ((shiftTo ss 7).set 4 (w32 (rd (shiftTo ss 7) 4 + x))).set 0 (w32 (x + y)) = mixStep xs ss i := by
 unfold mixStep
 rw [← hx, ← hy]
 clear hx hy
 match ss, h with
 | [a0, a1, a2, a3, a4, a5, a6, a7], _ => rfl

end Go.Proofs.YtpoblffgclmmlaaGreatDoor.X
end
