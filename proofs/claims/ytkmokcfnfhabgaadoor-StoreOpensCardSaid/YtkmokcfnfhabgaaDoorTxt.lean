/- Plain lists alone: base64url as a function on lists of bytes, written from the front, and its reading back. No program here. -/
import Derived.Lib.Hide
import Derived.Lib.Bytealg
import Derived.Laws.BitsLemmas
set_option linter.unusedVariables false
namespace Go.Proofs.YtkmokcfnfhabgaaDoor.X

def alph : List UInt8 := [65, 66, 67, 68, 69, 70, 71, 72, 73, 74, 75, 76, 77, 78, 79, 80, 81, 82, 83, 84, 85, 86, 87, 88, 89, 90, 97, 98, 99, 100, 101, 102, 103, 104, 105, 106, 107, 108, 109, 110, 111, 112, 113, 114, 115, 116, 117, 118, 119, 120, 121, 122, 48, 49, 50, 51, 52, 53, 54, 55, 56, 57, 45, 95]
def al (n : Nat) : UInt8 := alph.getD n 0

/-- h bits of value v are held back; what is written from here on. -/
def encS (l : List UInt8) (v h : Nat) : List UInt8 :=
  if 6 ≤ h then al (v / 2 ^ (h - 6) % 64) :: encS l (v % 2 ^ (h - 6)) (h - 6)
  else match l with
  | [] => if h = 0 then [] else [al (v * 2 ^ (6 - h) % 64)]
  | b :: r => encS r (v * 256 + b.toNat) (h + 8)
termination_by (l.length, h)
decreasing_by
  all_goals simp_wf
  all_goals omega

def enc (l : List UInt8) : List UInt8 := encS l 0 0

theorem encS_emit (l : List UInt8) (v h : Nat) (h6 : 6 ≤ h) : encS l v h = al (v / 2 ^ (h - 6) % 64) :: encS l (v % 2 ^ (h - 6)) (h - 6) := by
  rw [encS.eq_def]; simp [h6]
theorem encS_nil (v h : Nat) (h6 : h < 6) : encS [] v h = if h = 0 then [] else [al (v * 2 ^ (6 - h) % 64)] := by
  rw [encS.eq_def]; simp [show ¬ 6 ≤ h from by omega]
theorem encS_cons (b : UInt8) (r : List UInt8) (v h : Nat) (h6 : h < 6) : encS (b :: r) v h = encS r (v * 256 + b.toNat) (h + 8) := by
  rw [encS.eq_def]; simp [show ¬ 6 ≤ h from by omega]

theorem enc_nil : enc [] = [] := by unfold enc; rw [encS_nil _ _ (by decide)]; rfl
theorem enc_one (a : UInt8) : enc [a] = [al (a.toNat / 4 % 64), al (a.toNat % 4 * 16 % 64)] := by
  unfold enc
  rw [encS_cons _ _ _ _ (by decide), encS_emit _ _ _ (by decide), encS_nil _ _ (by decide)]
  simp
theorem enc_two (a b : UInt8) : enc [a, b] = [al (a.toNat / 4 % 64), al ((a.toNat % 4 * 256 + b.toNat) / 16 % 64), al ((a.toNat % 4 * 256 + b.toNat) % 16 * 4 % 64)] := by
  unfold enc
  rw [encS_cons _ _ _ _ (by decide), encS_emit _ _ _ (by decide), encS_cons _ _ _ _ (by decide), encS_emit _ _ _ (by decide), encS_nil _ _ (by decide)]
  simp
theorem enc_three (a b c : UInt8) (r : List UInt8) : enc (a :: b :: c :: r) = al (a.toNat / 4 % 64) :: al ((a.toNat % 4 * 256 + b.toNat) / 16 % 64) :: al (((a.toNat % 4 * 256 + b.toNat) % 16 * 256 + c.toNat) / 64 % 64) :: al (((a.toNat % 4 * 256 + b.toNat) % 16 * 256 + c.toNat) % 64) :: enc r := by
  unfold enc
  rw [encS_cons _ _ _ _ (by decide), encS_emit _ _ _ (by decide), encS_cons _ _ _ _ (by decide), encS_emit _ _ _ (by decide), encS_cons _ _ _ _ (by decide), encS_emit _ _ _ (by decide), encS_emit _ _ _ (by decide)]
  simp [Nat.mod_one]

/-- One more byte behind what is held back: as the code has it, in 32 bits. -/
theorem enc_put (bits b h : Nat) (hh : h < 6) (hb : b < 256) : (bits * 256 % 4294967296 + b) % 2 ^ (h + 8) = bits % 2 ^ h * 256 + b := by
  obtain rfl | rfl | rfl | rfl | rfl | rfl : h = 0 ∨ h = 1 ∨ h = 2 ∨ h = 3 ∨ h = 4 ∨ h = 5 := by omega
  all_goals simp only [Nat.reducePow, Nat.reduceAdd]; omega
theorem enc_digit (bits h : Nat) (h6 : 6 ≤ h) (hh : h < 18) : bits / 2 ^ (h - 6) % 64 = bits % 2 ^ h / 2 ^ (h - 6) % 64 := by
  obtain rfl | rfl | rfl | rfl | rfl | rfl | rfl | rfl | rfl | rfl | rfl | rfl : h = 6 ∨ h = 7 ∨ h = 8 ∨ h = 9 ∨ h = 10 ∨ h = 11 ∨ h = 12 ∨ h = 13 ∨ h = 14 ∨ h = 15 ∨ h = 16 ∨ h = 17 := by omega
  all_goals simp only [Nat.reducePow, Nat.reduceSub]; omega
theorem enc_rest (bits h : Nat) (h6 : 6 ≤ h) : bits % 2 ^ h % 2 ^ (h - 6) = bits % 2 ^ (h - 6) :=
  Nat.mod_mod_of_dvd _ (Nat.pow_dvd_pow 2 (by omega))
theorem enc_last (bits h : Nat) (hh : h < 6) : bits * 2 ^ (6 - h) % 4294967296 % 64 = bits % 2 ^ h * 2 ^ (6 - h) % 64 := by
  obtain rfl | rfl | rfl | rfl | rfl | rfl : h = 0 ∨ h = 1 ∨ h = 2 ∨ h = 3 ∨ h = 4 ∨ h = 5 := by omega
  all_goals simp only [Nat.reducePow, Nat.reduceSub]; omega

theorem u32_or8 (x b : Nat) (hx : x < 4294967296) (hb : b < 256) (h0 : x % 256 = 0) : Go.bits .or .u32 (x : Int) (b : Int) = ((x + b : Nat) : Int) := by
  have := bits_join .u32 32 (by decide) (fun n a b => by rw [IntKind.wrap_u32]; omega) 8 (x : Int) (b : Int) (by omega) (by omega) (by omega) (by omega) (by omega) (by omega)
  rw [this]; omega
theorem u32_and63 (x : Nat) (hx : x < 4294967296) : Go.bits .and .u32 (x : Int) 63 = ((x % 64 : Nat) : Int) := by
  have := bits_mask .u32 32 (by decide) (fun n a b => by rw [IntKind.wrap_u32]; omega) 6 (by decide) (x : Int) (by omega) (by omega)
  rw [show ((2 : Int) ^ 6 - 1) = 63 from rfl] at this
  rw [this]; omega

def alphS : ByteArray := ⟨#[65, 66, 67, 68, 69, 70, 71, 72, 73, 74, 75, 76, 77, 78, 79, 80, 81, 82, 83, 84, 85, 86, 87, 88, 89, 90, 97, 98, 99, 100, 101, 102, 103, 104, 105, 106, 107, 108, 109, 110, 111, 112, 113, 114, 115, 116, 117, 118, 119, 120, 121, 122, 48, 49, 50, 51, 52, 53, 54, 55, 56, 57, 45, 95]⟩
theorem alph_list : alphS.data.toList = alph := rfl
theorem alph_at (n : Nat) (h : n < alphS.size) : (alphS[n]'h).toNat = (al n).toNat := by
  unfold al
  rw [← alph_list, List.getD_eq_getElem?_getD, Array.getElem?_toList, ByteArray.getElem_eq_getElem_data]
  rw [Array.getElem?_eq_getElem (by exact h)]
  rfl

/-! ### Reading back -/
/-- Where a letter stands in the alphabet. -/
def ix (c : UInt8) : Option Nat := if Lib.indexByte alph c < 0 then none else some (Lib.indexByte alph c).toNat
def decS : List UInt8 → Nat → Nat → Option (List UInt8)
  | [], _, _ => some []
  | c :: r, v, h => if Lib.indexByte alph c < 0 then none
    else if 8 ≤ h + 6 then (decS r ((v * 64 + (Lib.indexByte alph c).toNat) % 2 ^ (h - 2)) (h - 2)).map (UInt8.ofNat ((v * 64 + (Lib.indexByte alph c).toNat) / 2 ^ (h - 2) % 256) :: ·)
    else decS r (v * 64 + (Lib.indexByte alph c).toNat) (h + 6)
def dec (l : List UInt8) : Option (List UInt8) := (decS l 0 0).bind fun o => if enc o = l then some o else none

theorem dec_put (bits v h : Nat) (hh : h < 8) (hv : v < 64) : (bits * 64 % 4294967296 + v) % 2 ^ (h + 6) = bits % 2 ^ h * 64 + v := by
  obtain rfl | rfl | rfl | rfl | rfl | rfl | rfl | rfl : h = 0 ∨ h = 1 ∨ h = 2 ∨ h = 3 ∨ h = 4 ∨ h = 5 ∨ h = 6 ∨ h = 7 := by omega
  all_goals simp only [Nat.reducePow, Nat.reduceAdd]; omega
theorem dec_digit (x h : Nat) (h2 : 2 ≤ h) (hh : h < 8) : x / 2 ^ (h - 2) % 256 = x % 2 ^ (h + 6) / 2 ^ (h - 2) % 256 := by
  obtain rfl | rfl | rfl | rfl | rfl | rfl : h = 2 ∨ h = 3 ∨ h = 4 ∨ h = 5 ∨ h = 6 ∨ h = 7 := by omega
  all_goals simp only [Nat.reducePow, Nat.reduceAdd, Nat.reduceSub]; omega
theorem dec_rest (x h : Nat) (h2 : 2 ≤ h) : x % 2 ^ (h + 6) % 2 ^ (h - 2) = x % 2 ^ (h - 2) :=
  Nat.mod_mod_of_dvd _ (Nat.pow_dvd_pow 2 (by omega))
theorem u32_or6 (x b : Nat) (hx : x < 4294967296) (hb : b < 64) (h0 : x % 64 = 0) : Go.bits .or .u32 (x : Int) (b : Int) = ((x + b : Nat) : Int) := by
  have := bits_join .u32 32 (by decide) (fun n a b => by rw [IntKind.wrap_u32]; omega) 6 (x : Int) (b : Int) (by omega) (by omega) (by omega) (by omega) (by omega) (by omega)
  rw [this]; omega
theorem ix_lt (l : List UInt8) (c : UInt8) : Lib.indexByte l c < l.length := by
  induction l with
  | nil => simp [Lib.indexByte]
  | cons b l ih =>
    simp only [Lib.indexByte, List.length_cons]
    split
    · omega
    · split <;> omega
theorem ix64 (c : UInt8) : Lib.indexByte alph c < 64 := ix_lt alph c
theorem decS_no {c : UInt8} (r : List UInt8) (v h : Nat) (hc : Lib.indexByte alph c < 0) : decS (c :: r) v h = none := by rw [decS, if_pos hc]
theorem decS_out {c : UInt8} (r : List UInt8) (v h i : Nat) (hc : Lib.indexByte alph c = i) (h8 : 8 ≤ h + 6) : decS (c :: r) v h = (decS r ((v * 64 + i) % 2 ^ (h - 2)) (h - 2)).map (UInt8.ofNat ((v * 64 + i) / 2 ^ (h - 2) % 256) :: ·) := by
  rw [decS, if_neg (by omega), if_pos h8, hc]; rfl
theorem decS_in {c : UInt8} (r : List UInt8) (v h i : Nat) (hc : Lib.indexByte alph c = i) (h8 : ¬ 8 ≤ h + 6) : decS (c :: r) v h = decS r (v * 64 + i) (h + 6) := by
  rw [decS, if_neg (by omega), if_neg h8, hc]; rfl

/-! ### How bytes stand in a URI -/
def wordB (c : UInt8) : Bool := 97 ≤ c && c ≤ 122 || 65 ≤ c && c ≤ 90 || 48 ≤ c && c ≤ 57
def plainB (c : UInt8) : Bool := wordB c || c == 45 || c == 46 || c == 95 || c == 126
def hexs : List UInt8 := [48, 49, 50, 51, 52, 53, 54, 55, 56, 57, 65, 66, 67, 68, 69, 70]
def hx (n : Nat) : UInt8 := hexs.getD n 0
def quo1 (c : UInt8) : List UInt8 := if plainB c then [c] else [37, hx (c.toNat / 16), hx (c.toNat % 16)]
def quo (l : List UInt8) : List UInt8 := l.flatMap quo1
theorem quo_snoc (l : List UInt8) (c : UInt8) : quo (l ++ [c]) = quo l ++ quo1 c := by simp [quo]
theorem quo1_le (c : UInt8) : (quo1 c).length ≤ 3 := by unfold quo1; split <;> simp
theorem quo_le (l : List UInt8) : (quo l).length ≤ 3 * l.length := by
  induction l with
  | nil => simp [quo]
  | cons c l ih =>
    have := quo1_le c
    simp only [quo, List.flatMap_cons, List.length_append, List.length_cons] at ih ⊢
    omega
def hexS : ByteArray := ⟨#[48, 49, 50, 51, 52, 53, 54, 55, 56, 57, 65, 66, 67, 68, 69, 70]⟩
theorem hexs_at (n : Nat) (h : n < hexS.size) : (hexS[n]'h).toNat = (hx n).toNat := by
  unfold hx
  rw [← show hexS.data.toList = hexs from rfl, List.getD_eq_getElem?_getD, Array.getElem?_toList, ByteArray.getElem_eq_getElem_data]
  rw [Array.getElem?_eq_getElem (by exact h)]
  rfl
theorem u8_and15n (c : UInt8) : Go.bits .and .u8 (c.toNat : Int) 15 = ((c.toNat % 16 : Nat) : Int) := by
  have := c.toNat_lt
  exact (u8_and15 _ (by omega) (by omega)).trans (by omega)

/-! ### What stands in a URI, read -/
def dig (c : UInt8) : Int := Lib.indexByte hexs (if 97 ≤ c ∧ c ≤ 102 then c - 32 else c)
def unq : List UInt8 → Option (List UInt8)
  | [] => some []
  | c :: r => if c = 43 then (unq r).map (32 :: ·) else if c ≠ 37 then (unq r).map (c :: ·) else
    match r with
    | a :: b :: r' => if dig a < 0 ∨ dig b < 0 then none else (unq r').map (UInt8.ofNat (dig a * 16 + dig b).toNat :: ·)
    | _ => none
theorem unq_blank (r : List UInt8) : unq (43 :: r) = (unq r).map (32 :: ·) := by rw [unq.eq_def]; simp
theorem unq_self (c : UInt8) (r : List UInt8) (h1 : c ≠ 43) (h2 : c ≠ 37) : unq (c :: r) = (unq r).map (c :: ·) := by rw [unq.eq_def]; simp [h1, h2]
theorem unq_short (r : List UInt8) (h : r.length < 2) : unq (37 :: r) = none := by
  rw [unq.eq_def]; simp only [show ¬ (37 : UInt8) = 43 from by decide, if_false, ne_eq, not_true_eq_false]
  match r, h with
  | [], _ => rfl
  | [a], _ => rfl
theorem unq_bad (a b : UInt8) (r : List UInt8) (h : dig a < 0 ∨ dig b < 0) : unq (37 :: a :: b :: r) = none := by
  rw [unq.eq_def]; simp only [show ¬ (37 : UInt8) = 43 from by decide, if_false, ne_eq, not_true_eq_false, if_pos h]
theorem unq_hex (a b : UInt8) (r : List UInt8) (ha : 0 ≤ dig a) (hb : 0 ≤ dig b) : unq (37 :: a :: b :: r) = (unq r).map (UInt8.ofNat (dig a * 16 + dig b).toNat :: ·) := by
  rw [unq.eq_def]; simp only [show ¬ (37 : UInt8) = 43 from by decide, if_false, ne_eq, not_true_eq_false, if_neg (show ¬ (dig a < 0 ∨ dig b < 0) by omega)]
theorem dig16 (c : UInt8) : dig c < 16 := ix_lt hexs _
theorem dig_ge (c : UInt8) : -1 ≤ dig c := Lib.indexByte_ge _ _
def unqR (l : List UInt8) : ByteArray × Int := match unq l with
  | some o => (⟨o.toArray⟩, 0)
  | none => (⟨#[]⟩, 2)
theorem unqR_none {l : List UInt8} (h : unq l = none) : unqR l = (⟨#[]⟩, 2) := by simp [unqR, h]
theorem unqR_some {l o : List UInt8} (h : unq l = some o) : unqR l = (⟨o.toArray⟩, 0) := by simp [unqR, h]

end Go.Proofs.YtkmokcfnfhabgaaDoor.X
