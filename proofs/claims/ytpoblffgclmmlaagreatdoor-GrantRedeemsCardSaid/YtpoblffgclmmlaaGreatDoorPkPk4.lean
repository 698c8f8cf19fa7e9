/- A part of the proof of a card: what some functions of the program come to, each under the conditions that its theorem names. -/
import Derived.Lib.Hide
import Derived.Lib.Bytealg
import Derived.Laws.BitsLemmas
section
set_option linter.unusedVariables false
namespace Go.Proofs.YtpoblffgclmmlaaGreatDoor.X

def alph : List UInt8 := [65, 66, 67, 68, 69, 70, 71, 72, 73, 74, 75, 76, 77, 78, 79, 80, 81, 82, 83, 84, 85, 86, 87, 88, 89, 90, 97, 98, 99, 100, 101, 102, 103, 104, 105, 106, 107, 108, 109, 110, 111, 112, 113, 114, 115, 116, 117, 118, 119, 120, 121, 122, 48, 49, 50, 51, 52, 53, 54, 55, 56, 57, 45, 95]
def al (n : Nat) : UInt8 := alph.getD n 0

/-- h bits of value v are held back; what is written from here on. -/
def encS (l : List UInt8) (v h : Nat) : List UInt8 :=
 if 6 ≤ h then al (v / 2 ^ (h - 6) % 64) :: encS l (v % 2 ^ (h - 6)) (h - 6)
 else match l with
 | [] => if h = 0 then [] else [al (v * 2 ^ (6 - h) % 64)]
 | b :: r => encS r (v * 256 + b.toNat) (h + 8)
termination_by (l.length, h)
decreasing_by
 all_goals simp_wf
 all_goals omega

def enc (l : List UInt8) : List UInt8 := encS l 0 0

theorem encS_emit (l : List UInt8) (v h : Nat) (h6 : 6 ≤ h) : encS l v h = al (v / 2 ^ (h - 6) % 64) :: encS l (v % 2 ^ (h - 6)) (h - 6) := by
 rw [encS.eq_def]; simp [h6]
theorem encS_nil (v h : Nat) (h6 : h < 6) : encS [] v h = if h = 0 then [] else [al (v * 2 ^ (6 - h) % 64)] := by
 rw [encS.eq_def]; simp [show ¬ 6 ≤ h from by omega]
theorem encS_cons (b : UInt8) (r : List UInt8) (v h : Nat) (h6 : h < 6) : encS (b :: r) v h = encS r (v * 256 + b.toNat) (h + 8) := by
 rw [encS.eq_def]; simp [show ¬ 6 ≤ h from by omega]

theorem enc_nil : enc [] = [] := by unfold enc; rw [encS_nil _ _ (by decide)]; rfl
theorem enc_one (a : UInt8) : enc [a] = [al (a.toNat / 4 % 64), al (a.toNat % 4 * 16 % 64)] := by
 unfold enc
 rw [encS_cons _ _ _ _ (by decide), encS_emit _ _ _ (by decide), encS_nil _ _ (by decide)]
 simp
theorem enc_two (a b : UInt8) : enc [a, b] = [al (a.toNat / 4 % 64), al ((a.toNat % 4 * 256 + b.toNat) / 16 % 64), al ((a.toNat % 4 * 256 + b.toNat) % 16 * 4 % 64)] := by
 unfold enc
 rw [encS_cons _ _ _ _ (by decide), encS_emit _ _ _ (by decide), encS_cons _ _ _ _ (by decide), encS_emit _ _ _ (by decide), encS_nil _ _ (by decide)]
 simp
theorem enc_three (a b c : UInt8) (r : List UInt8) : enc (a :: b :: c :: r) = al (a.toNat / 4 % 64) :: al ((a.toNat % 4 * 256 + b.toNat) / 16 % 64) :: al (((a.toNat % 4 * 256 + b.toNat) % 16 * 256 + c.toNat) / 64 % 64) :: al (((a.toNat % 4 * 256 + b.toNat) % 16 * 256 + c.toNat) % 64) :: enc r := by
 unfold enc
 rw [encS_cons _ _ _ _ (by decide), encS_emit _ _ _ (by decide), encS_cons _ _ _ _ (by decide), encS_emit _ _ _ (by decide), encS_cons _ _ _ _ (by decide), encS_emit _ _ _ (by decide), encS_emit _ _ _ (by decide)]
 simp [Nat.mod_one]

/-- One more byte behind what is held back: as the code has it, in 32 bits. -/
theorem enc_put (bits b h : Nat) (hh : h < 6) (hb : b < 256) : (bits * 256 % 4294967296 + b) % 2 ^ (h + 8) = bits % 2 ^ h * 256 + b := by
 obtain rfl | rfl | rfl | rfl | rfl | rfl : h = 0 ∨ h = 1 ∨ h = 2 ∨ h = 3 ∨ h = 4 ∨ h = 5 := by omega
 all_goals simp only [Nat.reducePow, Nat.reduceAdd]; omega
theorem enc_digit (bits h : Nat) (h6 : 6 ≤ h) (hh : h < 18) : bits / 2 ^ (h - 6) % 64 = bits % 2 ^ h / 2 ^ (h - 6) % 64 := by
 obtain rfl | rfl | rfl | rfl | rfl | rfl | rfl | rfl | rfl | rfl | rfl | rfl : h = 6 ∨ h = 7 ∨ h = 8 ∨ h = 9 ∨ h = 10 ∨ h = 11 ∨ h = 12 ∨ h = 13 ∨ h = 14 ∨ h = 15 ∨ h = 16 ∨ h = 17 := by omega
 all_goals simp only [Nat.reducePow, Nat.reduceSub]; omega
theorem enc_rest (bits h : Nat) (h6 : 6 ≤ h) : bits % 2 ^ h % 2 ^ (h - 6) = bits % 2 ^ (h - 6) :=
 Nat.mod_mod_of_dvd _ (Nat.pow_dvd_pow 2 (by omega))
theorem enc_last (bits h : Nat) (hh : h < 6) : bits * 2 ^ (6 - h) % 4294967296 % 64 = bits % 2 ^ h * 2 ^ (6 - h) % 64 := by
 obtain rfl | rfl | rfl | rfl | rfl | rfl : h = 0 ∨ h = 1 ∨ h = 2 ∨ h = 3 ∨ h = 4 ∨ h = 5 := by omega
 all_goals simp only [Nat.reducePow, Nat.reduceSub]; omega

theorem u32_or8 (x b : Nat) (hx : x < 4294967296) (hb : b < 256) (h0 : x % 256 = 0) : Go.bits .or .u32 (x : Int) (b : Int) = ((x + b : Nat) : Int) := by
 have := bits_join .u32 32 (by decide) (fun n a b => by rw [IntKind.wrap_u32]; omega) 8 (x : Int) (b : Int) (by omega) (by omega) (by omega) (by omega) (by omega) (by omega)
 rw [this]; omega
theorem u32_and63 (x : Nat) (hx : x < 4294967296) : Go.bits .and .u32 (x : Int) 63 = ((x % 64 : Nat) : Int) := by
 have := bits_mask .u32 32 (by decide) (fun n a b => by rw [IntKind.wrap_u32]; omega) 6 (by decide) (x : Int) (by omega) (by omega)
 rw [show ((2 : Int) ^ 6 - 1) = 63 from rfl] at this
 rw [this]; omega

def alphS : ByteArray := ⟨#[65, 66, 67, 68, 69, 70, 71, 72, 73, 74, 75, 76, 77, 78, 79, 80, 81, 82, 83, 84, 85, 86, 87, 88, 89, 90, 97, 98, 99, 100, 101, 102, 103, 104, 105, 106, 107, 108, 109, 110, 111, 112, 113, 114, 115, 116, 117, 118, 119, 120, 121, 122, 48, 49, 50, 51, 52, 53, 54, 55, 56, 57, 45, 95]⟩
theorem alph_list : alphS.data.toList = alph := rfl
theorem alph_at (n : Nat) (h : n < alphS.size) : (alphS[n]'h).toNat = (al n).toNat := by
 unfold al
 rw [← alph_list, List.getD_eq_getElem?_getD, Array.getElem?_toList, ByteArray.getElem_eq_getElem_data]
 rw [Array.getElem?_eq_getElem (by exact h)]
 rfl

def wordB (c : UInt8) : Bool := 97 ≤ c && c ≤ 122 || 65 ≤ c && c ≤ 90 || 48 ≤ c && c ≤ 57
def plainB (c : UInt8) : Bool := wordB c || c == 45 || c == 46 || c == 95 || c == 126
def hexs : List UInt8 := [48, 49, 50, 51, 52, 53, 54, 55, 56, 57, 65, 66, 67, 68, 69, 70]
def hx (n : Nat) : UInt8 := hexs.getD n 0
end Go.Proofs.YtpoblffgclmmlaaGreatDoor.X
end
section
set_option linter.unusedVariables false
set_option linter.unusedSimpArgs false
namespace Go.Proofs.YtpoblffgclmmlaaGreatDoor.X

theorem enc_len (l : List UInt8) : (enc l).length = (4 * l.length + 2) / 3 := by
 generalize hn : l.length = n
 induction n using Nat.strongRecOn generalizing l with
 | ind n ih =>
  match l, hn with
  | [], hn => rw [enc_nil]; subst hn; rfl
  | [a], hn => rw [enc_one]; subst hn; simp
  | [a, b], hn => rw [enc_two]; subst hn; simp
  | a :: b :: c :: r, hn =>
   rw [enc_three]
   simp only [List.length_cons] at hn ⊢
   rw [ih r.length (by omega) r rfl]; omega

end Go.Proofs.YtpoblffgclmmlaaGreatDoor.X
end
