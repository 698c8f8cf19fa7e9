/- LinkResolves: the tied card: whatever the input the law answers true and leaves it alone, the listed tables being as the program's text lays them; conditions: as the row's cells say ('laid') (part 9 of 27). -/
import Derived.Lib.ItoaNum
import Derived.Lib.AtoiAll
import Derived.Lib.Hide
section
set_option linter.unusedVariables false
set_option linter.unusedSimpArgs false
namespace Go.Proofs.YtpoblffgclmmlaaGreatDoor.X

abbrev dd (n : Nat) : List UInt8 := Lib.decDigits n
theorem dd_small {n : Nat} (h : n < 10) : dd n = [UInt8.ofNat (48 + n)] := by unfold dd; rw [Lib.decDigits, dif_pos h]
theorem dd_big {n : Nat} (h : ¬ n < 10) : dd n = dd (n / 10) ++ [UInt8.ofNat (48 + n % 10)] := by unfold dd; rw [Lib.decDigits, dif_neg h]
theorem dd_ne (n : Nat) : dd n ≠ [] := by
  by_cases h : n < 10
  · rw [dd_small h]; simp
  · rw [dd_big h]; simp
def tx (s : ByteArray) : List UInt8 := dd s.size ++ 58 :: s.data.toList
def txs (l : List ByteArray) : List UInt8 := l.flatMap tx
theorem txs_cons (s : ByteArray) (l : List ByteArray) : txs (s :: l) = dd s.size ++ 58 :: (s.data.toList ++ txs l) := by simp [txs, tx, List.append_assoc]
theorem txs_append (a b : List ByteArray) : txs (a ++ b) = txs a ++ txs b := List.flatMap_append
theorem txs_snoc (a : List ByteArray) (s : ByteArray) : txs (a ++ [s]) = txs a ++ tx s := by rw [txs_append]; simp [txs]
theorem txs_long (l : List ByteArray) : 2 * l.length ≤ (txs l).length := by
  induction l with
  | nil => exact Nat.le_refl _
  | cons s l ih =>
    have : 1 ≤ (dd s.size).length := List.length_pos_iff.2 (dd_ne _)
    rw [txs_cons]
    simp only [List.length_append, List.length_cons]
    omega
end Go.Proofs.YtpoblffgclmmlaaGreatDoor.X
end
