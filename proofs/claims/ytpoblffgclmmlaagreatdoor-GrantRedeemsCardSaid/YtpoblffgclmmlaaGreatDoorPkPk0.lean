/- A part of the proof of a card: what some functions of the program come to, each under the conditions that its theorem names. -/
import Derived.Lib.ItoaNum
import Derived.Lib.AtoiAll
import Derived.Lib.Hide
section
set_option linter.unusedVariables false
set_option linter.unusedSimpArgs false
namespace Go.Proofs.YtpoblffgclmmlaaGreatDoor.X

abbrev dd (n : Nat) : List UInt8 := Lib.decDigits n
theorem dd_small {n : Nat} (h : n < 10) : dd n = [UInt8.ofNat (48 + n)] := by unfold dd; rw [Lib.decDigits, dif_pos h]
theorem dd_big {n : Nat} (h : ¬ n < 10) : dd n = dd (n / 10) ++ [UInt8.ofNat (48 + n % 10)] := by unfold dd; rw [Lib.decDigits, dif_neg h]
def IsDig (c : UInt8) : Prop := 48 ≤ c.toNat ∧ c.toNat ≤ 57
theorem ofNat_dig {n : Nat} (h : n < 10) : (UInt8.ofNat (48 + n)).toNat = 48 + n := by simp; omega
theorem dd_dig (n : Nat) : ∀ c ∈ dd n, IsDig c := by
 induction n using Nat.strongRecOn with
 | _ n ih =>
  intro c hc
  by_cases h : n < 10
  ·
   rw [dd_small h, List.mem_singleton] at hc; subst hc; unfold IsDig; rw [ofNat_dig h]; omega
  ·
   rw [dd_big h, List.mem_append, List.mem_singleton] at hc
   rcases hc with hc | hc
   ·
    exact ih (n / 10) (by omega) c hc
   ·
    subst hc; unfold IsDig; rw [ofNat_dig (by omega)]; omega
theorem dd_ne (n : Nat) : dd n ≠ [] := by
 by_cases h : n < 10
 ·
  rw [dd_small h]; simp
 ·
  rw [dd_big h]; simp
/-- The value of digits, behind others. -/
def dval (acc : Nat) (l : List UInt8) : Nat := l.foldl (fun a c => a * 10 + (c.toNat - 48)) acc
theorem dval_append (acc : Nat) (a b : List UInt8) : dval acc (a ++ b) = dval (dval acc a) b := by simp [dval]
theorem dval_dd (n : Nat) : dval 0 (dd n) = n := by
 induction n using Nat.strongRecOn with
 | _ n ih =>
  by_cases h : n < 10
  ·
   rw [dd_small h]; simp only [dval, List.foldl_cons, List.foldl_nil, ofNat_dig h]; omega
  ·
   rw [dd_big h, dval_append, ih (n / 10) (by omega)]
   simp only [dval, List.foldl_cons, List.foldl_nil, ofNat_dig (show n % 10 < 10 by omega)]; omega
theorem dval_le (acc : Nat) (l : List UInt8) : acc ≤ dval acc l := by
 induction l generalizing acc with
 | nil => exact Nat.le_refl _
 | cons c l ih =>
  have := ih (acc * 10 + (c.toNat - 48))
  show acc ≤ dval (acc * 10 + (c.toNat - 48)) l
  omega
theorem parse_ok (l : List UInt8) : ∀ acc : Nat, (∀ c ∈ l, IsDig c) → dval acc l < 18446744073709551616 → Lib.parseUint10 acc l = .ok (dval acc l) := by
 induction l with
 | nil => intro acc _ _; rfl
 | cons c l ih =>
  intro acc hl hv
  have hc := hl c (List.mem_cons_self ..)
  have hv' : dval (acc * 10 + (c.toNat - 48)) l < 18446744073709551616 := hv
  have hle := dval_le (acc * 10 + (c.toNat - 48)) l
  simp only [Lib.parseUint10]
  rw [if_pos (show 48 ≤ c.toNat ∧ c.toNat ≤ 57 from hc), if_neg (by omega), if_neg (by omega), ih _ (fun d hd => hl d (List.mem_cons_of_mem _ hd)) hv']
  rfl
theorem mag_dd (n : Nat) (h : n < 18446744073709551616) : Lib.parseMag (dd n) = .ok n := by
 unfold Lib.parseMag
 rw [if_neg (dd_ne n), parse_ok _ _ (dd_dig n) (by rw [dval_dd]; exact h), dval_dd]
theorem atoi_dd (n : Nat) (h : n < 9223372036854775808) : Lib.atoiAll (dd n) = .ok (n : Int) := by
 cases hd : dd n with
 | nil => exact absurd hd (dd_ne n)
 | cons c r =>
  have hc := dd_dig n c (by rw [hd]; exact List.mem_cons_self ..)
  unfold IsDig at hc
  have hm := mag_dd n (by omega)
  rw [hd] at hm
  simp only [Lib.atoiAll]
  rw [if_neg (by omega), hm]
  simp only [show ¬ c.toNat = 45 by omega, not_false_eq_true, true_and, false_and, if_false]
  rw [if_neg (by omega)]
def tx (s : ByteArray) : List UInt8 := dd s.size ++ 58 :: s.data.toList
def txs (l : List ByteArray) : List UInt8 := l.flatMap tx
theorem txs_nil : txs [] = [] := rfl
theorem txs_cons (s : ByteArray) (l : List ByteArray) : txs (s :: l) = dd s.size ++ 58 :: (s.data.toList ++ txs l) := by simp [txs, tx, List.append_assoc]
theorem txs_append (a b : List ByteArray) : txs (a ++ b) = txs a ++ txs b := List.flatMap_append
theorem txs_snoc (a : List ByteArray) (s : ByteArray) : txs (a ++ [s]) = txs a ++ tx s := by rw [txs_append]; simp [txs]
theorem txs_ne (s : ByteArray) (l : List ByteArray) : txs (s :: l) ≠ [] := by rw [txs_cons]; simp
theorem dd_colon (n : Nat) : (58 : UInt8) ∉ dd n := fun h => by have := dd_dig n _ h; unfold IsDig at this; have e : (58 : UInt8).toNat = 58 := rfl; omega
/-- Ahead of the first colon, and behind it. -/
def headC (l : List UInt8) : List UInt8 := l.takeWhile fun c => c != 58
theorem headC_of {a r : List UInt8} (h : (58 : UInt8) ∉ a) : headC (a ++ 58 :: r) = a := by
 unfold headC
 induction a with
 | nil => rfl
 | cons c a ih =>
  have hc : c ≠ 58 := fun e => h (by rw [e]; exact List.mem_cons_self ..)
  rw [List.cons_append, List.takeWhile_cons, if_pos (by simpa using hc), ih (fun h' => h (List.mem_cons_of_mem _ h'))]
theorem drop_colon (a r : List UInt8) : (a ++ 58 :: r).drop (a.length + 1) = r := by
 rw [← List.drop_drop, List.drop_left' rfl]; rfl
def spl : Nat → List UInt8 → Option (List ByteArray)
 | 0, _ => none
 | _ + 1, [] => some []
 | k + 1, c :: l => (spl k (((c :: l).drop ((headC (c :: l)).length + 1)).drop (dval 0 (headC (c :: l))))).map (⟨(((c :: l).drop ((headC (c :: l)).length + 1)).take (dval 0 (headC (c :: l)))).toArray⟩ :: ·)
theorem spl_txs (l : List ByteArray) : ∀ k, l.length < k → spl k (txs l) = some l := by
 induction l with
 | nil => intro k hk; obtain ⟨k, rfl⟩ : ∃ m, k = m + 1 := ⟨k - 1, by simp at hk; omega⟩; rfl
 | cons s l ih =>
  intro k hk
  rw [List.length_cons] at hk
  obtain ⟨k, rfl⟩ : ∃ m, k = m + 1 := ⟨k - 1, by omega⟩
  have h1 := headC_of (r := s.data.toList ++ txs l) (dd_colon s.size)
  have h2 : (dd s.size ++ 58 :: (s.data.toList ++ txs l)).drop ((dd s.size).length + 1) = s.data.toList ++ txs l := drop_colon _ _
  have hs : s.data.toList.length = s.size := by simp
  rw [txs_cons]
  cases hc : dd s.size ++ 58 :: (s.data.toList ++ txs l) with
  | nil => simp at hc
  | cons c r =>
   rw [hc] at h1 h2
   simp only [spl]
   rw [h1, h2, dval_dd, List.drop_left' hs, List.take_left' hs, ih k (by omega)]
   rfl
theorem txs_long (l : List ByteArray) : 2 * l.length ≤ (txs l).length := by
 induction l with
 | nil => exact Nat.le_refl _
 | cons s l ih =>
  have : 1 ≤ (dd s.size).length := List.length_pos_iff.2 (dd_ne _)
  rw [txs_cons]
  simp only [List.length_append, List.length_cons]
  omega
/-- The texts of one; none: it is none. -/
def unTx (s : ByteArray) : Option (List ByteArray) := (spl (s.size + 1) s.data.toList).bind fun l => if txs l = s.data.toList then some l else none
theorem unTx_iff (s : ByteArray) (l : List ByteArray) : unTx s = some l ↔ txs l = s.data.toList := by
 unfold unTx
 constructor
 ·
  intro h
  obtain ⟨l', h1, h2⟩ := Option.bind_eq_some_iff.1 h
  split at h2
  ·
   rename_i h3; rw [← Option.some.inj h2]; exact h3
  ·
   cases h2
 ·
  intro h
  have hl := txs_long l
  rw [h] at hl
  have hs : s.data.toList.length = s.size := by simp
  rw [← h, spl_txs l _ (by omega)]
  simp
theorem txs_inj {a b : List ByteArray} (h : txs a = txs b) : a = b := by
 have h1 := spl_txs a (a.length + b.length + 1) (by omega)
 rw [h, spl_txs b _ (by omega)] at h1
 exact (Option.some.inj h1).symm
end Go.Proofs.YtpoblffgclmmlaaGreatDoor.X
end
section
set_option linter.unusedVariables false
set_option linter.unusedSimpArgs false
namespace Go.Proofs.YtpoblffgclmmlaaGreatDoor.X

def I64 (v : Int) : Prop := -9223372036854775808 ≤ v ∧ v < 9223372036854775808
end Go.Proofs.YtpoblffgclmmlaaGreatDoor.X
end
