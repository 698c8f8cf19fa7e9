/- Equal: two texts are the same. -/
import Derived.Test.YtfoepbjbgohhdaaDoorQ7
import Derived.Test.YtfoepbjbgohhdaaDoorEv
set_option linter.unusedVariables false
set_option linter.unusedSimpArgs false
namespace Go.Proofs.YtfoepbjbgohhdaaDoor.X
open Go.RowKit Go.Proofs.YtfoepbjbgohhdaaDoorW.PrintWords Go.Proofs.YtfoepbjbgohhdaaDoorW.PrintMore Go.Proofs.YtfoepbjbgohhdaaDoor.Q

theorem bits_xor_nat (k : IntKind) (j : Nat) (hj : j ≤ k.bits) (hk : ∀ n : Int, 0 ≤ n → n < 2 ^ j → k.wrap n = n) (a b : Nat) (ha : a < 2 ^ j) (hb : b < 2 ^ j) :
    Go.bits .xor k a b = ((a ^^^ b : Nat) : Int) := by
  have hp : 2 ^ j ≤ 2 ^ k.bits := Nat.pow_le_pow_right (by decide) hj
  have ha' : a % 2 ^ k.bits = a := Nat.mod_eq_of_lt (Nat.lt_of_lt_of_le ha hp)
  have hb' : b % 2 ^ k.bits = b := Nat.mod_eq_of_lt (Nat.lt_of_lt_of_le hb hp)
  have cast : ∀ n : Nat, n < 2 ^ j → ((n : Nat) : Int) < 2 ^ j := fun n h => by exact_mod_cast h
  simp only [Go.bits, BitVec.ofInt_natCast, BitVec.toNat_xor, BitVec.toNat_ofNat, ha', hb']
  exact hk _ (Int.natCast_nonneg _) (cast _ (Nat.xor_lt_two_pow ha hb))

def cmpL : List UInt8 → List UInt8 → Nat → Nat
  | [], _, m => m
  | x :: xs, [], m => cmpL xs [] (m ||| (x.toNat ^^^ 0))
  | x :: xs, y :: ys, m => cmpL xs ys (m ||| (x.toNat ^^^ y.toNat))
theorem xor_zero_iff (a b : Nat) : a ^^^ b = 0 ↔ a = b := by
  constructor
  · intro h
    have : (a ^^^ b) ^^^ b = 0 ^^^ b := by rw [h]
    rwa [Nat.xor_assoc, Nat.xor_self, Nat.xor_zero, Nat.zero_xor] at this
  · rintro rfl; exact Nat.xor_self _
theorem cmpL_zero : ∀ (xs ys : List UInt8) (m : Nat), xs.length = ys.length → (cmpL xs ys m = 0 ↔ m = 0 ∧ xs = ys)
  | [], [], m, _ => by simp [cmpL]
  | x :: xs, [], m, h => by simp at h
  | [], y :: ys, m, h => by simp at h
  | x :: xs, y :: ys, m, h => by
    rw [cmpL, cmpL_zero xs ys _ (by simpa using h), Nat.or_eq_zero_iff, xor_zero_iff, UInt8.toNat_inj]
    simp only [List.cons.injEq, and_assoc]
theorem cmpL_pos : ∀ (xs ys : List UInt8) (m : Nat), m ≠ 0 → cmpL xs ys m ≠ 0
  | [], ys, m, h => by cases ys <;> simpa [cmpL] using h
  | x :: xs, [], m, h => cmpL_pos xs [] _ (by rw [ne_eq, Nat.or_eq_zero_iff]; exact fun h' => h h'.1)
  | x :: xs, y :: ys, m, h => cmpL_pos xs ys _ (by rw [ne_eq, Nat.or_eq_zero_iff]; exact fun h' => h h'.1)

theorem i64w (n : Int) (h0 : 0 ≤ n) (h1 : n < 2 ^ 62) : IntKind.i64.wrap n = n := by rw [IntKind.wrap_i64]; omega
theorem u8w (n : Int) (h0 : 0 ≤ n) (h1 : n < 2 ^ 8) : IntKind.u8.wrap n = n := by rw [IntKind.wrap_u8]; omega

theorem equal_loop (a b : ByteArray) (ha : a.size ≤ 140737488351232) (hb : b.size ≤ 140737488351232) : ∀ (d i m : Nat), a.size = i + d → m < 2 ^ 62 →
    Ev (fun k => text_Equal.l0 k a b (m : Int) (a.size : Int) (i : Int)) (decide (cmpL (a.data.toList.drop i) (b.data.toList.drop i) m = 0)) := by
  intro d
  induction d with
  | zero =>
    intro i m hi hm
    refine Ev.step (fun k => by rw [text_Equal.l0]) ?_
    refine evNeg (by omega) (evNow ?_)
    rw [List.drop_of_length_le (by rw [data_length]; omega), cmpL, Bool.eq_iff_iff]
    simp
  | succ d ih =>
    intro i m hi hm
    match hl : a.data.toList.drop i with
    | [] => exact absurd (drop_nil_ge a i hl) (by omega)
    | x :: xs =>
      obtain ⟨h1, h2, h3⟩ := bt_get a i hl
      have hx := x.toNat_lt
      refine Ev.step (fun k => by rw [text_Equal.l0]) ?_
      refine evPos (by omega) ?_
      rw [w64 (x := (i : Int) + 1) (by omega) (by omega)]
      match hr : b.data.toList.drop i with
      | [] =>
        have hge := drop_nil_ge b i hr
        refine evNeg (by omega) (evPos (by omega) (evPos (by omega) ?_))
        have e0 : (0 : Int) = ((0 : Nat) : Int) := rfl
        have hx0 : x.toNat ^^^ 0 < 256 := by rw [Nat.xor_zero]; exact hx
        rw [h1, e0, bits_xor_nat .u8 8 (by decide) (fun n a b => u8w n a b) _ _ hx (by decide), w64 (by omega) (by omega),
          (bits_nat .i64 62 (by decide) (fun n a b => i64w n a b) _ _ hm (by omega)).2]
        rw [cmpL, ← h3, show ([] : List UInt8) = b.data.toList.drop (i + 1) from (List.drop_of_length_le (by rw [data_length]; omega)).symm]
        exact ih (i + 1) _ (by omega) (Nat.or_lt_two_pow hm (by omega))
      | y :: ys =>
        obtain ⟨g1, g2, g3⟩ := bt_get b i hr
        have hy := y.toNat_lt
        have hxy : x.toNat ^^^ y.toNat < 256 := Nat.xor_lt_two_pow (n := 8) hx hy
        refine evPos (by omega) (evPos (by omega) (evPos (by omega) ?_))
        rw [h1, g1, bits_xor_nat .u8 8 (by decide) (fun n a b => u8w n a b) _ _ hx hy, w64 (by omega) (by omega),
          (bits_nat .i64 62 (by decide) (fun n a b => i64w n a b) _ _ hm (by omega)).2]
        rw [cmpL, ← h3, ← g3]
        exact ih (i + 1) _ (by omega) (Nat.or_lt_two_pow hm (by omega))

theorem equal_is (a b : ByteArray) (ha : a.size ≤ 140737488351232) (hb : b.size ≤ 140737488351232) : Ev (fun k => text_Equal.f k a b) (decide (a = b)) := by
  have h := equal_loop a b ha hb a.size 0 (a.size ^^^ b.size) (by omega) (Nat.xor_lt_two_pow (n := 62) (by omega) (by omega))
  rw [← bits_xor_nat .i64 62 (by decide) (fun n a b => i64w n a b) a.size b.size (by omega) (by omega)] at h
  refine evEq h ?_
  rw [decide_eq_decide, List.drop_zero, List.drop_zero]
  by_cases hs : a.size = b.size
  · rw [cmpL_zero _ _ _ (by rw [data_length, data_length]; exact hs), hs, Nat.xor_self]
    constructor
    · rintro ⟨-, h⟩
      cases a; cases b; simp at h ⊢; exact Array.ext' (by simpa using h)
    · rintro rfl; exact ⟨rfl, rfl⟩
  · constructor
    · intro h
      exact absurd h (cmpL_pos _ _ _ (by rw [ne_eq, xor_zero_iff]; exact hs))
    · rintro rfl; exact absurd rfl hs

end Go.Proofs.YtfoepbjbgohhdaaDoor.X
