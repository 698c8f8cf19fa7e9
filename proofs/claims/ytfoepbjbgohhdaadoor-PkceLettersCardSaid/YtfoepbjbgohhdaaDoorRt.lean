/- base64url: what is read of what was written is what it was; how long it is. Plain lists alone. -/
import Derived.Test.YtfoepbjbgohhdaaDoorTxt
set_option linter.unusedVariables false
set_option linter.unusedSimpArgs false
namespace Go.Proofs.YtfoepbjbgohhdaaDoor.X

theorem ix_al (n : Nat) (h : n < 64) : Lib.indexByte alph (al n) = n := by
  have := (by decide +kernel : ∀ n : Fin 64, Lib.indexByte alph (al n.val) = (n.val : Int))
  exact this ⟨n, h⟩
theorem dec_in (n : Nat) (hn : n < 64) (r : List UInt8) (v h : Nat) (h8 : h < 2) : decS (al n :: r) v h = decS r (v * 64 + n) (h + 6) := decS_in _ _ _ _ (ix_al n hn) (by omega)
theorem dec_out (n : Nat) (hn : n < 64) (r : List UInt8) (v h : Nat) (h8 : 2 ≤ h) : decS (al n :: r) v h = (decS r ((v * 64 + n) % 2 ^ (h - 2)) (h - 2)).map (UInt8.ofNat ((v * 64 + n) / 2 ^ (h - 2) % 256) :: ·) := decS_out _ _ _ _ (ix_al n hn) (by omega)
theorem ofNat_of {a : UInt8} {n : Nat} (h : n = a.toNat) : UInt8.ofNat n = a := by subst h; simp

theorem dec_enc (l : List UInt8) : decS (enc l) 0 0 = some l := by
  generalize hn : l.length = n
  induction n using Nat.strongRecOn generalizing l with
  | ind n ih =>
    match l, hn with
    | [], _ => rw [enc_nil]; rfl
    | [a], _ =>
      have ha := a.toNat_lt
      rw [enc_one, dec_in _ (by omega) _ _ _ (by omega), dec_out _ (by omega) _ _ _ (by omega)]
      simp only [decS, Option.map_some]
      congr 2
      exact ofNat_of (by simp only [Nat.reduceSub, Nat.reduceAdd, Nat.reducePow]; omega)
    | [a, b], _ =>
      have ha := a.toNat_lt
      have hb := b.toNat_lt
      rw [enc_two, dec_in _ (by omega) _ _ _ (by omega), dec_out _ (by omega) _ _ _ (by omega), dec_out _ (by omega) _ _ _ (by omega)]
      simp only [decS, Option.map_some]
      congr 2
      · exact ofNat_of (by simp only [Nat.reduceSub, Nat.reduceAdd, Nat.reducePow]; omega)
      · congr 1
        exact ofNat_of (by simp only [Nat.reduceSub, Nat.reduceAdd, Nat.reducePow]; omega)
    | a :: b :: c :: r, hn =>
      have ha := a.toNat_lt
      have hb := b.toNat_lt
      have hc := c.toNat_lt
      rw [enc_three, dec_in _ (by omega) _ _ _ (by omega), dec_out _ (by omega) _ _ _ (by omega), dec_out _ (by omega) _ _ _ (by omega), dec_out _ (by omega) _ _ _ (by omega)]
      rw [show ∀ x : Nat, x % 2 ^ (0 + 6 - 2 - 2 - 2) = 0 from fun x => by simp only [Nat.reduceSub, Nat.reduceAdd, Nat.reducePow]; omega]
      rw [show 0 + 6 - 2 - 2 - 2 = 0 from rfl, ih r.length (by simp at hn; omega) r rfl]
      simp only [Option.map_some]
      congr 2
      · exact ofNat_of (by simp only [Nat.reduceSub, Nat.reduceAdd, Nat.reducePow]; omega)
      · congr 1
        · exact ofNat_of (by simp only [Nat.reduceSub, Nat.reduceAdd, Nat.reducePow]; omega)
        · congr 1
          exact ofNat_of (by simp only [Nat.reduceSub, Nat.reduceAdd, Nat.reducePow]; omega)

theorem enc_len (l : List UInt8) : (enc l).length = (4 * l.length + 2) / 3 := by
  generalize hn : l.length = n
  induction n using Nat.strongRecOn generalizing l with
  | ind n ih =>
    match l, hn with
    | [], hn => rw [enc_nil]; subst hn; rfl
    | [a], hn => rw [enc_one]; subst hn; simp
    | [a, b], hn => rw [enc_two]; subst hn; simp
    | a :: b :: c :: r, hn =>
      rw [enc_three]
      simp only [List.length_cons] at hn ⊢
      rw [ih r.length (by omega) r rfl]; omega

theorem dec_of_enc (l : List UInt8) : dec (enc l) = some l := by simp [dec, dec_enc]
theorem dec_some {l o : List UInt8} (h : dec l = some o) : enc o = l := by
  unfold dec at h
  cases hd : decS l 0 0 with
  | none => simp [hd] at h
  | some x =>
    rw [hd] at h
    simp only [Option.bind_some] at h
    split at h
    · injection h with h; subst h; assumption
    · cases h

end Go.Proofs.YtfoepbjbgohhdaaDoor.X
