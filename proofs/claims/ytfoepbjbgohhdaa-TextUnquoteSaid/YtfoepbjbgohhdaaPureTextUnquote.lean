/- TextUnquote: a + is a blank, hexadecimal digits may be great or small, a % without two of them is nothing: any byte, cut in any place. -/
import Derived.Test.YtfoepbjbgohhdaaEqQ
import Derived.Test.YtfoepbjbgohhdaaQ7
set_option linter.unusedVariables false
set_option linter.unusedSimpArgs false
namespace Go.Proofs.Ytfoepbjbgohhdaa.Pure
open Go.RowKit Go.Proofs.Ytfoepbjbgohhdaa.Q Go.Proofs.Ytfoepbjbgohhdaa.X Go.Proofs.YtfoepbjbgohhdaaW.PrintWords Go.Proofs.YtfoepbjbgohhdaaW.PrintLast Go.Proofs.YtfoepbjbgohhdaaW.PrintMore

def lows : List UInt8 := [48, 49, 50, 51, 52, 53, 54, 55, 56, 57, 97, 98, 99, 100, 101, 102]
def lo (n : Nat) : UInt8 := lows.getD n 0
theorem lows_bt (n : Nat) (h : n < 16) : bt (⟨#[48, 49, 50, 51, 52, 53, 54, 55, 56, 57, 97, 98, 99, 100, 101, 102]⟩ : ByteArray) (n : Int) = ((lo n).toNat : Int) := by
  have := (by decide +kernel : ∀ n : Fin 16, bt (⟨#[48, 49, 50, 51, 52, 53, 54, 55, 56, 57, 97, 98, 99, 100, 101, 102]⟩ : ByteArray) (n.val : Int) = ((lo n.val).toNat : Int))
  exact this ⟨n, h⟩
theorem unq_all (c : UInt8) : unq [43, 37, lo (c.toNat / 16), hx (c.toNat % 16)] = some [32, c] ∧ unq [43, 37, lo (c.toNat / 16)] = none ∧ unq [43, 37] = none ∧ unq [37, 103, lo (c.toNat % 16)] = none := by
  have h : ∀ n : Fin 256, unq [43, 37, lo (n.val / 16), hx (n.val % 16)] = some [32, UInt8.ofNat n.val] ∧ unq [43, 37, lo (n.val / 16)] = none ∧ unq [43, 37] = none ∧ unq [37, 103, lo (n.val % 16)] = none := by decide +kernel
  have := h ⟨c.toNat, c.toNat_lt⟩
  simpa using this
theorem unq_f (l : List UInt8) (h : l.length ≤ 1000000000) : text_Unquote.f ⟨l.toArray⟩ = some (unqR l) := by
  unfold text_Unquote.f
  rw [if_pos (by show l.toArray.size ≤ _; simpa using h)]

theorem TextUnquote : exequaturlaw01_TextUnquote.Pure := by
  intro a n ha hn
  refine Ev.rounds (g := fun k => exequaturlaw01_TextUnquote.f k a n) ?_
  have hmin : IntKind.u8.min = 0 := rfl
  have hmax : IntKind.u8.max = 255 := rfl
  have ha' : 0 ≤ a ∧ a < 256 := by simp [Lit.wf] at ha; omega
  have hn' : 0 ≤ n ∧ n < 256 := by simp [Lit.wf] at hn; omega
  obtain ⟨c, rfl⟩ : ∃ c : UInt8, a = c.toNat := ⟨UInt8.ofNat a.toNat, by simp; omega⟩
  obtain ⟨m, rfl⟩ : ∃ m : Nat, n = m := ⟨n.toNat, by omega⟩
  obtain ⟨u1, u2, u3, u4⟩ := unq_all c
  have hc := c.toNat_lt
  have e1 : Int.tdiv (c.toNat : Int) 16 % 256 = ((c.toNat / 16 : Nat) : Int) := by rw [Int.tdiv_eq_ediv_of_nonneg (by omega)]; omega
  have e2 : Int.tmod (c.toNat : Int) 16 = ((c.toNat % 16 : Nat) : Int) := by rw [Int.tmod_eq_emod_of_nonneg (by omega)]; omega
  have e3 : Int.tmod (m : Int) 2 = ((m % 2 : Nat) : Int) := by rw [Int.tmod_eq_emod_of_nonneg (by omega)]; omega
  have s1 : strOfNums [((lo (c.toNat / 16)).toNat : Int), ((hx (c.toNat % 16)).toNat : Int)] = ⟨[lo (c.toNat / 16), hx (c.toNat % 16)].toArray⟩ := strOf_nb [lo (c.toNat / 16), hx (c.toNat % 16)]
  have s2 : strOfNums [(103 : Int), ((lo (c.toNat % 16)).toNat : Int)] = ⟨[103, lo (c.toNat % 16)].toArray⟩ := strOf_nb [103, lo (c.toNat % 16)]
  have s3 : strOfNums [(32 : Int), (c.toNat : Int)] = ⟨[32, c].toArray⟩ := strOf_nb [32, c]
  unfold exequaturlaw01_TextUnquote.f
  simp only [e1, e2, e3, lows_bt _ (show c.toNat / 16 < 16 by omega), lows_bt _ (show c.toNat % 16 < 16 by omega), hexs_bt _ (show c.toNat % 16 < 16 by omega)]
  refine evPos (by omega) (evPos (by omega) (evPos (by omega) (evPos (by omega) ?_)))
  refine evVal rfl ?_
  rw [s1]
  refine evPos (by show 2 + 2 ≤ 9223372036854775807; omega) ?_
  refine evVal (a := unqR [43, 37, lo (c.toNat / 16), hx (c.toNat % 16)]) (unq_f _ (by show 4 ≤ 1000000000; omega)) ?_
  rw [show ((⟨[lo (c.toNat / 16), hx (c.toNat % 16)].toArray⟩ : ByteArray).size : Int) = 2 from rfl, w64 (x := ((m % 2 : Nat) : Int)) (by omega) (by omega), w64 (by omega) (by omega)]
  refine evPos (by omega) (evPos (by omega) ?_)
  refine evVal (a := (⟨#[]⟩, 2)) ?_ ?_
  · have hm : m % 2 = 0 ∨ m % 2 = 1 := by omega
    rcases hm with hm | hm
    · rw [hm]
      exact (unq_f [43, 37, lo (c.toNat / 16)] (by show 3 ≤ 1000000000; omega)).trans (by rw [unqR_none u2])
    · rw [hm]
      exact (unq_f [43, 37] (by decide)).trans (by rw [unqR_none u3])
  refine evVal rfl ?_
  rw [s2]
  refine evPos (by show 1 + 2 ≤ 9223372036854775807; omega) ?_
  refine evVal (a := unqR [37, 103, lo (c.toNat % 16)]) (unq_f _ (by show 3 ≤ 1000000000; omega)) ?_
  refine Ev.bind answers_is (evPos rfl ?_)
  rw [unqR_some u1, unqR_none u4, s3]
  exact evPos rfl (evPos rfl (evPos rfl (evNow rfl)))

end Go.Proofs.Ytfoepbjbgohhdaa.Pure
