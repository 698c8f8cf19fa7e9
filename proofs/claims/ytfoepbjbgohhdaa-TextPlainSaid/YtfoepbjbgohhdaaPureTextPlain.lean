/- TextPlain: a text of one byte, so many times: it stays as it is, or each byte takes three; and it is what the reference quotes. -/
import Derived.Test.YtfoepbjbgohhdaaEqQ
set_option linter.unusedVariables false
set_option linter.unusedSimpArgs false
namespace Go.Proofs.Ytfoepbjbgohhdaa.Pure
open Go.RowKit Go.Proofs.Ytfoepbjbgohhdaa.Q Go.Proofs.Ytfoepbjbgohhdaa.X Go.Proofs.YtfoepbjbgohhdaaW.PrintWords Go.Proofs.YtfoepbjbgohhdaaW.PrintLast Go.Proofs.YtfoepbjbgohhdaaW.PrintMore

theorem quo_rep (c : UInt8) (n : Nat) : quo (List.replicate n c) = if plainB c then List.replicate n c else quo (List.replicate n c) := by
  split
  · rename_i h
    induction n with
    | zero => rfl
    | succ n ih => rw [List.replicate_succ]; show quo1 c ++ quo (List.replicate n c) = _; rw [ih, quo1, if_pos h]; rfl
  · rfl
theorem quo_rep3 (c : UInt8) (n : Nat) (h : plainB c = false) : (quo (List.replicate n c)).length = 3 * n := by
  induction n with
  | zero => rfl
  | succ n ih =>
    rw [List.replicate_succ]; show (quo1 c ++ quo (List.replicate n c)).length = _
    rw [List.length_append, ih, quo1, if_neg (by rw [h]; decide)]; simp; omega

theorem plain_loop (c : UInt8) (n : Nat) (hn : n < 20) : ∀ (d i : Nat), n = i + d →
    Ev (fun k => exequaturlaw01_TextPlain.l0 k (c.toNat : Int) (n : Int) ⟨(List.replicate i c).toArray⟩ (i : Int)) true := by
  intro d
  induction d with
  | zero =>
    intro i hi
    obtain rfl : n = i := by omega
    refine Ev.step (fun k => by rw [exequaturlaw01_TextPlain.l0]) ?_
    refine evNeg (by omega) ?_
    have hsz : (⟨(List.replicate n c).toArray⟩ : ByteArray).size = n := by show (List.replicate n c).toArray.size = _; simp
    have hd : (⟨(List.replicate n c).toArray⟩ : ByteArray).data.toList = List.replicate n c := rfl
    refine evVal (a := ⟨(quo (List.replicate n c)).toArray⟩) (by unfold text_Quote.f; rw [if_pos (by rw [hsz]; omega)]) ?_
    refine Ev.bind answers_is (evPos rfl ?_)
    have hr := rquote_is ⟨(List.replicate n c).toArray⟩ (by rw [hsz]; omega)
    rw [hd] at hr
    cases hp : plainB c with
    | true =>
      refine evPos ?_ (Ev.bind hr (evNow (by simp)))
      have := quo_rep c n
      rw [if_pos hp] at this
      rw [ByteArray.toList_eq, ByteArray.toList_eq]; exact this
    | false =>
      by_cases he : (⟨(quo (List.replicate n c)).toArray⟩ : ByteArray).toList = (⟨(List.replicate n c).toArray⟩ : ByteArray).toList
      · exact evPos he (Ev.bind hr (evNow (by simp)))
      · refine evNeg he (evPos ?_ (Ev.bind hr (evNow (by simp))))
        have := quo_rep3 c n hp
        rw [w64 (by omega) (by omega)]
        show (((quo (List.replicate n c)).toArray.size : Nat) : Int) = _
        simp only [List.size_toArray, this]; omega
  | succ d ih =>
    intro i hi
    refine Ev.step (fun k => by rw [exequaturlaw01_TextPlain.l0]) ?_
    refine evPos (by omega) (evVal rfl (evPos ?_ ?_))
    · rw [strOfNums_size]; show (List.replicate i c).toArray.size + 1 ≤ _; simp; omega
    · rw [w64 (by omega) (by omega)]
      have := ih (i + 1) (by omega)
      have e : (⟨(List.replicate i c).toArray⟩ : ByteArray) ++ strOfNums [(c.toNat : Int)] = ⟨(List.replicate (i + 1) c).toArray⟩ := by
        rw [show strOfNums [(c.toNat : Int)] = ⟨[c].toArray⟩ from strOf_nb [c], List.replicate_succ']
        apply ByteArray.ext
        rw [ByteArray.data_append]
        exact List.append_toArray ..
      rw [e]; exact this

theorem TextPlain : exequaturlaw01_TextPlain.Pure := by
  intro a n ha hn
  refine Ev.rounds (g := fun k => exequaturlaw01_TextPlain.f k a n) ?_
  have hmin : IntKind.u8.min = 0 := rfl
  have hmax : IntKind.u8.max = 255 := rfl
  have ha' : 0 ≤ a ∧ a < 256 := by simp [Lit.wf] at ha; omega
  have hn' : 0 ≤ n ∧ n < 256 := by simp [Lit.wf] at hn; omega
  obtain ⟨c, rfl⟩ : ∃ c : UInt8, a = c.toNat := ⟨UInt8.ofNat a.toNat, by simp; omega⟩
  obtain ⟨m, rfl⟩ : ∃ m : Nat, n = m := ⟨n.toNat, by omega⟩
  have h := plain_loop c (m % 20) (by omega) (m % 20) 0 (by omega)
  show Ev (fun k => exequaturlaw01_TextPlain.l0 k (c.toNat : Int) (wrap64 (Int.tmod (m : Int) 20)) ⟨#[]⟩ 0) true
  rw [Int.tmod_eq_emod_of_nonneg (by omega), w64 (by omega) (by omega)]
  exact h

end Go.Proofs.Ytfoepbjbgohhdaa.Pure
