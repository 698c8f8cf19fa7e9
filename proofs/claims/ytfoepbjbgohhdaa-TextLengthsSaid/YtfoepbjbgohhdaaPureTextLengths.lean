/- TextLengths: a letter more, or a sign that is none, behind what Encode wrote: just the lengths that bytes have are read; up to 500 bytes, as the statement says. -/
import Derived.Test.YtfoepbjbgohhdaaAns
import Derived.Test.YtfoepbjbgohhdaaQ3
set_option linter.unusedVariables false
set_option linter.unusedSimpArgs false
namespace Go.Proofs.Ytfoepbjbgohhdaa.Pure
open Go.RowKit Go.Proofs.Ytfoepbjbgohhdaa.Q Go.Proofs.Ytfoepbjbgohhdaa.X Go.Proofs.YtfoepbjbgohhdaaW.PrintWords Go.Proofs.YtfoepbjbgohhdaaW.PrintLast Go.Proofs.YtfoepbjbgohhdaaW.PrintMore

theorem decS_bad (c : UInt8) (hc : Lib.indexByte alph c < 0) : ∀ (l : List UInt8) (v h : Nat), decS (l ++ [c]) v h = none := by
  intro l
  induction l with
  | nil => intro v h; exact decS_no _ _ _ hc
  | cons a l ih =>
    intro v h
    by_cases ha : Lib.indexByte alph a < 0
    · exact decS_no _ _ _ ha
    · obtain ⟨i, hi⟩ : ∃ i : Nat, Lib.indexByte alph a = i := ⟨(Lib.indexByte alph a).toNat, by omega⟩
      rw [List.cons_append]
      by_cases h8 : 8 ≤ h + 6
      · rw [decS_out _ _ _ _ hi h8, ih]; rfl
      · rw [decS_in _ _ _ _ hi h8, ih]
theorem enc_len_mod (o : List UInt8) : (enc o).length % 4 ≠ 1 := by
  have := enc_len o; omega

theorem TextLengths : exequaturlaw01_TextLengths.Pure := by
  intro s hs
  refine Ev.rounds (g := fun k => exequaturlaw01_TextLengths.f k s) ?_
  by_cases h : (s.size : Int) > 500
  · exact evPos h (Ev.bind answers_is (evNow rfl))
  · refine evNeg h ?_
    have hb : s.size ≤ 1000000000 := by omega
    have hl := enc_len s.data.toList
    rw [data_length] at hl
    refine evVal (a := ⟨(enc s.data.toList).toArray⟩) (by unfold text_Encode.f; rw [if_pos hb]) ?_
    have hsz : (⟨(enc s.data.toList).toArray⟩ : ByteArray).size = (enc s.data.toList).length := by show (enc s.data.toList).toArray.size = _; simp
    have hcat : ∀ c : UInt8, ((⟨(enc s.data.toList).toArray⟩ : ByteArray) ++ (⟨#[c]⟩ : ByteArray)).data.toList = enc s.data.toList ++ [c] := fun c => by simp [ByteArray.append_eq]
    have hcs : ∀ c : UInt8, ((⟨(enc s.data.toList).toArray⟩ : ByteArray) ++ (⟨#[c]⟩ : ByteArray)).size ≤ 1000000000 := fun c => by
      rw [← data_length, hcat, List.length_append, List.length_singleton, hl]; omega
    refine evPos (by rw [hsz]; omega) ?_
    refine evVal (a := decR (enc s.data.toList ++ [61])) (by unfold text_Decode.f; rw [if_pos (hcs 61), hcat]) ?_
    refine evVal (a := decR (enc s.data.toList ++ [65])) (by unfold text_Decode.f; rw [if_pos (hcs 65), hcat]) ?_
    refine Ev.bind (unb64_is _ (hcs 65)) ?_
    rw [hcat]
    refine Ev.bind answers_is (evPos rfl ?_)
    rw [decR_none (decS_bad 61 (by decide +kernel) _ 0 0)]
    refine evPos rfl (evPos ?_ ?_)
    · cases hd : decS (enc s.data.toList ++ [65]) 0 0 with
      | none => rw [decR_none hd]; rfl
      | some o =>
        by_cases he : enc o = enc s.data.toList ++ [65]
        · rw [decR_some hd he]; simp [unbR, he]
        · rw [decR_other hd he]; simp [unbR, he]
    · rw [hsz, w64 (by omega) (by omega), Int.tmod_eq_emod_of_nonneg (by omega)]
      by_cases hm : ((enc s.data.toList).length + 1) % 4 = 1
      · refine evPos (by omega) (evNow ?_)
        cases hd : decS (enc s.data.toList ++ [65]) 0 0 with
        | none => rw [decR_none hd]; rfl
        | some o =>
          by_cases he : enc o = enc s.data.toList ++ [65]
          · have := enc_len_mod o
            rw [he, List.length_append] at this
            exact absurd hm this
          · rw [decR_other hd he]; rfl
      · exact evNeg (by omega) (evNow rfl)

end Go.Proofs.Ytfoepbjbgohhdaa.Pure
