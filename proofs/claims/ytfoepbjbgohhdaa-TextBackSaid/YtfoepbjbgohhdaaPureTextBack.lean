/- TextBack: any bytes as base64url are what the reference writes, are read back, and have so many letters; up to 3,000 bytes, as the statement says. -/
import Derived.Test.YtfoepbjbgohhdaaAns
set_option linter.unusedVariables false
set_option linter.unusedSimpArgs false
namespace Go.Proofs.Ytfoepbjbgohhdaa.Pure
open Go.RowKit Go.Proofs.Ytfoepbjbgohhdaa.Q Go.Proofs.Ytfoepbjbgohhdaa.X Go.Proofs.YtfoepbjbgohhdaaW.PrintWords Go.Proofs.YtfoepbjbgohhdaaW.PrintLast Go.Proofs.YtfoepbjbgohhdaaW.PrintMore

theorem TextBack : exequaturlaw01_TextBack.Pure := by
  intro s hs
  refine Ev.rounds (g := fun k => exequaturlaw01_TextBack.f k s) ?_
  by_cases h : (s.size : Int) > 3000
  · exact evPos h (Ev.bind answers_is (evNow rfl))
  · refine evNeg h ?_
    have hb : s.size ≤ 1000000000 := by omega
    have hl := enc_len s.data.toList
    rw [data_length] at hl
    refine evVal (a := ⟨(enc s.data.toList).toArray⟩) (by unfold text_Encode.f; rw [if_pos hb]) ?_
    refine evVal (a := (⟨s.data.toList.toArray⟩, 0)) ?_ ?_
    · unfold text_Decode.f
      rw [if_pos (by show (enc s.data.toList).toArray.size ≤ _; simp; omega), show (⟨(enc s.data.toList).toArray⟩ : ByteArray).data.toList = enc s.data.toList from rfl, decR_enc]
    refine Ev.bind answers_is (evPos rfl ?_)
    refine Ev.bind (b64_is s hb) ?_
    refine evPos rfl (evPos rfl (evPos ?_ (evNow ?_)))
    · rw [ByteArray.toList_eq]
    · have e1 : (⟨(enc s.data.toList).toArray⟩ : ByteArray).size = (4 * s.size + 2) / 3 := by show (enc s.data.toList).toArray.size = _; simp [hl]
      rw [e1, w64 (x := 4 * (s.size : Int)) (by omega) (by omega), w64 (x := 4 * (s.size : Int) + 2) (by omega) (by omega), Int.tdiv_eq_ediv_of_nonneg (by omega), w64 (by omega) (by omega)]
      simp only [beq_iff_eq]; omega

end Go.Proofs.Ytfoepbjbgohhdaa.Pure
