/- TextReads: what any text is of bytes, or that it is of none, as the reference has it; up to 1,000 bytes, as the statement says. -/
import Derived.Test.YtfoepbjbgohhdaaAns
import Derived.Test.YtfoepbjbgohhdaaQ3
set_option linter.unusedVariables false
set_option linter.unusedSimpArgs false
namespace Go.Proofs.Ytfoepbjbgohhdaa.Pure
open Go.RowKit Go.Proofs.Ytfoepbjbgohhdaa.Q Go.Proofs.Ytfoepbjbgohhdaa.X Go.Proofs.YtfoepbjbgohhdaaW.PrintWords Go.Proofs.YtfoepbjbgohhdaaW.PrintLast Go.Proofs.YtfoepbjbgohhdaaW.PrintMore

theorem TextReads : exequaturlaw01_TextReads.Pure := by
  intro s hs
  refine Ev.rounds (g := fun k => exequaturlaw01_TextReads.f k s) ?_
  by_cases h : (s.size : Int) > 1000
  · exact evPos h (Ev.bind answers_is (evNow rfl))
  · refine evNeg h ?_
    have hb : s.size ≤ 1000000000 := by omega
    refine evVal (a := decR s.data.toList) (by unfold text_Decode.f; rw [if_pos hb]) ?_
    refine Ev.bind (unb64_is s hb) ?_
    cases hd : decS s.data.toList 0 0 with
    | none =>
      rw [decR_none hd]
      exact evNeg (by simp [unbR]) (Ev.bind answers_is (evPos rfl (evPos rfl (evNow (by rw [ByteArray.toList_eq]; rfl)))))
    | some o =>
      by_cases he : enc o = s.data.toList
      · rw [decR_some hd he]
        refine evPos (by simp [unbR, he]) (Ev.bind answers_is (evPos rfl (evPos rfl (evPos rfl ?_))))
        have ho : o.length ≤ 1000000000 := by
          have := enc_len o
          have hl : (enc o).length = s.size := by rw [he, data_length]
          omega
        refine evVal (a := ⟨(enc o).toArray⟩) (by unfold text_Encode.f; rw [if_pos (by show o.toArray.size ≤ _; simpa using ho)]) (evNow ?_)
        rw [ByteArray.toList_eq, ByteArray.toList_eq]
        simp [he]
      · rw [decR_other hd he]
        exact evNeg (by simp [unbR, he]) (Ev.bind answers_is (evPos rfl (evPos rfl (evNow (by rw [ByteArray.toList_eq]; rfl)))))

end Go.Proofs.Ytfoepbjbgohhdaa.Pure
