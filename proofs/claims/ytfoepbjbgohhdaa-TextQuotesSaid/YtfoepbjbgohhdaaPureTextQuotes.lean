/- TextQuotes: any bytes as they stand in a URI, and back; and what any text stands for: as the reference has it; up to 3,000 bytes each, as the statement says. -/
import Derived.Test.YtfoepbjbgohhdaaEqQ
set_option linter.unusedVariables false
set_option linter.unusedSimpArgs false
namespace Go.Proofs.Ytfoepbjbgohhdaa.Pure
open Go.RowKit Go.Proofs.Ytfoepbjbgohhdaa.Q Go.Proofs.Ytfoepbjbgohhdaa.X Go.Proofs.YtfoepbjbgohhdaaW.PrintWords Go.Proofs.YtfoepbjbgohhdaaW.PrintLast Go.Proofs.YtfoepbjbgohhdaaW.PrintMore

theorem TextQuotes : exequaturlaw01_TextQuotes.Pure := by
  intro b s hb hs
  refine Ev.rounds (g := fun k => exequaturlaw01_TextQuotes.f k b s) ?_
  have hyes : Ev (fun k => exequaturlaw01_TextQuotes.j0 k b s true) true :=
    Ev.step (fun k => by rw [exequaturlaw01_TextQuotes.j0]) (evPos rfl (Ev.bind answers_is (evNow rfl)))
  by_cases h1 : (b.size : Int) > 3000
  · exact evPos h1 hyes
  · refine evNeg h1 ?_
    by_cases h2 : (s.size : Int) > 3000
    · rw [decide_eq_true h2]; exact hyes
    · rw [decide_eq_false h2]
      refine Ev.step (fun k => by rw [exequaturlaw01_TextQuotes.j0]) (evNeg (by decide) ?_)
      have hq := quo_le b.data.toList
      rw [data_length] at hq
      have hsz : (⟨(quo b.data.toList).toArray⟩ : ByteArray).size = (quo b.data.toList).length := by show (quo b.data.toList).toArray.size = _; simp
      refine evVal (a := ⟨(quo b.data.toList).toArray⟩) (by unfold text_Quote.f; rw [if_pos (by omega)]) ?_
      refine evVal (a := (⟨b.data.toList.toArray⟩, 0)) ?_ ?_
      · unfold text_Unquote.f
        rw [if_pos (by rw [hsz]; omega), show (⟨(quo b.data.toList).toArray⟩ : ByteArray).data.toList = quo b.data.toList from rfl, unqR_some (unq_quo _)]
      refine Ev.bind (rquote_is b (by omega)) (evPos rfl (evPos rfl ?_))
      rw [show ((⟨b.data.toList.toArray⟩ : ByteArray).toList != b.toList) = false from by rw [ByteArray.toList_eq]; simp]
      refine Ev.step (fun k => by rw [exequaturlaw01_TextQuotes.j1]) (evNeg (by decide) ?_)
      refine evVal (a := unqR s.data.toList) (by unfold text_Unquote.f; rw [if_pos (by omega)]) ?_
      refine Ev.bind (runq_is s (by omega)) ?_
      cases hu : unq s.data.toList with
      | none =>
        rw [unqR_none hu]
        exact evNeg (by simp [unqB]) (Ev.bind answers_is (evPos rfl (evPos rfl (evNow (by rw [ByteArray.toList_eq]; rfl)))))
      | some o =>
        rw [unqR_some hu]
        exact evPos rfl (Ev.bind answers_is (evPos rfl (evPos rfl (evNow (by simp [unqB])))))

end Go.Proofs.Ytfoepbjbgohhdaa.Pure
