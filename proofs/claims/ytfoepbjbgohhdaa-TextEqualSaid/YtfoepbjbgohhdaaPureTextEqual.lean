/- TextEqual: two texts are equal if they are the same: any two texts. -/
import Derived.Test.YtfoepbjbgohhdaaAns
import Derived.Test.YtfoepbjbgohhdaaQ3
set_option linter.unusedVariables false
set_option linter.unusedSimpArgs false
namespace Go.Proofs.Ytfoepbjbgohhdaa.Pure
open Go.RowKit Go.Proofs.Ytfoepbjbgohhdaa.Q Go.Proofs.Ytfoepbjbgohhdaa.X Go.Proofs.YtfoepbjbgohhdaaW.PrintWords Go.Proofs.YtfoepbjbgohhdaaW.PrintLast Go.Proofs.YtfoepbjbgohhdaaW.PrintMore

theorem TextEqual : exequaturlaw01_TextEqual.Pure := by
  intro a b ha hb
  refine Ev.rounds (g := fun k => exequaturlaw01_TextEqual.f k a b) ?_
  refine Ev.bind answers_is (evPos rfl ?_)
  refine Ev.bind (equal_is a b ha hb) (evPos ?_ ?_)
  · rw [ByteArray.toList_eq, ByteArray.toList_eq, beq_iff_eq, Bool.eq_iff_iff]
    simp only [decide_eq_true_eq, beq_iff_eq]
    constructor
    · rintro rfl; rfl
    · intro h; cases a; cases b; simp at h ⊢; exact Array.ext' (by simpa using h)
  · exact Ev.bind (equal_is a a ha ha) (evNow (by simp))

end Go.Proofs.Ytfoepbjbgohhdaa.Pure
