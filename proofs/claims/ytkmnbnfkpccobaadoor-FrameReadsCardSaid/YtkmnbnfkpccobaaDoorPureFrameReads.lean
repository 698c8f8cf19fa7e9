/- FrameReads: what any bytes are frames of, as the reference has it; up to 5,000 bytes, as the statement says. -/
import Derived.Test.YtkmnbnfkpccobaaDoorFrm
set_option linter.unusedVariables false
set_option linter.unusedSimpArgs false
namespace Go.Proofs.YtkmnbnfkpccobaaDoor.Pure
open Go.RowKit Go.Proofs.YtkmnbnfkpccobaaDoor.Q Go.Proofs.YtkmnbnfkpccobaaDoor.X Go.Proofs.YtkmnbnfkpccobaaDoorW.PrintWords Go.Proofs.YtkmnbnfkpccobaaDoorW.PrintLast Go.Proofs.YtkmnbnfkpccobaaDoorW.PrintMore

theorem FrameReads : exequaturlaw11_FrameReads.Pure := by
  intro l0 _ _ h3
  refine Ev.rounds (g := fun k => exequaturlaw11_FrameReads.f k l0) ?_
  have hb : Byt l0 := fun x hx => by
    have := h3 x hx
    simp [Lit.wf, IntKind.min, IntKind.max, IntKind.signed, IntKind.bits] at this
    omega
  by_cases h : (l0.length : Int) > 5000
  · exact evPos h (evVal answers_is (evNow rfl))
  · have hl : l0.length ≤ 100000000 := by omega
    have hc : (splitL l0).1.length ≤ 1000000000 := Nat.le_trans (split_count (l0.length + 1) l0 0) (by omega)
    refine evNeg h (evVal (a := ((splitL l0).1, ((splitL l0).2 : Int))) (if_pos hl) ?_)
    refine Ev.bind (rsplit_is l0 hb hl) (evVal answers_is (evPos rfl ?_))
    exact Ev.bind (same_self _ hc) (evPos rfl (evNow (by simp)))
end Go.Proofs.YtkmnbnfkpccobaaDoor.Pure
