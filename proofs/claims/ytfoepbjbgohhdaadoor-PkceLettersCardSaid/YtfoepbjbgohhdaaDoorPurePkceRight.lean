/- PkceRight: whether any verifier is that of any challenge, and which challenges may be, as the reference has it; up to 1,000 bytes, as the statement says. -/
import Derived.Test.YtfoepbjbgohhdaaDoorPkc
set_option linter.unusedVariables false
set_option linter.unusedSimpArgs false
namespace Go.Proofs.YtfoepbjbgohhdaaDoor.Pure
open Go.RowKit Go.Proofs.YtfoepbjbgohhdaaDoor.Q Go.Proofs.YtfoepbjbgohhdaaDoor.X Go.Proofs.YtfoepbjbgohhdaaDoorW.PrintWords Go.Proofs.YtfoepbjbgohhdaaDoorW.PrintLast Go.Proofs.YtfoepbjbgohhdaaDoorW.PrintMore

theorem answers9 : Ev (fun k => exequaturlaw09_answers.f k) true := by
  unfold exequaturlaw09_answers.f
  refine evVal (chal_is _ (by decide)) ?_
  refine Ev.bind (a := true) (evEq (right_is _ _ (by have := chalS_size (⟨#[48, 49, 50, 51, 52, 53, 54, 55, 56, 57, 48, 49, 50, 51, 52, 53, 54, 55, 56, 57, 48, 49, 50, 51, 52, 53, 54, 55, 56, 57, 48, 49, 50, 51, 52, 53, 54, 55, 56, 57, 48, 49, 50]⟩ : ByteArray); omega) (by decide)) ?_) ?_
  · unfold rightS
    rw [decide_eq_true (show chalS _ = chalS _ from rfl), Bool.and_true]
    decide
  · refine evPos rfl (evVal (chal_is _ (by decide)) (evVal (good_is _ (by have := chalS_size (⟨#[]⟩ : ByteArray); omega)) (evNow ?_)))
    rw [goodS_chal]
theorem PkceRight : exequaturlaw09_PkceRight.Pure := by
  intro c v _ _
  refine Ev.rounds (g := fun k => exequaturlaw09_PkceRight.f k c v) ?_
  have hl : ∀ b, (b = true ∨ c.size ≤ 1000 ∧ v.size ≤ 1000) → Ev (fun k => exequaturlaw09_PkceRight.j0 k c v b) true := by
    intro b hb
    refine Ev.step (fun k => by rw [exequaturlaw09_PkceRight.j0]) ?_
    by_cases h : b = true
    · exact evPos h (Ev.bind answers9 (evNow rfl))
    · obtain ⟨h1, h2⟩ := hb.resolve_left h
      refine evNeg h (Ev.bind answers9 (evPos rfl ?_))
      refine Ev.bind (right_is c v (by omega) (by omega)) (Ev.bind (rright_is c v (by omega)) (evPos (by simp) ?_))
      refine evVal (good_is c (by omega)) (Ev.bind (rgood_is c (by omega)) (evPos (by simp) ?_))
      refine evVal (chal_is v (by omega)) (evVal (a := sumS v.data.toList) (by unfold exequaturref01_Sum.f; rw [if_pos (by omega)]) ?_)
      exact Ev.bind (b64_is _ (by rw [sumS_size]; omega)) (evNow (by simp [chalS, encB]))
  by_cases h1 : (c.size : Int) > 1000
  · exact evPos h1 (hl true (.inl rfl))
  · refine evNeg h1 (hl _ ?_)
    by_cases h2 : (v.size : Int) > 1000
    · exact .inl (by simpa using h2)
    · exact .inr ⟨by omega, by omega⟩
end Go.Proofs.YtfoepbjbgohhdaaDoor.Pure
