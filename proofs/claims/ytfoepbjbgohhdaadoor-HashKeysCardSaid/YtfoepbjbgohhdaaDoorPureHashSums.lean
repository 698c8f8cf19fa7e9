/- What the walk of HashSums finds is true: the two sums are one, and the sum of nothing begins as it should. -/
import Derived.Test.YtfoepbjbgohhdaaDoorQ3
import Derived.Test.YtfoepbjbgohhdaaDoorHsh
set_option linter.unusedVariables false
set_option linter.unusedSimpArgs false
namespace Go.Proofs.YtfoepbjbgohhdaaDoor.Pure
open Go.RowKit Go.Proofs.YtfoepbjbgohhdaaDoor.Q Go.Proofs.YtfoepbjbgohhdaaDoorW.PrintWords Go.Proofs.YtfoepbjbgohhdaaDoorW.PrintLast Go.Proofs.YtfoepbjbgohhdaaDoor.X

theorem answers : exequaturlaw04_answers.f = some true := by
  unfold exequaturlaw04_answers.f hash_Sum.f
  have hs : (sumS []).size = 32 := sumS_size _
  have hn := sum_nil
  simp only [Prod.mk.injEq] at hn
  obtain ⟨h0, h1, h2, h3⟩ := hn
  rw [if_pos (by decide), Option.bind_some]
  show (if ((sumS []).size : Int) = 32 then _ else _) = _
  have hsi : ((sumS []).size : Int) = 32 := by rw [hs]; rfl
  generalize sumS [] = s at *
  simp only [hsi, h0, h1, h2, h3]
  decide
theorem HashSums : exequaturlaw04_HashSums.Pure := by
  intro a0 h0
  unfold exequaturlaw04_HashSums.f
  rw [answers]
  split
  · rfl
  · rw [Option.bind_some, if_pos rfl]
    unfold hash_Sum.f exequaturref01_Sum.f
    rw [if_pos (by omega), Option.bind_some, Option.bind_some]
    simp
end Go.Proofs.YtfoepbjbgohhdaaDoor.Pure
