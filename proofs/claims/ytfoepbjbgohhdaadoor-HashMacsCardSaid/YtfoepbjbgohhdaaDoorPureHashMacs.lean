/- What the walk of HashMacs finds is true: the two marks are one. -/
import Derived.Test.YtfoepbjbgohhdaaDoorQ4
import Derived.Test.YtfoepbjbgohhdaaDoorPureHashSums
set_option linter.unusedVariables false
set_option linter.unusedSimpArgs false
namespace Go.Proofs.YtfoepbjbgohhdaaDoor.Pure
open Go.RowKit Go.Proofs.YtfoepbjbgohhdaaDoor.Q Go.Proofs.YtfoepbjbgohhdaaDoorW.PrintWords Go.Proofs.YtfoepbjbgohhdaaDoorW.PrintLast Go.Proofs.YtfoepbjbgohhdaaDoor.X

theorem HashMacs : exequaturlaw04_HashMacs.Pure := by
  intro a0 a1 h0 h1
  refine ⟨1, ?_⟩
  unfold exequaturlaw04_HashMacs.f
  simp only [exequaturlaw04_HashMacs.j0, answers, Option.bind_some, if_true]
  split
  · rfl
  · split
    · rfl
    · rename_i g1 g2
      have g3 : ¬ (a0.size : Int) > 2000 := by simpa using g2
      unfold hash_Mac.f exequaturref01_Mac.f
      rw [if_pos (by omega)]
      simp [macS_size]
end Go.Proofs.YtfoepbjbgohhdaaDoor.Pure
