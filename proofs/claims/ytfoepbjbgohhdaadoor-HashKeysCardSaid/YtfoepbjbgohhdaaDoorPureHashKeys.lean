/- What the walk of HashKeys finds is true: a long key is its sum, a short one is filled up with 0. -/
import Derived.Test.YtfoepbjbgohhdaaDoorQ4
import Derived.Test.YtfoepbjbgohhdaaDoorPureHashSums
set_option linter.unusedVariables false
set_option linter.unusedSimpArgs false
namespace Go.Proofs.YtfoepbjbgohhdaaDoor.Pure
open Go.RowKit Go.Proofs.YtfoepbjbgohhdaaDoor.Q Go.Proofs.YtfoepbjbgohhdaaDoorW.PrintWords Go.Proofs.YtfoepbjbgohhdaaDoorW.PrintLast Go.Proofs.YtfoepbjbgohhdaaDoor.X

theorem j1_true (b long short : ByteArray) (hb : b.size ≤ 500) (hl : 64 < long.size) (hl2 : long.size ≤ 1000) (hs : short.size ≤ 60) : exequaturlaw04_HashKeys.j1 1 b long short = some true := by
  simp only [exequaturlaw04_HashKeys.j1, answers, Option.bind_some, if_true]
  unfold hash_Mac.f hash_Sum.f
  have h1 : (sumS long.data.toList).size = 32 := sumS_size _
  have hz : (⟨#[0]⟩ : ByteArray).size = 1 := rfl
  rw [if_pos (by omega), Option.bind_some, if_pos (by omega), Option.bind_some, if_pos (by omega), Option.bind_some, if_pos (by rw [mac_long long b hl]), if_pos (by omega), Option.bind_some, if_pos (by omega), if_pos (by rw [ByteArray.size_append, hz]; omega), Option.bind_some, mac_zero short b _ rfl (by omega)]
  simp
theorem HashKeys : exequaturlaw04_HashKeys.Pure := by
  intro a0 a1 h0 h1
  refine ⟨2, ?_⟩
  unfold exequaturlaw04_HashKeys.f
  simp only [exequaturlaw04_HashKeys.j0, answers, Option.bind_some]
  split
  · rfl
  · rename_i g1
    by_cases g2 : (a0.size : Int) > 500
    · rw [if_pos (by simpa using g2)]
    · rw [if_neg (by simpa using g2)]
      have hsz : (strOfNums (List.replicate 65 0)).size = 65 := by rw [strOfNums_size]; simp
      rw [if_pos (by decide), hsz, if_pos (by omega)]
      split
      · rename_i g3
        rw [if_pos (by decide), if_pos (by omega)]
        exact j1_true a1 _ _ (by omega) (by rw [ByteArray.size_append, hsz]; omega) (by rw [ByteArray.size_append, hsz]; omega) (by rw [ByteArray.size_extract]; omega)
      · exact j1_true a1 _ _ (by omega) (by rw [ByteArray.size_append, hsz]; omega) (by rw [ByteArray.size_append, hsz]; omega) (by omega)
end Go.Proofs.YtfoepbjbgohhdaaDoor.Pure
