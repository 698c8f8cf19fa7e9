/- The sum of nothing, reckoned by the kernel; keys and marks. No program here. -/
import Derived.KernelRfl
import Derived.Test.YtkmokcfnfhabgaaDoorMsg
set_option linter.unusedVariables false
set_option linter.unusedSimpArgs false
namespace Go.Proofs.YtkmokcfnfhabgaaDoor.X
open Go.RowKit Go.Proofs.YtkmokcfnfhabgaaDoorW.PrintWords Go.Proofs.YtkmokcfnfhabgaaDoorW.PrintMore
set_option maxRecDepth 100000 in
theorem sum_nil : (bt (sumS []) 0, bt (sumS []) 1, bt (sumS []) 2, bt (sumS []) 3) = (227, 176, 196, 66) := by kernel_rfl

theorem keyS_long (k : ByteArray) (h : 64 < k.size) : keyS k = sumS k.data.toList := if_pos h
theorem keyS_short (k : ByteArray) (h : ¬ 64 < k.size) : keyS k = k := if_neg h
theorem mac_long (k b : ByteArray) (h : 64 < k.size) : macS k b = macS (sumS k.data.toList) b := by
  have h2 : keyS (sumS k.data.toList) = keyS k := by rw [keyS_long k h, keyS_short]; rw [sumS_size]; omega
  unfold macS
  rw [h2]
theorem copied_zero (k z : ByteArray) (hz : z.data.toList = [0]) (h : k.size < 64) : copied (k ++ z) (List.replicate 64 0) = copied k (List.replicate 64 0) := by
  have hs : z.size = 1 := by have := congrArg List.length hz; simpa using this
  unfold copied bytesOf
  rw [ByteArray.size_append, hs, ByteArray.data_append, Array.toList_append, hz, List.map_append, List.append_assoc, List.drop_replicate, List.drop_replicate, show 64 - k.size = (64 - (k.size + 1)) + 1 by omega, List.replicate_succ]
  rfl
theorem mac_zero (k b z : ByteArray) (hz : z.data.toList = [0]) (h : k.size < 64) : macS (k ++ z) b = macS k b := by
  have hs : z.size = 1 := by have := congrArg List.length hz; simpa using this
  have h1 : keyS k = k := keyS_short k (by omega)
  have h2 : keyS (k ++ z) = k ++ z := keyS_short _ (by rw [ByteArray.size_append]; omega)
  unfold macS withS
  rw [h1, h2, copied_zero k z hz h]
theorem macS_size (k b : ByteArray) : (macS k b).size = 32 := sumS_size _
end Go.Proofs.YtkmokcfnfhabgaaDoor.X
