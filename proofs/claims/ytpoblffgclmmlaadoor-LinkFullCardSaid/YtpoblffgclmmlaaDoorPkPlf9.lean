/- LinkFull: the tied card: whatever the input the law answers true and leaves it alone, the listed tables being as the program's text lays them; conditions: as the row's cells say ('laid') (part 10 of 24). -/
import Derived.Test.YtpoblffgclmmlaaDoorProg
import Derived.Lib.LaidTab
import Derived.Lib.ItoaMem
import Derived.KernelRfl
import Derived.Below
section
set_option linter.unusedVariables false
namespace Go.Proofs.YtpoblffgclmmlaaDoor.X
open Go.RowKit
def GP (w : World) : Prop := Lib.TabIs Tryd.prog w "internal/strconv.uint64pow10" .u64 Lib.pow10Tab
theorem gPow : Tryd.prog.globalNamed "internal/strconv.uint64pow10" = some 2 := by kernel_rfl
theorem GP.below {w w1 : World} (h : GP w) (hb : Below w.heap.size w w1) : GP w1 := by
  unfold GP Lib.TabIs at h ⊢
  simp only [World.var?, gPow, Option.bind_some] at h ⊢
  have hlt : 2 < w.heap.size := by
    rcases Nat.lt_or_ge 2 w.heap.size with h' | h'
    · exact h'
    · rw [Array.getElem?_eq_none h'] at h; cases h
  rw [hb.block _ hlt]
  exact h
end Go.Proofs.YtpoblffgclmmlaaDoor.X
end
