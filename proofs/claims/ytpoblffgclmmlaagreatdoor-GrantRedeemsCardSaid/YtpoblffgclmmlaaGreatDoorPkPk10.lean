/- A part of the proof of a card: what some functions of the program come to, each under the conditions that its theorem names. -/
import Derived.Test.YtpoblffgclmmlaaGreatDoorProg
import Derived.Lib.LaidTab
import Derived.Lib.ItoaMem
import Derived.KernelRfl
import Derived.Below
section
set_option linter.unusedVariables false
namespace Go.Proofs.YtpoblffgclmmlaaGreatDoor.X
open Go.RowKit
def GP (w : World) : Prop := Lib.TabIs Tryz.prog w "internal/strconv.uint64pow10" .u64 Lib.pow10Tab
theorem gPow : Tryz.prog.globalNamed "internal/strconv.uint64pow10" = some 2 := by kernel_rfl
theorem GP.below {w w1 : World} (h : GP w) (hb : Below w.heap.size w w1) : GP w1 := by
 unfold GP Lib.TabIs at h ⊢
 simp only [World.var?, gPow, Option.bind_some] at h ⊢
 have hlt : 2 < w.heap.size := by
  rcases Nat.lt_or_ge 2 w.heap.size with h' | h'
  ·
   exact h'
  ·
   rw [Array.getElem?_eq_none h'] at h; cases h
 rw [hb.block _ hlt]
 exact h
def GE (w : World) : Prop := (∃ t p, w.cell? ⟨3, 0, none⟩ = some (.iface t p)) ∧ (∃ t p, w.cell? ⟨4, 0, none⟩ = some (.iface t p)) ∧ ∃ m, w.cell? ⟨5, 0, none⟩ = some (.int .i64 m)
theorem GE.below {w w1 : World} (h : GE w) (hb : Below w.heap.size w w1) : GE w1 := by
 obtain ⟨⟨t, p, h1⟩, ⟨t', p', h2⟩, m, h3⟩ := h
 exact ⟨⟨t, p, (hb.cell (World.block_lt_of_cell? _ _ h1)).trans h1⟩, ⟨t', p', (hb.cell (World.block_lt_of_cell? _ _ h2)).trans h2⟩, m, (hb.cell (World.block_lt_of_cell? _ _ h3)).trans h3⟩
end Go.Proofs.YtpoblffgclmmlaaGreatDoor.X
end
