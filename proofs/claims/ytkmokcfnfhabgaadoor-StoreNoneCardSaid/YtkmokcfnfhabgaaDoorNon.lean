/- law12.StoreNone. -/
import Derived.Test.YtkmokcfnfhabgaaDoorAws
set_option linter.unusedVariables false
set_option linter.unusedSimpArgs false
namespace Go.Proofs.YtkmokcfnfhabgaaDoor.X
open Go.RowKit Go.WideMaps Go.Maps Go.Proofs.YtkmokcfnfhabgaaDoorW.PrintWords Go.Proofs.YtkmokcfnfhabgaaDoorW.PrintLast Go.Proofs.YtkmokcfnfhabgaaDoorW.PrintMore Go.Proofs.YtkmokcfnfhabgaaDoor.Q

set_option maxHeartbeats 8000000 in
set_option maxRecDepth 100000 in
theorem StoreNone_walk (w : World) (key : ByteArray) (hk : key.size ≤ 140737488351232) (hGL : GL w) : Calls Tryd.prog 4 #[.string key] w fun e w' => e = .returned (.bool true) ∧ Below w.heap.size w w' := by
  go_enter Tryd.func4, Tryd.ntmps4
  go_wp2_with fail
  refine (open_nil w).mono ?_
  rintro e w1 ⟨rfl, rfl⟩
  go_wp2_with fail
  refine (get_nil key _).mono ?_
  rintro e w1 ⟨rfl, rfl⟩
  go_wp2_with fail
  refine (answers_says _ hGL).mono ?_
  rintro e w2 ⟨rfl, hb2⟩
  go_wp2_with fail
  have hb3 : ∀ o, Below w1.heap.size w1 (w2.alloc o) := fun o => hb2.alloc hb2.size o
  refine (do_nil _ _).mono ?_
  rintro e w4 ⟨rfl, rfl⟩
  go_wp2_with fail
  refine (keys_nil _ _).mono ?_
  rintro e w5 ⟨rfl, rfl⟩
  go_wp2_with fail
  go_ret
  exact ⟨rfl, hb3 _⟩
end Go.Proofs.YtkmokcfnfhabgaaDoor.X
