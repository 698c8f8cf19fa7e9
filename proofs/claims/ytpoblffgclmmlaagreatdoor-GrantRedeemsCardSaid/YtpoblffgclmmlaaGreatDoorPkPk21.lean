/- A part of the proof of a card: what some functions of the program come to, each under the conditions that its theorem names. -/
import Derived.Test.YtpoblffgclmmlaaGreatDoorRows
import Derived.ProofKit
import Derived.LaidMore
import Derived.OpenShut
import Derived.Stop.Joined
import Derived.MakeChecks
import Derived.Test.YtpoblffgclmmlaaGreatDoorPkPk7
section
set_option linter.unusedVariables false
set_option linter.unusedSimpArgs false
namespace Go.Proofs.YtpoblffgclmmlaaGreatDoor.X
open Go.RowKit Go.ChangeShapes Go.WideShapes Go.ChangeAt Go.Proofs.YtpoblffgclmmlaaGreatDoorW.PrintWords

theorem arr_of_trod {H : Type} {enc : TypeId × Value → H} {P : Program} {w : World} {base : Nat} {spare : Nat → Bool} {held : Bool} {fuel n : Nat} {t e : TypeId} {k : IntKind} {cs : List Value} {xs : List Int} {p : List MemPlace}
  (hu : P.underlying t = some (.array n e)) (he : P.underlying e = some (.int k)) (hc : P.cellsOf e = 1) (ht : P.cellsOf t = n)
  (h : DataW.trod enc P w base spare held fuel t cs = some (.agg (xs.map fun x => .lit (.int k x)), p)) : cs = nums k xs := by
 obtain ⟨ys, m, rfl, hx, hl, hn, hel⟩ := DataW.trod_array hu h
 simp only [Prod.mk.injEq, DataW.agg.injEq] at hx
 have hlen : xs.length = n := by have := congrArg List.length hx.1; simp at this; omega
 apply List.ext_getElem (by rw [hl, ht]; simp [nums, hlen])
 intro i h1 h2
 have hi : i < n := by rw [hl, ht] at h1; exact h1
 have h3 := hel i hi
 rw [hc, Nat.mul_one, List.drop_eq_getElem_cons h1, List.take_succ_cons, List.take_zero, List.getElem?_eq_getElem (by omega)] at h3
 obtain ⟨r, e1, e2, -⟩ := DataW.trod_int he h3
 have h4 : (ys.map (·.1))[i]? = (xs.map fun x => (DataW.lit (.int k x) : DataW H))[i]? := by rw [hx.1]
 rw [List.getElem?_map, List.getElem?_map, List.getElem?_eq_getElem (by omega), List.getElem?_eq_getElem (by omega)] at h4
 simp only [Option.map_some, Option.some.injEq, e2] at h4
 simp only [List.cons.injEq, and_true] at e1
 rw [e1]
 simp only [DataW.lit.injEq, Lit.int.injEq, true_and] at h4
 simp [nums, h4]

theorem gRounds : Tryz.prog.globalNamed "exequatur/hash.rounds" = some 1 := by kernel_rfl
theorem gBegin : Tryz.prog.globalNamed "exequatur/hash.begin" = some 0 := by kernel_rfl
theorem tRounds : (Tryz.prog.globals[1]?).map (·.type) = some 200 := by kernel_rfl
theorem tBegin : (Tryz.prog.globals[0]?).map (·.type) = some 201 := by kernel_rfl
theorem var_at {P : Program} {w : World} {n : String} {g : Nat} {cs : Array Value} (hg : P.globalNamed n = some g) (h : w.var? P n = some cs) : ∃ t f, w.heap[g]? = some (.cells cs t f) := by
 simp only [World.var?, hg, Option.bind_some] at h
 split at h
 ·
  next cs' t f he => simp only [Option.some.injEq] at h; subst h; exact ⟨t, f, he⟩
 ·
  cases h
end Go.Proofs.YtpoblffgclmmlaaGreatDoor.X
end
