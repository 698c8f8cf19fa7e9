/- A part of the proof of a card: what some functions of the program come to, each under the conditions that its theorem names. -/
import Derived.Test.YtpoblffgclmmlaaGreatDoorRows
import Derived.ProofKit
import Derived.LaidMore
import Derived.OpenShut
import Derived.Stop.Joined
import Derived.MakeChecks
import Derived.Test.YtpoblffgclmmlaaGreatDoorPkPk5
section
set_option linter.unusedVariables false
set_option linter.unusedSimpArgs false
namespace Go.Proofs.YtpoblffgclmmlaaGreatDoor.X
open Go.RowKit Go.ChangeShapes Go.WideShapes Go.ChangeAt Go.Proofs.YtpoblffgclmmlaaGreatDoorW.PrintWords

theorem arr_of_trod {H : Type} {enc : TypeId × Value → H} {P : Program} {w : World} {base : Nat} {spare : Nat → Bool} {held : Bool} {fuel n : Nat} {t e : TypeId} {k : IntKind} {cs : List Value} {xs : List Int} {p : List MemPlace}
  (hu : P.underlying t = some (.array n e)) (he : P.underlying e = some (.int k)) (hc : P.cellsOf e = 1) (ht : P.cellsOf t = n)
  (h : DataW.trod enc P w base spare held fuel t cs = some (.agg (xs.map fun x => .lit (.int k x)), p)) : cs = nums k xs := by
 obtain ⟨ys, m, rfl, hx, hl, hn, hel⟩ := DataW.trod_array hu h
 simp only [Prod.mk.injEq, DataW.agg.injEq] at hx
 have hlen : xs.length = n := by have := congrArg List.length hx.1; simp at this; omega
 apply List.ext_getElem (by rw [hl, ht]; simp [nums, hlen])
 intro i h1 h2
 have hi : i < n := by rw [hl, ht] at h1; exact h1
 have h3 := hel i hi
 rw [hc, Nat.mul_one, List.drop_eq_getElem_cons h1, List.take_succ_cons, List.take_zero, List.getElem?_eq_getElem (by omega)] at h3
 obtain ⟨r, e1, e2, -⟩ := DataW.trod_int he h3
 have h4 : (ys.map (·.1))[i]? = (xs.map fun x => (DataW.lit (.int k x) : DataW H))[i]? := by rw [hx.1]
 rw [List.getElem?_map, List.getElem?_map, List.getElem?_eq_getElem (by omega), List.getElem?_eq_getElem (by omega)] at h4
 simp only [Option.map_some, Option.some.injEq, e2] at h4
 simp only [List.cons.injEq, and_true] at e1
 rw [e1]
 simp only [DataW.lit.injEq, Lit.int.injEq, true_and] at h4
 simp [nums, h4]

def laid2 : List (String × DataW Unit) := [("exequatur/hash.rounds", Rows.laid_exequatur_hash_rounds), ("exequatur/hash.begin", Rows.laid_exequatur_hash_begin)]
theorem gRounds : Tryz.prog.globalNamed "exequatur/hash.rounds" = some 1 := by kernel_rfl
theorem gBegin : Tryz.prog.globalNamed "exequatur/hash.begin" = some 0 := by kernel_rfl
theorem tRounds : (Tryz.prog.globals[1]?).map (·.type) = some 200 := by kernel_rfl
theorem tBegin : (Tryz.prog.globals[0]?).map (·.type) = some 201 := by kernel_rfl
theorem var_at {P : Program} {w : World} {n : String} {g : Nat} {cs : Array Value} (hg : P.globalNamed n = some g) (h : w.var? P n = some cs) : ∃ t f, w.heap[g]? = some (.cells cs t f) := by
 simp only [World.var?, hg, Option.bind_some] at h
 split at h
 ·
  next cs' t f he => simp only [Option.some.injEq] at h; subst h; exact ⟨t, f, he⟩
 ·
  cases h
theorem of_laid {W : World} (h : laidMetH Tryz.prog laid2 W) : GL W := by
 rw [MakeChecks.laidMetH_plain _ _ _ (by kernel_rfl)] at h
 obtain ⟨ps, ⟨g0, t0, cs0, f0, p0, q0, hg0, ht0, hv0, hd0, ⟨g1, t1, cs1, f1, p1, q1, hg1, ht1, hv1, hd1, hq, rfl⟩, hps⟩, _, hz⟩ := h
 obtain rfl := Option.some.inj (gRounds.symm.trans hg0)
 obtain rfl := Option.some.inj (gBegin.symm.trans hg1)
 obtain rfl := Option.some.inj (tRounds.symm.trans ht0)
 obtain rfl := Option.some.inj (tBegin.symm.trans ht1)
 have e0 := arr_of_trod (xs := roundsL) (k := .u32) Tryz.underlying200 Tryz.underlying178 (by kernel_rfl) (by kernel_rfl) hd0
 have e1 := arr_of_trod (xs := beginL) (k := .u32) Tryz.underlying201 Tryz.underlying178 (by kernel_rfl) (by kernel_rfl) hd1
 obtain ⟨T0, z0, a0⟩ := var_at gRounds hv0
 obtain ⟨T1, z1, a1⟩ := var_at gBegin hv1
 have c0 : cs0 = (nums .u32 roundsL).toArray := by rw [← e0]
 have c1 : cs1 = (nums .u32 beginL).toArray := by rw [← e1]
 subst c0
 subst c1
 have m0 : MemPlace.cell 1 0 ∈ ps := by subst hps; exact List.mem_append_left _ (List.mem_append_left _ (by decide +kernel))
 have m1 : MemPlace.cell 0 0 ∈ ps := by subst hps; exact List.mem_append_right _ (List.mem_append_left _ (List.mem_append_left _ (by decide +kernel)))
 obtain ⟨⟨c, t, hc⟩, -⟩ := hz 1 0 m0
 rw [a0] at hc
 obtain ⟨⟨c', t', hc'⟩, -⟩ := hz 0 0 m1
 rw [a1] at hc'
 simp only [Option.some.injEq, Obj.cells.injEq] at hc hc'
 refine ⟨T1, T0, ?_, ?_⟩
 ·
  rw [ArrK, a1, hc'.2.2]
 ·
  rw [ArrK, a0, hc.2.2]
theorem door_met (os : Os) (args : Array Value) : laidMetH Tryz.prog laid2 ((World.doorLaid Tryz.prog 400 os).forCall (fun _ _ => 0) ⟨#[], args, []⟩).memory :=
 laidMetH_of_parts3 (fuel := 8) (laidMet_of_run' 8 (by kernel_rfl) (by kernel_rfl)) (by kernel_rfl) (by kernel_rfl)
end Go.Proofs.YtpoblffgclmmlaaGreatDoor.X
end
