/- LinkFull: the tied card: whatever the input the law answers true and leaves it alone, the listed tables being as the program's text lays them; conditions: as the row's cells say ('laid') (part 23 of 24). -/
import Derived.LaidLaws
import Derived.Handed
import Derived.Shelf.Vars
import Derived.Test.YtpoblffgclmmlaaDoorPkPlf9
import Derived.Test.YtpoblffgclmmlaaDoorPkPlf21
section
set_option linter.unusedVariables false
set_option linter.unusedSimpArgs false
namespace Go.Proofs.YtpoblffgclmmlaaDoor.X
open Go.RowKit Go.ChangeShapes Go.WideShapes Go.ChangeAt Go.Proofs.YtpoblffgclmmlaaDoorW.PrintWords

theorem laid_mem {P : Program} {w : World} : ∀ {laid : List (String × DataW Unit)} {ps : List MemPlace}, DataW.LaidVars P w laid ps → ∀ n d, (n, d) ∈ laid →
    ∃ g t cs fuel p, P.globalNamed n = some g ∧ (P.globals[g]?).map (·.type) = some t ∧ w.var? P n = some cs ∧ DataW.trod (fun _ => ()) P w 0 (fun _ => true) false fuel t cs.toList = some (d, p) ∧ ∀ x ∈ MemPlace.row ⟨g, 0, none⟩ cs.size, x ∈ ps
  | [], _, _, n, d, h => by cases h
  | (n', d') :: r, ps, hl, n, d, h => by
    obtain ⟨g, t, cs, fuel, p, q, h1, h2, h3, h4, h5, rfl⟩ := hl
    rcases List.mem_cons.1 h with e | e
    · simp only [Prod.mk.injEq] at e
      obtain ⟨rfl, rfl⟩ := e
      exact ⟨g, t, cs, fuel, p, h1, h2, h3, h4, fun x hx => List.mem_append_left _ (List.mem_append_left _ hx)⟩
    · obtain ⟨g', t', cs', fuel', p', k1, k2, k3, k4, k5⟩ := laid_mem h5 n d e
      exact ⟨g', t', cs', fuel', p', k1, k2, k3, k4, fun x hx => List.mem_append_right _ (k5 x hx)⟩
theorem arr_laid {W : World} {laid : List (String × DataW Unit)} (h : laidMet Tryd.prog laid W) {n : String} {g T e N : Nat} {xs : List Int} {k : IntKind} (hn : Tryd.prog.globalNamed n = some g) (hT : (Tryd.prog.globals[g]?).map (·.type) = some T)
    (hu : Tryd.prog.underlying T = some (.array N e)) (he : Tryd.prog.underlying e = some (.int k)) (hce : Tryd.prog.cellsOf e = 1) (hct : Tryd.prog.cellsOf T = N) (hN : 0 < N) (hm : (n, DataW.agg (xs.map fun x => .lit (.int k x))) ∈ laid) :
    W.var? Tryd.prog n = some (nums k xs).toArray ∧ ∃ t, ArrK k W g t xs := by
  obtain ⟨ps, hl, _, hz⟩ := h
  obtain ⟨g', t', cs, fuel, p, h1, h2, h3, h4, h5⟩ := laid_mem hl _ _ hm
  obtain rfl := Option.some.inj (hn.symm.trans h1)
  obtain rfl := Option.some.inj (hT.symm.trans h2)
  have e0 := arr_of_trod hu he hce hct h4
  have c0 : cs = (nums k xs).toArray := by rw [← e0]
  subst c0
  refine ⟨h3, ?_⟩
  obtain ⟨T0, z0, a0⟩ := var_at hn h3
  have hsz : 0 < (nums k xs).toArray.size := by
    obtain ⟨ys, m, hy, hx, hlen, _⟩ := DataW.trod_array hu h4
    have : (nums k xs).toArray.toList.length = N := by rw [hlen, hct]
    simp at this ⊢; omega
  obtain ⟨⟨c, t, hc⟩, -⟩ := hz g 0 (h5 _ (by
    unfold MemPlace.row
    exact List.mem_map.2 ⟨0, List.mem_range.2 hsz, rfl⟩))
  rw [a0] at hc
  simp only [Option.some.injEq, Obj.cells.injEq] at hc
  exact ⟨T0, by rw [ArrK, a0, hc.2.2]⟩
theorem gl_of {W : World} {laid : List (String × DataW Unit)} (h : laidMet Tryd.prog laid W) (hr : ("exequatur/hash.rounds", (Rows.laid_exequatur_hash_rounds : DataW Unit)) ∈ laid) (hb : ("exequatur/hash.begin", (Rows.laid_exequatur_hash_begin : DataW Unit)) ∈ laid) : GL W := by
  obtain ⟨_, t1, h1⟩ := arr_laid h (xs := roundsL) (k := .u32) gRounds tRounds Tryd.underlying128 Tryd.underlying79 (by kernel_rfl) (by kernel_rfl) (by decide) hr
  obtain ⟨_, t2, h2⟩ := arr_laid h (xs := beginL) (k := .u32) gBegin tBegin Tryd.underlying111 Tryd.underlying79 (by kernel_rfl) (by kernel_rfl) (by decide) hb
  exact ⟨t2, t1, h2, h1⟩
theorem tPow : (Tryd.prog.globals[2]?).map (·.type) = some 149 := by kernel_rfl
theorem gp_of {W : World} {laid : List (String × DataW Unit)} (h : laidMet Tryd.prog laid W) (hr : ("internal/strconv.uint64pow10", (Rows.laid_internal_strconv_uint64pow10 : DataW Unit)) ∈ laid) : GP W :=
  (arr_laid h (xs := Lib.pow10Tab) (k := .u64) gPow tPow Tryd.underlying149 Tryd.underlying122 (by kernel_rfl) (by kernel_rfl) (by decide) hr).1
def laid5 : List (String × DataW Unit) := [("math/bits.deBruijn32tab", Rows.laid_math_bits_deBruijn32tab), ("math/bits.deBruijn64tab", Rows.laid_math_bits_deBruijn64tab), ("internal/strconv.uint64pow10", Rows.laid_internal_strconv_uint64pow10), ("exequatur/hash.rounds", Rows.laid_exequatur_hash_rounds), ("exequatur/hash.begin", Rows.laid_exequatur_hash_begin)]
theorem of_laid5 {W : World} (h : laidMetH Tryd.prog laid5 W) : GL W ∧ GP W := by
  rw [MakeChecks.laidMetH_plain _ _ _ (by kernel_rfl)] at h
  exact ⟨gl_of h (.tail _ (.tail _ (.tail _ (.head _)))) (.tail _ (.tail _ (.tail _ (.tail _ (.head _))))), gp_of h (.tail _ (.tail _ (.head _)))⟩
theorem door_met5 (os : Os) (args : Array Value) : laidMetH Tryd.prog laid5 ((World.doorLaid Tryd.prog 400 os).forCall (fun _ _ => 0) ⟨#[], args, []⟩).memory :=
  laidMetH_of_parts3 (fuel := 8) (laidMet_of_run' 8 (by kernel_rfl) (by kernel_rfl)) (by kernel_rfl) (by kernel_rfl)
end Go.Proofs.YtpoblffgclmmlaaDoor.X
end
