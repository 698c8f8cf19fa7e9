/- A part of the proof of a card: what some functions of the program come to, each under the conditions that its theorem names. -/
import Derived.LaidLaws
import Derived.Handed
import Derived.Shelf.Vars
import Derived.Test.YtpoblffgclmmlaaGreatDoorPkPk10
import Derived.Test.YtpoblffgclmmlaaGreatDoorPkPk21
section
set_option linter.unusedVariables false
set_option linter.unusedSimpArgs false
namespace Go.Proofs.YtpoblffgclmmlaaGreatDoor.X
open Go.RowKit Go.ChangeShapes Go.WideShapes Go.ChangeAt Go.Proofs.YtpoblffgclmmlaaGreatDoorW.PrintWords

theorem laid_mem {P : Program} {w : World} : ∀ {laid : List (String × DataW Unit)} {ps : List MemPlace}, DataW.LaidVars P w laid ps → ∀ n d, (n, d) ∈ laid →
  ∃ g t cs fuel p, P.globalNamed n = some g ∧ (P.globals[g]?).map (·.type) = some t ∧ w.var? P n = some cs ∧ DataW.trod (fun _ => ()) P w 0 (fun _ => true) false fuel t cs.toList = some (d, p) ∧ ∀ x ∈ MemPlace.row ⟨g, 0, none⟩ cs.size, x ∈ ps
 | [], _, _, n, d, h => by cases h
 | (n', d') :: r, ps, hl, n, d, h => by
  obtain ⟨g, t, cs, fuel, p, q, h1, h2, h3, h4, h5, rfl⟩ := hl
  rcases List.mem_cons.1 h with e | e
  ·
   simp only [Prod.mk.injEq] at e
   obtain ⟨rfl, rfl⟩ := e
   exact ⟨g, t, cs, fuel, p, h1, h2, h3, h4, fun x hx => List.mem_append_left _ (List.mem_append_left _ hx)⟩
  ·
   obtain ⟨g', t', cs', fuel', p', k1, k2, k3, k4, k5⟩ := laid_mem h5 n d e
   exact ⟨g', t', cs', fuel', p', k1, k2, k3, k4, fun x hx => List.mem_append_right _ (k5 x hx)⟩
theorem arr_laid {W : World} {laid : List (String × DataW Unit)} (h : laidMet Tryz.prog laid W) {n : String} {g T e N : Nat} {xs : List Int} {k : IntKind} (hn : Tryz.prog.globalNamed n = some g) (hT : (Tryz.prog.globals[g]?).map (·.type) = some T)
  (hu : Tryz.prog.underlying T = some (.array N e)) (he : Tryz.prog.underlying e = some (.int k)) (hce : Tryz.prog.cellsOf e = 1) (hct : Tryz.prog.cellsOf T = N) (hN : 0 < N) (hm : (n, DataW.agg (xs.map fun x => .lit (.int k x))) ∈ laid) :
  W.var? Tryz.prog n = some (nums k xs).toArray ∧ ∃ t, ArrK k W g t xs := by
 obtain ⟨ps, hl, _, hz⟩ := h
 obtain ⟨g', t', cs, fuel, p, h1, h2, h3, h4, h5⟩ := laid_mem hl _ _ hm
 obtain rfl := Option.some.inj (hn.symm.trans h1)
 obtain rfl := Option.some.inj (hT.symm.trans h2)
 have e0 := arr_of_trod hu he hce hct h4
 have c0 : cs = (nums k xs).toArray := by rw [← e0]
 subst c0
 refine ⟨h3, ?_⟩
 obtain ⟨T0, z0, a0⟩ := var_at hn h3
 have hsz : 0 < (nums k xs).toArray.size := by
  obtain ⟨ys, m, hy, hx, hlen, _⟩ := DataW.trod_array hu h4
  have : (nums k xs).toArray.toList.length = N := by rw [hlen, hct]
  simp at this ⊢; omega
 obtain ⟨⟨c, t, hc⟩, -⟩ := hz g 0 (h5 _ (by
  unfold MemPlace.row
  exact List.mem_map.2 ⟨0, List.mem_range.2 hsz, rfl⟩))
 rw [a0] at hc
 simp only [Option.some.injEq, Obj.cells.injEq] at hc
 exact ⟨T0, by rw [ArrK, a0, hc.2.2]⟩
theorem gl_of {W : World} {laid : List (String × DataW Unit)} (h : laidMet Tryz.prog laid W) (hr : ("exequatur/hash.rounds", (Rows.laid_exequatur_hash_rounds : DataW Unit)) ∈ laid) (hb : ("exequatur/hash.begin", (Rows.laid_exequatur_hash_begin : DataW Unit)) ∈ laid) : GL W := by
 obtain ⟨_, t1, h1⟩ := arr_laid h (xs := roundsL) (k := .u32) gRounds tRounds Tryz.underlying200 Tryz.underlying178 (by kernel_rfl) (by kernel_rfl) (by decide) hr
 obtain ⟨_, t2, h2⟩ := arr_laid h (xs := beginL) (k := .u32) gBegin tBegin Tryz.underlying201 Tryz.underlying178 (by kernel_rfl) (by kernel_rfl) (by decide) hb
 exact ⟨t2, t1, h2, h1⟩
theorem tPow : (Tryz.prog.globals[2]?).map (·.type) = some 253 := by kernel_rfl
theorem gp_of {W : World} {laid : List (String × DataW Unit)} (h : laidMet Tryz.prog laid W) (hr : ("internal/strconv.uint64pow10", (Rows.laid_internal_strconv_uint64pow10 : DataW Unit)) ∈ laid) : GP W :=
 (arr_laid h (xs := Lib.pow10Tab) (k := .u64) gPow tPow Tryz.underlying253 Tryz.underlying191 (by kernel_rfl) (by kernel_rfl) (by decide) hr).1
end Go.Proofs.YtpoblffgclmmlaaGreatDoor.X
end
