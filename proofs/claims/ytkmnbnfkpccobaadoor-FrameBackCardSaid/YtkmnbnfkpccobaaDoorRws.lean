/- An argument that is a slice of slices of bytes: what of it is read, as the printed contracts have it. No program here. -/
import Derived.Test.YtkmnbnfkpccobaaDoorWMore
import Derived.Deep.Matrix
set_option linter.unusedVariables false
set_option linter.unusedSimpArgs false
namespace Go.Proofs.YtkmnbnfkpccobaaDoor.X
open Go.RowKit Go.Proofs.YtkmnbnfkpccobaaDoorW.PrintWords Go.Proofs.YtkmnbnfkpccobaaDoorW.PrintMore

theorem rows_nil (T : Nat) (w : World) : Kd.C (Kd.slice T (Kd.int .u8)) w none 0 ([] : List (List Int)) := ⟨rfl, by simp, fun h => absurd h (by simp)⟩
theorem rows_open {H : Type} {enc : TypeId × Value → H} {P : Program} {w : World} {base : Nat} {held : Bool} {t e q : TypeId} {fuel : Nat} {a : Option Addr} {len cap : Nat} {x : DataW H × List MemPlace} (T : Nat)
    (ht : P.underlying t = some (.slice e)) (he : P.underlying e = some (.slice q)) (hq : P.underlying q = some (.int .u8)) (ce : P.cellsOf e = 1) (cq : P.cellsOf q = 1)
    (h : DataW.trod enc P w base (fun _ => true) held fuel t [.slice a len cap] = some x) :
    ∃ l : List (List Int), len = l.length ∧ Kd.C (Kd.slice T (Kd.int .u8)) w a l.length l ∧ l.length ≤ cap ∧ ∀ r ∈ l, ∀ x ∈ r, (Lit.int .u8 x).wf = true := by
  rcases Deep.open_int_rows ht he hq ce cq h with ⟨hcs, _⟩ | ⟨a', len', cap', A, L, C, Z, hcs, _, hl, hm, _, hr⟩
  · simp only [List.cons.injEq, Value.slice.injEq, and_true] at hcs
    obtain ⟨rfl, rfl, rfl⟩ := hcs
    exact ⟨[], rfl, rows_nil T w, Nat.le_refl _, by simp⟩
  · simp only [List.cons.injEq, Value.slice.injEq, and_true] at hcs
    obtain ⟨rfl, rfl, rfl⟩ := hcs
    have each : ∀ r, r < cap → ∃ y : List Int, L r = y.length ∧ ReadsInt w .u8 (A r) y.length y ∧ y.length ≤ maxLen ∧ (∀ x ∈ y, (Lit.int .u8 x).wf = true) ∧ y.length ≤ C r ∧ w.cell? (a'.add r) = some (.slice (A r) y.length (C r)) := by
      intro r hrc
      obtain ⟨hcell, h1, h2, h3, h4, h5, h6⟩ := hr r hrc
      have hw : (A r = none ∧ L r = 0 ∧ C r = 0 ∧ (if A r = none then [] else Z r) = []) ∨ ∃ x, A r = some x ∧ L r ≤ C r ∧ C r ≤ maxLen ∧ (if A r = none then [] else Z r).length = C r ∧ (∀ i, i < (if A r = none then [] else Z r).length → w.cell? (x.add i) = some (.int .u8 ((if A r = none then [] else Z r).getD i 0))) ∧ ∀ n ∈ (if A r = none then [] else Z r), (Lit.int .u8 n).wf = true := by
        cases hA : A r with
        | none =>
          have := h5 hA
          exact .inl ⟨rfl, by omega, this, by simp⟩
        | some b =>
          refine .inr ⟨b, rfl, h1, h2, ?_⟩
          simp only [reduceCtorEq, if_false]
          exact ⟨h3, fun i hi => (h6 b hA).2 i (by omega), h4⟩
      obtain ⟨y, e1, e2, e3, e4, e5⟩ := ReadsInt.ofRowC hw
      exact ⟨y, e1, e2, e3, e4, e5, by rw [← e1]; exact hcell⟩
    obtain ⟨y, hy⟩ := Deep.choose_lt each
    refine ⟨(List.range len).map y, by simp, ⟨rfl, ?_, fun hp => ⟨a', rfl, fun j p hj => ?_⟩⟩, by simpa using hl, ?_⟩
    · rw [List.length_map, List.length_range]; exact Nat.le_trans hl (Nat.le_trans hm (by decide))
    · have hjl : j < len := by have := (List.getElem?_eq_some_iff.1 hj).1; simpa using this
      rw [List.getElem?_map, List.getElem?_range hjl] at hj
      simp only [Option.map_some, Option.some.injEq] at hj
      subst hj
      obtain ⟨e1, e2, e3, e4, e5, e6⟩ := hy j (by omega)
      refine ⟨[.slice (A j) (y j).length (C j)], rfl, ⟨A j, C j, rfl, e5, Kd.C_of_reads (d := (0 : Int)) (h1 := fun _ => rfl) e2⟩, fun i u hu => ?_⟩
      match i, hu with
      | 0, hu =>
        simp only [List.getElem?_cons_zero, Option.some.injEq] at hu
        subst hu
        show w.cell? (a'.add (j * 1 + 0)) = _
        rw [Nat.mul_one, Nat.add_zero]
        exact e6
    · intro r hr x hx
      simp only [List.mem_map, List.mem_range] at hr
      obtain ⟨j, hj, rfl⟩ := hr
      exact (hy j (by omega)).2.2.2.1 x hx
end Go.Proofs.YtkmnbnfkpccobaaDoor.X
