/- LinkResolves: the tied card: whatever the input the law answers true and leaves it alone, the listed tables being as the program's text lays them; conditions: as the row's cells say ('laid') (part 23 of 27). -/
import Derived.Test.YtpoblffgclmmlaaGreatDoorProg
import Derived.Lib.SmallJoins
import Derived.Deep.Fields
import Derived.ChangeSame
import Derived.OpenShut
section
set_option linter.unusedVariables false
set_option linter.unusedSimpArgs false
namespace Go.Proofs.YtpoblffgclmmlaaGreatDoor.X
open Go.Joins Go.ChangeShapes Go.WideShapes Go.RowKit

def ConnIn (v : Value) : Prop := ∃ (x0 : ByteArray) (x1 : ByteArray) (x2 : ByteArray) (x3 : ByteArray) (x4 : ByteArray) (x5 : Bool) (x6 : ByteArray), v = .agg #[.string x0, .string x1, .string x2, .string x3, .string x4, .bool x5, .string x6] ∧ x0.size ≤ 140737488351232 ∧ x1.size ≤ 140737488351232 ∧ x2.size ≤ 140737488351232 ∧ x3.size ≤ 140737488351232 ∧ x4.size ≤ 140737488351232 ∧ x6.size ≤ 140737488351232
theorem conn_open {H : Type} {enc : TypeId × Value → H} {P : Program} {w : World} {base b0 : Nat} {held : Bool} {r : Reach} {t : TypeId} {f0 f1 f2 f3 f4 f5 f6 : Field} {v : Value} {d : DataW H} {p : List MemPlace}
    (hs : P.underlying t = some (.struct #[f0, f1, f2, f3, f4, f5, f6])) (hone : Deep.oneCellFields P #[f0, f1, f2, f3, f4, f5, f6] = true) (hC : P.cellsOf t = 7) (u0 : P.underlying f0.type = some (.string)) (u1 : P.underlying f1.type = some (.string)) (u2 : P.underlying f2.type = some (.string)) (u3 : P.underlying f3.type = some (.string)) (u4 : P.underlying f4.type = some (.string)) (u5 : P.underlying f5.type = some (.bool)) (u6 : P.underlying f6.type = some (.string))
    (hv : Value.okWide P w r b0 t v) (h : DataW.Trod enc P w base (fun _ => true) held t v d p) (hw : ∀ n ∈ d.weights P t, n ≤ reachBytes) : ConnIn v := by
  obtain ⟨cs, rfl, hsz⟩ := okWide_struct hs hv
  obtain ⟨l⟩ := cs
  have hl := hsz.trans hC
  obtain ⟨fuel, hf⟩ := h
  obtain ⟨xs, n, _, hx, _, hlen, hg⟩ := DataW.trod_struct hs hf
  simp only [Prod.mk.injEq] at hx
  have hd := hx.1
  match l, hl with
  | [c0, c1, c2, c3, c4, c5, c6], _ =>
    match xs, hlen, hd with
    | [y0, y1, y2, y3, y4, y5, y6], _, hd =>
      have g0 := hg 0 f0 rfl
      obtain ⟨o0, k0⟩ := Deep.hone_of hone 0 f0 rfl
      rw [o0, k0] at g0
      have g1 := hg 1 f1 rfl
      obtain ⟨o1, k1⟩ := Deep.hone_of hone 1 f1 rfl
      rw [o1, k1] at g1
      have g2 := hg 2 f2 rfl
      obtain ⟨o2, k2⟩ := Deep.hone_of hone 2 f2 rfl
      rw [o2, k2] at g2
      have g3 := hg 3 f3 rfl
      obtain ⟨o3, k3⟩ := Deep.hone_of hone 3 f3 rfl
      rw [o3, k3] at g3
      have g4 := hg 4 f4 rfl
      obtain ⟨o4, k4⟩ := Deep.hone_of hone 4 f4 rfl
      rw [o4, k4] at g4
      have g5 := hg 5 f5 rfl
      obtain ⟨o5, k5⟩ := Deep.hone_of hone 5 f5 rfl
      rw [o5, k5] at g5
      have g6 := hg 6 f6 rfl
      obtain ⟨o6, k6⟩ := Deep.hone_of hone 6 f6 rfl
      rw [o6, k6] at g6
      obtain ⟨s0, e0, z0, _⟩ := DataW.trod_string u0 g0
      obtain ⟨s1, e1, z1, _⟩ := DataW.trod_string u1 g1
      obtain ⟨s2, e2, z2, _⟩ := DataW.trod_string u2 g2
      obtain ⟨s3, e3, z3, _⟩ := DataW.trod_string u3 g3
      obtain ⟨s4, e4, z4, _⟩ := DataW.trod_string u4 g4
      obtain ⟨s5, e5, z5⟩ := DataW.trod_bool u5 g5
      obtain ⟨s6, e6, z6, _⟩ := DataW.trod_string u6 g6
      simp only [List.drop_zero, List.drop_succ_cons, List.take_succ_cons, List.take_zero, List.cons.injEq, and_true, Value.cells] at e0 e1 e2 e3 e4 e5 e6
      subst e0
      subst z0
      subst e1
      subst z1
      subst e2
      subst z2
      subst e3
      subst z3
      subst e4
      subst z4
      subst e5
      subst z5
      subst e6
      subst z6
      rw [hd, DataW.weights, hs] at hw
      have a0 := hw s0.data.toList.length (by simp [DataW.weightsEach, DataW.weights])
      have a1 := hw s1.data.toList.length (by simp [DataW.weightsEach, DataW.weights])
      have a2 := hw s2.data.toList.length (by simp [DataW.weightsEach, DataW.weights])
      have a3 := hw s3.data.toList.length (by simp [DataW.weightsEach, DataW.weights])
      have a4 := hw s4.data.toList.length (by simp [DataW.weightsEach, DataW.weights])
      have a6 := hw s6.data.toList.length (by simp [DataW.weightsEach, DataW.weights])
      simp only [Array.length_toList, reachBytes] at a0 a1 a2 a3 a4 a6
      exact ⟨s0, s1, s2, s3, s4, s5, s6, rfl, a0, a1, a2, a3, a4, a6⟩
end Go.Proofs.YtpoblffgclmmlaaGreatDoor.X
end
