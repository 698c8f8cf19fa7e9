/- LinkFull: the tied card: whatever the input the law answers true and leaves it alone, the listed tables being as the program's text lays them; conditions: as the row's cells say ('laid') (part 24 of 24). -/
import Derived.Test.YtpoblffgclmmlaaDoorRows
import Derived.WalkKit
import Derived.ProofKit
import Derived.OpenShut
import Derived.ShutString
import Derived.ChangeOld
import Derived.Below
import Derived.SizedLaws
import Derived.Test.YtpoblffgclmmlaaDoorCards
import Derived.Test.YtpoblffgclmmlaaDoorTie
import Derived.SevenTiedAt
import Derived.Test.YtpoblffgclmmlaaDoorPkPlf20
import Derived.Test.YtpoblffgclmmlaaDoorPkPlf22
section
namespace Go.Proofs.YtpoblffgclmmlaaDoor.linkFull
open Go.ChangeShapes Go.WideShapes Go.ChangeAt Go.RowKit
open Go.ChangeMaps (open_string shut_string)
set_option linter.unusedVariables false
theorem own : ownKnob Tryd.prog.godebug = none := by kernel_rfl
theorem laidOut : laidOutB Tryd.prog = true := by kernel_rfl
def IsRow (k : IntKind) (w : World) (a : Option Addr) (len cap : Nat) (zs : List Int) : Prop :=
  (a = none ∧ len = 0 ∧ cap = 0 ∧ zs = []) ∨
  ∃ x, a = some x ∧ len ≤ cap ∧ cap ≤ maxLen ∧ zs.length = cap ∧ (∀ i, i < zs.length → w.cell? (x.add i) = some (.int k (zs.getD i 0))) ∧ ∀ n ∈ zs, (Lit.int k n).wf = true
set_option maxRecDepth 100000 in
theorem lifted (os : Os) (started : os.Started) (H : Type) (enc : TypeId × Value → H) :
    ReturnsInHanded {} Tryd.checked os 3 .any (fun w args => (Rows.linkFullSpec.pre enc Tryd.prog Tryd.f3 [] false w args ∧ laidMetH Tryd.prog X.laid5 w) ∧ sizedMet enc Tryd.prog Tryd.f3 (OpenSpec.ofChange Rows.linkFullSpec) false w args) (Rows.linkFullSpec.post enc Tryd.prog Tryd.f3 false true false false) := by
  refine returnsInHanded_of_change_and (C := Tryd.checked) (X := fun w _ => laidMetH Tryd.prog X.laid5 w) (fun _ _ _ hh h => h.of_heap hh) own started (by kernel_rfl) Tryd.func3
    (ChangeSpec.witness_shaped (enc := enc) (C := Tryd.checked) (os := os) (X := fun w _ => laidMetH Tryd.prog X.laid5 w) false (World.doorLaid Tryd.prog 400 os) #[.int .u8 0, .string ByteArray.empty] 8 rfl (World.shaped_of_RefB (by kernel_rfl) (by kernel_rfl)) (by kernel_rfl) (by kernel_rfl) (by kernel_rfl) (X.door_met5 os _)) ?_
  intro W base args ds gs before hval0 hW hcnd hsz0 hL _
  have hsz : (DataW.weightsEach Tryd.prog (Tryd.f3.params.toList ++ Rows.linkFullSpec.plain.varTypes Tryd.prog) (ds ++ gs)).all (· ≤ reachBytes) = true := hsz0
  have hval : ∀ (j : Nat) t v, Tryd.f3.params[j]? = some t → args[j]? = some v → Value.okWide Tryd.prog W .any base t v := hval0
  have hW' := hW
  obtain ⟨p, q, hA0, hV, rfl, hfz, hnd⟩ := hW
  have hA : DataW.TrodAll enc Tryd.prog W 0 (fun _ => true) true Tryd.f3.params.toList args.toList ds p := hA0
  rw [Tryd.params3] at hA hval hsz
  obtain ⟨v0, vs0, d0, ds0, p0, q0, hargs, rfl, rfl, h0, r0⟩ := trodAll_cons hA
  obtain ⟨v1, vs1, d1, ds1, p1, q1, rfl, rfl, rfl, h1, r1⟩ := trodAll_cons r0
  obtain ⟨rfl, rfl, rfl⟩ := trodAll_nil r1
  obtain rfl : args = #[v0, v1] := by cases args; simp_all
  obtain ⟨rfl, rfl⟩ := trodVars_none hV
  obtain ⟨a0, rfl, rfl, rfl, w0⟩ := open_int Tryd.underlying5 (hval 0 5 v0 rfl rfl) h0
  obtain ⟨a1, rfl, rfl, rfl, y1⟩ := open_string Tryd.underlying9 (hval 1 9 v1 rfl rfl) h1
  have w1 : a1.size ≤ 140737488351232 := by
    have z := sized_string hsz (j := 1) (t := 9) rfl rfl
    rw [Array.length_toList] at z
    exact z
  clear hA0 hval0 hsz0 hsz
  refine (X.LinkFull_in W a0 w0 a1 w1 (X.of_laid5 hL).1 (X.of_laid5 hL).2).mono fun e W' ⟨he, bel⟩ => ?_
  subst he
  exact ⟨_, rfl, _, _, _, [], _, [], hW', trodAll_mk1 (shut_bool Tryd.underlying4 _), (trodAll_cons_mk (shut_int Tryd.underlying5 w0) (trodAll_cons_mk (shut_string Tryd.underlying9 y1) trodAll_mk0)), rfl, bel.frame _, fun h => by cases h⟩
/-- The row's closed facts, each apart (one by one the kernel has room for them). -/
theorem c1 : Tryd.pinned.checked.prog.funcNamed Rows.linkFullRow.func = some 3 := by kernel_rfl
set_option maxRecDepth 100000 in
set_option maxHeartbeats 4000000 in
theorem c2 : joinedFacts Tryd.pinned.checked.prog 3 Tryd.f3 Rows.linkFullSpec Rows.linkFullRow = true := by
  unfold joinedFacts
  repeat' (with_reducible refine Bool.and_eq_true_iff.mpr ⟨?_, ?_⟩)
  all_goals as_aux_lemma => kernel_rfl
theorem c3 : Tryd.f3.isInstance Tryd.pinned.checked.prog Rows.linkFullRow.origin Rows.linkFullRow.targs := of_decide_eq_true (by kernel_rfl)
theorem c4 : Tryd.f3.isWrapper Tryd.pinned.checked.prog Rows.linkFullRow.wrapper Rows.linkFullRow.mainSum := by unfold Func.isWrapper; first | (rw [if_pos (by decide +kernel)]; kernel_rfl) | (rw [if_neg (by decide +kernel)]; exact ⟨rfl, rfl⟩)
theorem over : Rows.linkFullRow.holds Tryd.pinned (OpenSpec.ofChange Rows.linkFullSpec) :=
  OpenClaim.holds_of_wide 3 Tryd.f3 rfl rfl rfl rfl rfl rfl rfl ⟨rfl, rfl, rfl, rfl, rfl⟩ rfl rfl rfl rfl rfl c1 Tryd.func3 c2 c3 c4
    (fun os started H enc _ => lifted os started H enc)
theorem proved : Rows.LinkFullSaid := over
#print axioms proved
theorem d1 : Rows.linkFullRow.wfByText (OpenSpec.ofChange Rows.linkFullSpec) = true := by kernel_rfl
theorem d2 : Tryd.pinned.checked.prog.mainIs = some (true, "b8dd51f18d332f1dfd86fb1b1d721b91348861e575cbdf716677e3a4c728467f".toList) := by kernel_rfl
theorem d3 : true = Tryd.pinned.checked.prog.looks [] := by kernel_rfl
theorem d4 : ([5, 9].all fun u => !Tryd.prog.wantsStandIn u) = true := by kernel_rfl
theorem d5 : false = Rows.linkFullRow.goesBy Tryd.pinned.checked.prog := by kernel_rfl
theorem d6 : Tryd.prog.funcNamed "exequatur/exequaturlaw15.LinkFull" = some 3 := by kernel_rfl
end Go.Proofs.YtpoblffgclmmlaaDoor.linkFull
namespace Go.Proofs.YtpoblffgclmmlaaDoor
/-- The row, under a short name, for the claim. -/
theorem linkFull_holds : Rows.LinkFullSaid := linkFull.proved
/-- THE TIED CARD. -/
theorem linkFull_card : Rows.LinkFullCardSaid :=
  Claim7.holds_tied_plain_at .later [] [.data, .data, .data, .data, .data] true (true, "b8dd51f18d332f1dfd86fb1b1d721b91348861e575cbdf716677e3a4c728467f") true
    linkFull_holds (fun _ h => by cases h) linkFull.d1 (fun _ h => by cases h) linkFull_row_tie rfl ⟨rfl, rfl⟩ linkFull.d2 rfl
    (fun f fn hf hfn => by
      obtain rfl : f = 3 := Option.some.inj (linkFull.d6.symm.trans hf) |>.symm
      obtain rfl : fn = Tryd.f3 := (Option.some.inj (Tryd.func3.symm.trans hfn)).symm
      exact ⟨linkFull.d3, fun j t ht => by
        rw [Tryd.params3] at ht
        have hm := Array.mem_of_getElem? ht
        have hm2 : t ∈ [5, 9] := by simpa using hm
        exact (show Tryd.prog.wantsStandIn t = false by simpa using List.all_eq_true.1 linkFull.d4 t hm2)⟩)
    linkFull.d5
#print axioms linkFull_card
end Go.Proofs.YtpoblffgclmmlaaDoor
end
