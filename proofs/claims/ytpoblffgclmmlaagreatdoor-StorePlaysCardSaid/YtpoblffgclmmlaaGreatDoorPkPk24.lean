/- StorePlays: the tied card: whatever the input the law answers true and leaves it alone, the listed tables being as the program's text lays them; conditions: as the row's cells say ('laid') (part 25 of 25). -/
import Derived.Test.YtpoblffgclmmlaaGreatDoorRows
import Derived.WalkKit
import Derived.ProofKit
import Derived.OpenShut
import Derived.ShutString
import Derived.ChangeOld
import Derived.Below
import Derived.SizedLaws
import Derived.Test.YtpoblffgclmmlaaGreatDoorCards
import Derived.Test.YtpoblffgclmmlaaGreatDoorTie
import Derived.SevenTiedAt
import Derived.Test.YtpoblffgclmmlaaGreatDoorPkPk22
import Derived.Test.YtpoblffgclmmlaaGreatDoorPkPk23
section
namespace Go.Proofs.YtpoblffgclmmlaaGreatDoor.storePlays
open Go.ChangeShapes Go.WideShapes Go.ChangeAt Go.RowKit
open Go.ChangeMaps (open_string shut_string)
set_option linter.unusedVariables false
theorem own : ownKnob Tryz.prog.godebug = none := by kernel_rfl
theorem laidOut : laidOutB Tryz.prog = true := by kernel_rfl
def IsRow (k : IntKind) (w : World) (a : Option Addr) (len cap : Nat) (zs : List Int) : Prop :=
  (a = none ∧ len = 0 ∧ cap = 0 ∧ zs = []) ∨
  ∃ x, a = some x ∧ len ≤ cap ∧ cap ≤ maxLen ∧ zs.length = cap ∧ (∀ i, i < zs.length → w.cell? (x.add i) = some (.int k (zs.getD i 0))) ∧ ∀ n ∈ zs, (Lit.int k n).wf = true
set_option maxRecDepth 100000 in
theorem lifted (os : Os) (started : os.Started) (H : Type) (enc : TypeId × Value → H) :
    ReturnsInHanded {} Tryz.checked os 3 .any (fun w args => (Rows.storePlaysSpec.pre enc Tryz.prog Tryz.f3 [] false w args ∧ laidMetH Tryz.prog X.laid2 w) ∧ sizedMet enc Tryz.prog Tryz.f3 (OpenSpec.ofChange Rows.storePlaysSpec) false w args) (Rows.storePlaysSpec.post enc Tryz.prog Tryz.f3 false true false false) := by
  refine returnsInHanded_of_change_and (C := Tryz.checked) (X := fun w _ => laidMetH Tryz.prog X.laid2 w) (fun _ _ _ hh h => h.of_heap hh) own started (by kernel_rfl) Tryz.func3
    (ChangeSpec.witness_shaped (enc := enc) (C := Tryz.checked) (os := os) (X := fun w _ => laidMetH Tryz.prog X.laid2 w) false (World.doorLaid Tryz.prog 400 os) #[.slice none 0 0] 8 rfl (World.shaped_of_RefB (by kernel_rfl) (by kernel_rfl)) (by kernel_rfl) (by kernel_rfl) (by kernel_rfl) (X.door_met os _)) ?_
  intro W base args ds gs before hval0 hW hcnd hsz0 hL _
  have hsz : (DataW.weightsEach Tryz.prog (Tryz.f3.params.toList ++ Rows.storePlaysSpec.plain.varTypes Tryz.prog) (ds ++ gs)).all (· ≤ reachBytes) = true := hsz0
  have hval : ∀ (j : Nat) t v, Tryz.f3.params[j]? = some t → args[j]? = some v → Value.okWide Tryz.prog W .any base t v := hval0
  have hW' := hW
  obtain ⟨p, q, hA0, hV, rfl, hfz, hnd⟩ := hW
  have hA : DataW.TrodAll enc Tryz.prog W 0 (fun _ => true) true Tryz.f3.params.toList args.toList ds p := hA0
  rw [Tryz.params3] at hA hval hsz
  obtain ⟨v0, vs0, d0, ds0, p0, q0, hargs, rfl, rfl, h0, r0⟩ := trodAll_cons hA
  obtain ⟨rfl, rfl, rfl⟩ := trodAll_nil r0
  obtain rfl : args = #[v0] := by cases args; simp_all
  obtain ⟨rfl, rfl⟩ := trodVars_none hV
  obtain ⟨a0, len0, cap0, rfl⟩ := okWide_slice Tryz.underlying22 (hval 0 22 v0 rfl rfl)
  have k0 := h0
  have lt0 : ∀ x ∈ p0, x.block < W.heap.size := by obtain ⟨m, hm⟩ := k0; exact DataW.trod_lt m _ _ _ hm
  have w0 : X.ActsIn W a0 len0 cap0 := by
    obtain ⟨fuel, hf⟩ := h0
    exact X.acts_open Tryz.underlying22 Tryz.underlying37 Tryz.underlying35 Tryz.underlying4 Tryz.underlying3 Tryz.underlying3 Tryz.underlying69 Tryz.underlying9 Tryz.underlying9 Tryz.underlying4 (by kernel_rfl) (by kernel_rfl) (by kernel_rfl) (by kernel_rfl) (by kernel_rfl) (by kernel_rfl) hf (fun n hn => of_decide_eq_true (List.all_eq_true.1 hsz n (DataW.weights_mem_each (j := 0) rfl rfl n hn)))
  clear hA0 hval0 hsz0 hsz
  refine (X.StorePlays_in W a0 len0 cap0 w0 (X.of_laid hL)).mono fun e W' ⟨he, bel⟩ => ?_
  subst he
  exact ⟨_, rfl, _, _, _, [], _, [], hW', trodAll_mk1 (shut_bool Tryz.underlying4 _), (trodAll_cons_mk (Below.trod laidOut (by kernel_rfl) (of_decide_eq_true (by kernel_rfl)) k0 bel lt0) trodAll_mk0), rfl, bel.frame _, fun h => by cases h⟩
/-- The row's closed facts, each apart (one by one the kernel has room for them). -/
theorem c1 : Tryz.pinned.checked.prog.funcNamed Rows.storePlaysRow.func = some 3 := by kernel_rfl
set_option maxRecDepth 100000 in
set_option maxHeartbeats 4000000 in
theorem c2 : joinedFacts Tryz.pinned.checked.prog 3 Tryz.f3 Rows.storePlaysSpec Rows.storePlaysRow = true := by
  unfold joinedFacts
  repeat' (with_reducible refine Bool.and_eq_true_iff.mpr ⟨?_, ?_⟩)
  all_goals as_aux_lemma => kernel_rfl
theorem c3 : Tryz.f3.isInstance Tryz.pinned.checked.prog Rows.storePlaysRow.origin Rows.storePlaysRow.targs := of_decide_eq_true (by kernel_rfl)
theorem c4 : Tryz.f3.isWrapper Tryz.pinned.checked.prog Rows.storePlaysRow.wrapper Rows.storePlaysRow.mainSum := by unfold Func.isWrapper; first | (rw [if_pos (by decide +kernel)]; kernel_rfl) | (rw [if_neg (by decide +kernel)]; exact ⟨rfl, rfl⟩)
theorem over : Rows.storePlaysRow.holds Tryz.pinned (OpenSpec.ofChange Rows.storePlaysSpec) :=
  OpenClaim.holds_of_wide 3 Tryz.f3 rfl rfl rfl rfl rfl rfl rfl ⟨rfl, rfl, rfl, rfl, rfl⟩ rfl rfl rfl rfl rfl c1 Tryz.func3 c2 c3 c4
    (fun os started H enc _ => lifted os started H enc)
theorem proved : Rows.StorePlaysSaid := over
#print axioms proved
theorem d1 : Rows.storePlaysRow.wfByText (OpenSpec.ofChange Rows.storePlaysSpec) = true := by kernel_rfl
theorem d2 : Tryz.pinned.checked.prog.mainIs = some (true, "b30eec05ff95a8f29b1ac54e94f6f38516c657bd0d873b5473fa018812c9596f".toList) := by kernel_rfl
theorem d3 : true = Tryz.pinned.checked.prog.looks [] := by kernel_rfl
theorem d4 : ([22].all fun u => !Tryz.prog.wantsStandIn u) = true := by kernel_rfl
theorem d5 : false = Rows.storePlaysRow.goesBy Tryz.pinned.checked.prog := by kernel_rfl
theorem d6 : Tryz.prog.funcNamed "exequatur/exequaturlaw12.StorePlays" = some 3 := by kernel_rfl
end Go.Proofs.YtpoblffgclmmlaaGreatDoor.storePlays
namespace Go.Proofs.YtpoblffgclmmlaaGreatDoor
/-- The row, under a short name, for the claim. -/
theorem storePlays_holds : Rows.StorePlaysSaid := storePlays.proved
/-- THE TIED CARD. -/
theorem storePlays_card : Rows.StorePlaysCardSaid :=
  Claim7.holds_tied_plain_at .later [] [.data, .data] true (true, "b30eec05ff95a8f29b1ac54e94f6f38516c657bd0d873b5473fa018812c9596f") true
    storePlays_holds (fun _ h => by cases h) storePlays.d1 (fun _ h => by cases h) storePlays_row_tie rfl ⟨rfl, rfl⟩ storePlays.d2 rfl
    (fun f fn hf hfn => by
      obtain rfl : f = 3 := Option.some.inj (storePlays.d6.symm.trans hf) |>.symm
      obtain rfl : fn = Tryz.f3 := (Option.some.inj (Tryz.func3.symm.trans hfn)).symm
      exact ⟨storePlays.d3, fun j t ht => by
        rw [Tryz.params3] at ht
        have hm := Array.mem_of_getElem? ht
        have hm2 : t ∈ [22] := by simpa using hm
        exact (show Tryz.prog.wantsStandIn t = false by simpa using List.all_eq_true.1 storePlays.d4 t hm2)⟩)
    storePlays.d5
#print axioms storePlays_card
end Go.Proofs.YtpoblffgclmmlaaGreatDoor
end
