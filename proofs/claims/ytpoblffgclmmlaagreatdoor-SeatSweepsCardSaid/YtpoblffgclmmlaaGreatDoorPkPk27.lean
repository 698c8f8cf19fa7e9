/- SeatSweeps: the tied card: whatever the input the law answers true and leaves it alone, the listed tables being as the program's text lays them; conditions: as the row's cells say ('laid') (part 28 of 28). -/
import Derived.Test.YtpoblffgclmmlaaGreatDoorRows
import Derived.WalkKit
import Derived.ProofKit
import Derived.OpenShut
import Derived.ShutString
import Derived.ChangeOld
import Derived.Below
import Derived.SizedLaws
import Derived.Test.YtpoblffgclmmlaaGreatDoorCards
import Derived.Test.YtpoblffgclmmlaaGreatDoorTie
import Derived.SevenTiedAt
import Derived.Test.YtpoblffgclmmlaaGreatDoorPkPk23
import Derived.Test.YtpoblffgclmmlaaGreatDoorPkPk26
section
namespace Go.Proofs.YtpoblffgclmmlaaGreatDoor.seatSweeps
open Go.ChangeShapes Go.WideShapes Go.ChangeAt Go.RowKit
open Go.ChangeMaps (open_string shut_string)
set_option linter.unusedVariables false
theorem own : ownKnob Tryz.prog.godebug = none := by kernel_rfl
theorem laidOut : laidOutB Tryz.prog = true := by kernel_rfl
def IsRow (k : IntKind) (w : World) (a : Option Addr) (len cap : Nat) (zs : List Int) : Prop :=
  (a = none ∧ len = 0 ∧ cap = 0 ∧ zs = []) ∨
  ∃ x, a = some x ∧ len ≤ cap ∧ cap ≤ maxLen ∧ zs.length = cap ∧ (∀ i, i < zs.length → w.cell? (x.add i) = some (.int k (zs.getD i 0))) ∧ ∀ n ∈ zs, (Lit.int k n).wf = true
set_option maxRecDepth 100000 in
theorem lifted (os : Os) (started : os.Started) (H : Type) (enc : TypeId × Value → H) :
    ReturnsInHanded {} Tryz.checked os 8 .any (fun w args => (Rows.seatSweepsSpec.pre enc Tryz.prog Tryz.f8 [] false w args ∧ laidMetH Tryz.prog X.laid7 w) ∧ sizedMet enc Tryz.prog Tryz.f8 (OpenSpec.ofChange Rows.seatSweepsSpec) false w args) (Rows.seatSweepsSpec.post enc Tryz.prog Tryz.f8 false true false false) := by
  refine X.returnsInHanded_of_change_both (C := Tryz.checked) (X := fun w _ => laidMetH Tryz.prog X.laid7 w) (fun _ _ _ hh h => h.of_heap hh) own started (by kernel_rfl) Tryz.func8
    (ChangeSpec.witness_shaped (enc := enc) (C := Tryz.checked) (os := os) (X := fun w _ => laidMetH Tryz.prog X.laid7 w) false (World.doorLaid Tryz.prog 400 os) #[.slice none 0 0, .int .i64 0] 8 rfl (World.shaped_of_RefB (by kernel_rfl) (by kernel_rfl)) (by kernel_rfl) (by kernel_rfl) (by kernel_rfl) (X.door_met7 os _)) ?_
  intro W base args ds gs before hval0 hW hcnd hsz0 hL hSh _
  have hsz : (DataW.weightsEach Tryz.prog (Tryz.f8.params.toList ++ Rows.seatSweepsSpec.plain.varTypes Tryz.prog) (ds ++ gs)).all (· ≤ reachBytes) = true := hsz0
  have hval : ∀ (j : Nat) t v, Tryz.f8.params[j]? = some t → args[j]? = some v → Value.okWide Tryz.prog W .any base t v := hval0
  have hW' := hW
  obtain ⟨p, q, hA0, hV, rfl, hfz, hnd⟩ := hW
  have hA : DataW.TrodAll enc Tryz.prog W 0 (fun _ => true) true Tryz.f8.params.toList args.toList ds p := hA0
  rw [Tryz.params8] at hA hval hsz
  obtain ⟨v0, vs0, d0, ds0, p0, q0, hargs, rfl, rfl, h0, r0⟩ := trodAll_cons hA
  obtain ⟨v1, vs1, d1, ds1, p1, q1, rfl, rfl, rfl, h1, r1⟩ := trodAll_cons r0
  obtain ⟨rfl, rfl, rfl⟩ := trodAll_nil r1
  obtain rfl : args = #[v0, v1] := by cases args; simp_all
  obtain ⟨rfl, rfl⟩ := trodVars_none hV
  obtain ⟨a0, len0, cap0, rfl⟩ := okWide_slice Tryz.underlying87 (hval 0 87 v0 rfl rfl)
  have k0 := h0
  have lt0 : ∀ x ∈ p0, x.block < W.heap.size := by obtain ⟨m, hm⟩ := k0; exact DataW.trod_lt m _ _ _ hm
  have w0 : X.SessIn W a0 len0 cap0 := by
    obtain ⟨fuel, hf⟩ := h0
    exact X.sess_open Tryz.underlying87 Tryz.underlying72 Tryz.underlying9 Tryz.underlying9 Tryz.underlying9 Tryz.underlying9 Tryz.underlying9 Tryz.underlying9 Tryz.underlying9 Tryz.underlying3 Tryz.underlying9 Tryz.underlying9 Tryz.underlying9 Tryz.underlying3 (by kernel_rfl) (by kernel_rfl) (by kernel_rfl) hf (fun n hn => of_decide_eq_true (List.all_eq_true.1 hsz n (DataW.weights_mem_each (j := 0) rfl rfl n hn)))
  obtain ⟨a1, rfl, rfl, rfl, w1⟩ := open_int Tryz.underlying3 (hval 1 3 v1 rfl rfl) h1
  clear hA0 hval0 hsz0 hsz
  refine (X.SeatSweeps_in W a0 len0 cap0 w0 a1 w1 (X.of_laid7 hL hSh).1 (X.of_laid7 hL hSh).2.1 (X.of_laid7 hL hSh).2.2).mono fun e W' ⟨he, bel⟩ => ?_
  subst he
  exact ⟨_, rfl, _, _, _, [], _, [], hW', trodAll_mk1 (shut_bool Tryz.underlying4 _), (trodAll_cons_mk (Below.trod laidOut (by kernel_rfl) (of_decide_eq_true (by kernel_rfl)) k0 bel lt0) (trodAll_cons_mk (shut_int Tryz.underlying3 w1) trodAll_mk0)), rfl, bel.frame _, fun h => by cases h⟩
/-- The row's closed facts, each apart (one by one the kernel has room for them). -/
theorem c1 : Tryz.pinned.checked.prog.funcNamed Rows.seatSweepsRow.func = some 8 := by kernel_rfl
set_option maxRecDepth 100000 in
set_option maxHeartbeats 4000000 in
theorem c2 : joinedFacts Tryz.pinned.checked.prog 8 Tryz.f8 Rows.seatSweepsSpec Rows.seatSweepsRow = true := by
  unfold joinedFacts
  repeat' (with_reducible refine Bool.and_eq_true_iff.mpr ⟨?_, ?_⟩)
  all_goals as_aux_lemma => kernel_rfl
theorem c3 : Tryz.f8.isInstance Tryz.pinned.checked.prog Rows.seatSweepsRow.origin Rows.seatSweepsRow.targs := of_decide_eq_true (by kernel_rfl)
theorem c4 : Tryz.f8.isWrapper Tryz.pinned.checked.prog Rows.seatSweepsRow.wrapper Rows.seatSweepsRow.mainSum := by unfold Func.isWrapper; first | (rw [if_pos (by decide +kernel)]; kernel_rfl) | (rw [if_neg (by decide +kernel)]; exact ⟨rfl, rfl⟩)
theorem over : Rows.seatSweepsRow.holds Tryz.pinned (OpenSpec.ofChange Rows.seatSweepsSpec) :=
  OpenClaim.holds_of_wide 8 Tryz.f8 rfl rfl rfl rfl rfl rfl rfl ⟨rfl, rfl, rfl, rfl, rfl⟩ rfl rfl rfl rfl rfl c1 Tryz.func8 c2 c3 c4
    (fun os started H enc _ => lifted os started H enc)
theorem proved : Rows.SeatSweepsSaid := over
#print axioms proved
theorem d1 : Rows.seatSweepsRow.wfByText (OpenSpec.ofChange Rows.seatSweepsSpec) = true := by kernel_rfl
theorem d2 : Tryz.pinned.checked.prog.mainIs = some (true, "b30eec05ff95a8f29b1ac54e94f6f38516c657bd0d873b5473fa018812c9596f".toList) := by kernel_rfl
theorem d3 : true = Tryz.pinned.checked.prog.looks [] := by kernel_rfl
theorem d4 : ([87, 3].all fun u => !Tryz.prog.wantsStandIn u) = true := by kernel_rfl
theorem d5 : false = Rows.seatSweepsRow.goesBy Tryz.pinned.checked.prog := by kernel_rfl
theorem d6 : Tryz.prog.funcNamed "exequatur/exequaturlaw19.SeatSweeps" = some 8 := by kernel_rfl
end Go.Proofs.YtpoblffgclmmlaaGreatDoor.seatSweeps
namespace Go.Proofs.YtpoblffgclmmlaaGreatDoor
/-- The row, under a short name, for the claim. -/
theorem seatSweeps_holds : Rows.SeatSweepsSaid := seatSweeps.proved
/-- THE TIED CARD. -/
theorem seatSweeps_card : Rows.SeatSweepsCardSaid :=
  Claim7.holds_tied_plain_at .later [] [.data, .data, .data, .sentinel, .sentinel, .data, .data] true (true, "b30eec05ff95a8f29b1ac54e94f6f38516c657bd0d873b5473fa018812c9596f") true
    seatSweeps_holds (fun _ h => by cases h) seatSweeps.d1 (fun _ h => by cases h) seatSweeps_row_tie rfl ⟨rfl, rfl⟩ seatSweeps.d2 rfl
    (fun f fn hf hfn => by
      obtain rfl : f = 8 := Option.some.inj (seatSweeps.d6.symm.trans hf) |>.symm
      obtain rfl : fn = Tryz.f8 := (Option.some.inj (Tryz.func8.symm.trans hfn)).symm
      exact ⟨seatSweeps.d3, fun j t ht => by
        rw [Tryz.params8] at ht
        have hm := Array.mem_of_getElem? ht
        have hm2 : t ∈ [87, 3] := by simpa using hm
        exact (show Tryz.prog.wantsStandIn t = false by simpa using List.all_eq_true.1 seatSweeps.d4 t hm2)⟩)
    seatSweeps.d5
#print axioms seatSweeps_card
end Go.Proofs.YtpoblffgclmmlaaGreatDoor
end
