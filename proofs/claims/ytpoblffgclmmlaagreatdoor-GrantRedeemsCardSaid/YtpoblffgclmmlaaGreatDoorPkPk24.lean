/- GrantRedeems: the tied card: whatever the input the law answers true and leaves it alone, the listed tables being as the program's text lays them; conditions: as the row's cells say ('laid') (part 25 of 25). -/
import Derived.Test.YtpoblffgclmmlaaGreatDoorRows
import Derived.WalkKit
import Derived.ProofKit
import Derived.OpenShut
import Derived.ShutString
import Derived.ChangeOld
import Derived.Below
import Derived.SizedLaws
import Derived.Test.YtpoblffgclmmlaaGreatDoorCards
import Derived.Test.YtpoblffgclmmlaaGreatDoorTie
import Derived.SevenTiedAt
import Derived.Test.YtpoblffgclmmlaaGreatDoorPkPk20
import Derived.Test.YtpoblffgclmmlaaGreatDoorPkPk23
section
namespace Go.Proofs.YtpoblffgclmmlaaGreatDoor.grantRedeems
open Go.ChangeShapes Go.WideShapes Go.ChangeAt Go.RowKit
open Go.ChangeMaps (open_string shut_string)
set_option linter.unusedVariables false
theorem own : ownKnob Tryz.prog.godebug = none := by kernel_rfl
theorem laidOut : laidOutB Tryz.prog = true := by kernel_rfl
def IsRow (k : IntKind) (w : World) (a : Option Addr) (len cap : Nat) (zs : List Int) : Prop :=
  (a = none ∧ len = 0 ∧ cap = 0 ∧ zs = []) ∨
  ∃ x, a = some x ∧ len ≤ cap ∧ cap ≤ maxLen ∧ zs.length = cap ∧ (∀ i, i < zs.length → w.cell? (x.add i) = some (.int k (zs.getD i 0))) ∧ ∀ n ∈ zs, (Lit.int k n).wf = true
set_option maxRecDepth 100000 in
theorem lifted (os : Os) (started : os.Started) (H : Type) (enc : TypeId × Value → H) :
    ReturnsInHanded {} Tryz.checked os 15 .any (fun w args => (Rows.grantRedeemsSpec.pre enc Tryz.prog Tryz.f15 [] false w args ∧ laidMetH Tryz.prog X.laid7 w) ∧ sizedMet enc Tryz.prog Tryz.f15 (OpenSpec.ofChange Rows.grantRedeemsSpec) false w args) (Rows.grantRedeemsSpec.post enc Tryz.prog Tryz.f15 false true false false) := by
  refine X.returnsInHanded_of_change_both (C := Tryz.checked) (X := fun w _ => laidMetH Tryz.prog X.laid7 w) (fun _ _ _ hh h => h.of_heap hh) own started (by kernel_rfl) Tryz.func15
    (ChangeSpec.witness_shaped (enc := enc) (C := Tryz.checked) (os := os) (X := fun w _ => laidMetH Tryz.prog X.laid7 w) false (World.doorLaid Tryz.prog 400 os) #[.agg #[.string ByteArray.empty, .string ByteArray.empty, .string ByteArray.empty, .string ByteArray.empty, .string ByteArray.empty, .string ByteArray.empty, .string ByteArray.empty, .string ByteArray.empty, .string ByteArray.empty, .string ByteArray.empty, .string ByteArray.empty, .int .i64 0, .string ByteArray.empty], .string ByteArray.empty, .string ByteArray.empty, .string ByteArray.empty, .int .i64 0] 8 rfl (World.shaped_of_RefB (by kernel_rfl) (by kernel_rfl)) (by kernel_rfl) (by kernel_rfl) (by kernel_rfl) (X.door_met7 os _)) ?_
  intro W base args ds gs before hval0 hW hcnd hsz0 hL hSh _
  have hsz : (DataW.weightsEach Tryz.prog (Tryz.f15.params.toList ++ Rows.grantRedeemsSpec.plain.varTypes Tryz.prog) (ds ++ gs)).all (· ≤ reachBytes) = true := hsz0
  have hval : ∀ (j : Nat) t v, Tryz.f15.params[j]? = some t → args[j]? = some v → Value.okWide Tryz.prog W .any base t v := hval0
  have hW' := hW
  obtain ⟨p, q, hA0, hV, rfl, hfz, hnd⟩ := hW
  have hA : DataW.TrodAll enc Tryz.prog W 0 (fun _ => true) true Tryz.f15.params.toList args.toList ds p := hA0
  rw [Tryz.params15] at hA hval hsz
  obtain ⟨v0, vs0, d0, ds0, p0, q0, hargs, rfl, rfl, h0, r0⟩ := trodAll_cons hA
  obtain ⟨v1, vs1, d1, ds1, p1, q1, rfl, rfl, rfl, h1, r1⟩ := trodAll_cons r0
  obtain ⟨v2, vs2, d2, ds2, p2, q2, rfl, rfl, rfl, h2, r2⟩ := trodAll_cons r1
  obtain ⟨v3, vs3, d3, ds3, p3, q3, rfl, rfl, rfl, h3, r3⟩ := trodAll_cons r2
  obtain ⟨v4, vs4, d4, ds4, p4, q4, rfl, rfl, rfl, h4, r4⟩ := trodAll_cons r3
  obtain ⟨rfl, rfl, rfl⟩ := trodAll_nil r4
  obtain rfl : args = #[v0, v1, v2, v3, v4] := by cases args; simp_all
  obtain ⟨rfl, rfl⟩ := trodVars_none hV
  have k0 := h0
  have lt0 : ∀ x ∈ p0, x.block < W.heap.size := by obtain ⟨m, hm⟩ := k0; exact DataW.trod_lt m _ _ _ hm
  have w0 : X.CodIn v0 := X.cod_open Tryz.underlying104 (by kernel_rfl) (by kernel_rfl) Tryz.underlying9 Tryz.underlying9 Tryz.underlying9 Tryz.underlying9 Tryz.underlying9 Tryz.underlying9 Tryz.underlying9 Tryz.underlying9 Tryz.underlying9 Tryz.underlying9 Tryz.underlying9 Tryz.underlying3 Tryz.underlying9 (hval 0 104 v0 rfl rfl) h0 (fun n hn => of_decide_eq_true (List.all_eq_true.1 hsz n (DataW.weights_mem_each (j := 0) rfl rfl n hn)))
  obtain ⟨a1, rfl, rfl, rfl, y1⟩ := open_string Tryz.underlying9 (hval 1 9 v1 rfl rfl) h1
  have w1 : a1.size ≤ 140737488351232 := by
    have z := sized_string hsz (j := 1) (t := 9) rfl rfl
    rw [Array.length_toList] at z
    exact z
  obtain ⟨a2, rfl, rfl, rfl, y2⟩ := open_string Tryz.underlying9 (hval 2 9 v2 rfl rfl) h2
  have w2 : a2.size ≤ 140737488351232 := by
    have z := sized_string hsz (j := 2) (t := 9) rfl rfl
    rw [Array.length_toList] at z
    exact z
  obtain ⟨a3, rfl, rfl, rfl, y3⟩ := open_string Tryz.underlying9 (hval 3 9 v3 rfl rfl) h3
  have w3 : a3.size ≤ 140737488351232 := by
    have z := sized_string hsz (j := 3) (t := 9) rfl rfl
    rw [Array.length_toList] at z
    exact z
  obtain ⟨a4, rfl, rfl, rfl, w4⟩ := open_int Tryz.underlying3 (hval 4 3 v4 rfl rfl) h4
  clear hA0 hval0 hsz0 hsz
  refine (X.GrantRedeems_in W v0 w0 a1 w1 a2 w2 a3 w3 a4 w4 (X.of_laid7 hL hSh).1 (X.of_laid7 hL hSh).2.1 (X.of_laid7 hL hSh).2.2).mono fun e W' ⟨he, bel⟩ => ?_
  subst he
  exact ⟨_, rfl, _, _, _, [], _, [], hW', trodAll_mk1 (shut_bool Tryz.underlying4 _), (trodAll_cons_mk (Below.trod laidOut (by kernel_rfl) (of_decide_eq_true (by kernel_rfl)) k0 bel lt0) (trodAll_cons_mk (shut_string Tryz.underlying9 y1) (trodAll_cons_mk (shut_string Tryz.underlying9 y2) (trodAll_cons_mk (shut_string Tryz.underlying9 y3) (trodAll_cons_mk (shut_int Tryz.underlying3 w4) trodAll_mk0))))), rfl, bel.frame _, fun h => by cases h⟩
/-- The row's closed facts, each apart (one by one the kernel has room for them). -/
theorem c1 : Tryz.pinned.checked.prog.funcNamed Rows.grantRedeemsRow.func = some 15 := by kernel_rfl
set_option maxRecDepth 100000 in
set_option maxHeartbeats 4000000 in
theorem c2 : joinedFacts Tryz.pinned.checked.prog 15 Tryz.f15 Rows.grantRedeemsSpec Rows.grantRedeemsRow = true := by
  unfold joinedFacts
  repeat' (with_reducible refine Bool.and_eq_true_iff.mpr ⟨?_, ?_⟩)
  all_goals as_aux_lemma => kernel_rfl
theorem c3 : Tryz.f15.isInstance Tryz.pinned.checked.prog Rows.grantRedeemsRow.origin Rows.grantRedeemsRow.targs := of_decide_eq_true (by kernel_rfl)
theorem c4 : Tryz.f15.isWrapper Tryz.pinned.checked.prog Rows.grantRedeemsRow.wrapper Rows.grantRedeemsRow.mainSum := by unfold Func.isWrapper; first | (rw [if_pos (by decide +kernel)]; kernel_rfl) | (rw [if_neg (by decide +kernel)]; exact ⟨rfl, rfl⟩)
theorem over : Rows.grantRedeemsRow.holds Tryz.pinned (OpenSpec.ofChange Rows.grantRedeemsSpec) :=
  OpenClaim.holds_of_wide 15 Tryz.f15 rfl rfl rfl rfl rfl rfl rfl ⟨rfl, rfl, rfl, rfl, rfl⟩ rfl rfl rfl rfl rfl c1 Tryz.func15 c2 c3 c4
    (fun os started H enc _ => lifted os started H enc)
theorem proved : Rows.GrantRedeemsSaid := over
#print axioms proved
theorem d1 : Rows.grantRedeemsRow.wfByText (OpenSpec.ofChange Rows.grantRedeemsSpec) = true := by kernel_rfl
theorem d2 : Tryz.pinned.checked.prog.mainIs = some (true, "b30eec05ff95a8f29b1ac54e94f6f38516c657bd0d873b5473fa018812c9596f".toList) := by kernel_rfl
theorem d3 : true = Tryz.pinned.checked.prog.looks [] := by kernel_rfl
theorem d4 : ([104, 9, 9, 9, 3].all fun u => !Tryz.prog.wantsStandIn u) = true := by kernel_rfl
theorem d5 : false = Rows.grantRedeemsRow.goesBy Tryz.pinned.checked.prog := by kernel_rfl
theorem d6 : Tryz.prog.funcNamed "exequatur/exequaturlaw20.GrantRedeems" = some 15 := by kernel_rfl
end Go.Proofs.YtpoblffgclmmlaaGreatDoor.grantRedeems
namespace Go.Proofs.YtpoblffgclmmlaaGreatDoor
/-- The row, under a short name, for the claim. -/
theorem grantRedeems_holds : Rows.GrantRedeemsSaid := grantRedeems.proved
/-- THE TIED CARD. -/
theorem grantRedeems_card : Rows.GrantRedeemsCardSaid :=
  Claim7.holds_tied_plain_at .later [] [.data, .data, .data, .sentinel, .sentinel, .data, .data] true (true, "b30eec05ff95a8f29b1ac54e94f6f38516c657bd0d873b5473fa018812c9596f") true
    grantRedeems_holds (fun _ h => by cases h) grantRedeems.d1 (fun _ h => by cases h) grantRedeems_row_tie rfl ⟨rfl, rfl⟩ grantRedeems.d2 rfl
    (fun f fn hf hfn => by
      obtain rfl : f = 15 := Option.some.inj (grantRedeems.d6.symm.trans hf) |>.symm
      obtain rfl : fn = Tryz.f15 := (Option.some.inj (Tryz.func15.symm.trans hfn)).symm
      exact ⟨grantRedeems.d3, fun j t ht => by
        rw [Tryz.params15] at ht
        have hm := Array.mem_of_getElem? ht
        have hm2 : t ∈ [104, 9, 9, 9, 3] := by simpa using hm
        exact (show Tryz.prog.wantsStandIn t = false by simpa using List.all_eq_true.1 grantRedeems.d4 t hm2)⟩)
    grantRedeems.d5
#print axioms grantRedeems_card
end Go.Proofs.YtpoblffgclmmlaaGreatDoor
end
