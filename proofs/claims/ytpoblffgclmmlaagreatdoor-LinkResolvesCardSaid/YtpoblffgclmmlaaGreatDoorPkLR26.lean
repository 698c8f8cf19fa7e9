/- LinkResolves: the tied card: whatever the input the law answers true and leaves it alone, the listed tables being as the program's text lays them; conditions: as the row's cells say ('laid') (part 27 of 27). -/
import Derived.Test.YtpoblffgclmmlaaGreatDoorRows
import Derived.WalkKit
import Derived.ProofKit
import Derived.OpenShut
import Derived.ShutString
import Derived.ChangeOld
import Derived.Below
import Derived.SizedLaws
import Derived.Test.YtpoblffgclmmlaaGreatDoorCards
import Derived.Test.YtpoblffgclmmlaaGreatDoorTie
import Derived.SevenTiedAt
import Derived.Test.YtpoblffgclmmlaaGreatDoorPkLR19
import Derived.Test.YtpoblffgclmmlaaGreatDoorPkLR23
import Derived.Test.YtpoblffgclmmlaaGreatDoorPkLR25
section
namespace Go.Proofs.YtpoblffgclmmlaaGreatDoor.linkResolves
open Go.ChangeShapes Go.WideShapes Go.ChangeAt Go.RowKit
open Go.ChangeMaps (open_string shut_string)
set_option linter.unusedVariables false
theorem own : ownKnob Tryz.prog.godebug = none := by kernel_rfl
theorem laidOut : laidOutB Tryz.prog = true := by kernel_rfl
def IsRow (k : IntKind) (w : World) (a : Option Addr) (len cap : Nat) (zs : List Int) : Prop :=
  (a = none ∧ len = 0 ∧ cap = 0 ∧ zs = []) ∨
  ∃ x, a = some x ∧ len ≤ cap ∧ cap ≤ maxLen ∧ zs.length = cap ∧ (∀ i, i < zs.length → w.cell? (x.add i) = some (.int k (zs.getD i 0))) ∧ ∀ n ∈ zs, (Lit.int k n).wf = true
set_option maxRecDepth 100000 in
theorem lifted (os : Os) (started : os.Started) (H : Type) (enc : TypeId × Value → H) :
    ReturnsInHanded {} Tryz.checked os 4 .any (fun w args => (Rows.linkResolvesSpec.pre enc Tryz.prog Tryz.f4 [] false w args ∧ laidMetH Tryz.prog X.laid5 w) ∧ sizedMet enc Tryz.prog Tryz.f4 (OpenSpec.ofChange Rows.linkResolvesSpec) false w args) (Rows.linkResolvesSpec.post enc Tryz.prog Tryz.f4 false true false false) := by
  refine returnsInHanded_of_change_and (C := Tryz.checked) (X := fun w _ => laidMetH Tryz.prog X.laid5 w) (fun _ _ _ hh h => h.of_heap hh) own started (by kernel_rfl) Tryz.func4
    (ChangeSpec.witness_shaped (enc := enc) (C := Tryz.checked) (os := os) (X := fun w _ => laidMetH Tryz.prog X.laid5 w) false (World.doorLaid Tryz.prog 400 os) #[.slice none 0 0, .agg #[.string ByteArray.empty, .string ByteArray.empty, .string ByteArray.empty, .string ByteArray.empty, .string ByteArray.empty, .bool false, .string ByteArray.empty], .string ByteArray.empty] 8 rfl (World.shaped_of_RefB (by kernel_rfl) (by kernel_rfl)) (by kernel_rfl) (by kernel_rfl) (by kernel_rfl) (X.door_met5 os _)) ?_
  intro W base args ds gs before hval0 hW hcnd hsz0 hL _
  have hsz : (DataW.weightsEach Tryz.prog (Tryz.f4.params.toList ++ Rows.linkResolvesSpec.plain.varTypes Tryz.prog) (ds ++ gs)).all (· ≤ reachBytes) = true := hsz0
  have hval : ∀ (j : Nat) t v, Tryz.f4.params[j]? = some t → args[j]? = some v → Value.okWide Tryz.prog W .any base t v := hval0
  have hW' := hW
  obtain ⟨p, q, hA0, hV, rfl, hfz, hnd⟩ := hW
  have hA : DataW.TrodAll enc Tryz.prog W 0 (fun _ => true) true Tryz.f4.params.toList args.toList ds p := hA0
  rw [Tryz.params4] at hA hval hsz
  obtain ⟨v0, vs0, d0, ds0, p0, q0, hargs, rfl, rfl, h0, r0⟩ := trodAll_cons hA
  obtain ⟨v1, vs1, d1, ds1, p1, q1, rfl, rfl, rfl, h1, r1⟩ := trodAll_cons r0
  obtain ⟨v2, vs2, d2, ds2, p2, q2, rfl, rfl, rfl, h2, r2⟩ := trodAll_cons r1
  obtain ⟨rfl, rfl, rfl⟩ := trodAll_nil r2
  obtain rfl : args = #[v0, v1, v2] := by cases args; simp_all
  obtain ⟨rfl, rfl⟩ := trodVars_none hV
  obtain ⟨a0, len0, cap0, rfl⟩ := okWide_slice Tryz.underlying35 (hval 0 35 v0 rfl rfl)
  have k0 := h0
  have lt0 : ∀ x ∈ p0, x.block < W.heap.size := by obtain ⟨m, hm⟩ := k0; exact DataW.trod_lt m _ _ _ hm
  have w0 : X.ChgsIn W a0 len0 cap0 := by
    obtain ⟨fuel, hf⟩ := h0
    exact X.chgs_open Tryz.underlying35 Tryz.underlying69 Tryz.underlying9 Tryz.underlying9 Tryz.underlying4 (by kernel_rfl) (by kernel_rfl) (by kernel_rfl) hf (fun n hn => of_decide_eq_true (List.all_eq_true.1 hsz n (DataW.weights_mem_each (j := 0) rfl rfl n hn)))
  have k1 := h1
  have lt1 : ∀ x ∈ p1, x.block < W.heap.size := by obtain ⟨m, hm⟩ := k1; exact DataW.trod_lt m _ _ _ hm
  have w1 : X.ConnIn v1 := X.conn_open Tryz.underlying54 (by kernel_rfl) (by kernel_rfl) Tryz.underlying9 Tryz.underlying9 Tryz.underlying9 Tryz.underlying9 Tryz.underlying9 Tryz.underlying4 Tryz.underlying9 (hval 1 54 v1 rfl rfl) h1 (fun n hn => of_decide_eq_true (List.all_eq_true.1 hsz n (DataW.weights_mem_each (j := 1) rfl rfl n hn)))
  obtain ⟨a2, rfl, rfl, rfl, y2⟩ := open_string Tryz.underlying9 (hval 2 9 v2 rfl rfl) h2
  have w2 : a2.size ≤ 140737488351232 := by
    have z := sized_string hsz (j := 2) (t := 9) rfl rfl
    rw [Array.length_toList] at z
    exact z
  clear hA0 hval0 hsz0 hsz
  refine (X.LinkResolves_in W a0 len0 cap0 w0 v1 w1 a2 w2 (X.of_laid5 hL).1 (X.of_laid5 hL).2).mono fun e W' ⟨he, bel⟩ => ?_
  subst he
  exact ⟨_, rfl, _, _, _, [], _, [], hW', trodAll_mk1 (shut_bool Tryz.underlying4 _), (trodAll_cons_mk (Below.trod laidOut (by kernel_rfl) (of_decide_eq_true (by kernel_rfl)) k0 bel lt0) (trodAll_cons_mk (Below.trod laidOut (by kernel_rfl) (of_decide_eq_true (by kernel_rfl)) k1 bel lt1) (trodAll_cons_mk (shut_string Tryz.underlying9 y2) trodAll_mk0))), rfl, bel.frame _, fun h => by cases h⟩
/-- The row's closed facts, each apart (one by one the kernel has room for them). -/
theorem c1 : Tryz.pinned.checked.prog.funcNamed Rows.linkResolvesRow.func = some 4 := by kernel_rfl
set_option maxRecDepth 100000 in
set_option maxHeartbeats 4000000 in
theorem c2 : joinedFacts Tryz.pinned.checked.prog 4 Tryz.f4 Rows.linkResolvesSpec Rows.linkResolvesRow = true := by
  unfold joinedFacts
  repeat' (with_reducible refine Bool.and_eq_true_iff.mpr ⟨?_, ?_⟩)
  all_goals as_aux_lemma => kernel_rfl
theorem c3 : Tryz.f4.isInstance Tryz.pinned.checked.prog Rows.linkResolvesRow.origin Rows.linkResolvesRow.targs := of_decide_eq_true (by kernel_rfl)
theorem c4 : Tryz.f4.isWrapper Tryz.pinned.checked.prog Rows.linkResolvesRow.wrapper Rows.linkResolvesRow.mainSum := by unfold Func.isWrapper; first | (rw [if_pos (by decide +kernel)]; kernel_rfl) | (rw [if_neg (by decide +kernel)]; exact ⟨rfl, rfl⟩)
theorem over : Rows.linkResolvesRow.holds Tryz.pinned (OpenSpec.ofChange Rows.linkResolvesSpec) :=
  OpenClaim.holds_of_wide 4 Tryz.f4 rfl rfl rfl rfl rfl rfl rfl ⟨rfl, rfl, rfl, rfl, rfl⟩ rfl rfl rfl rfl rfl c1 Tryz.func4 c2 c3 c4
    (fun os started H enc _ => lifted os started H enc)
theorem proved : Rows.LinkResolvesSaid := over
#print axioms proved
theorem d1 : Rows.linkResolvesRow.wfByText (OpenSpec.ofChange Rows.linkResolvesSpec) = true := by kernel_rfl
theorem d2 : Tryz.pinned.checked.prog.mainIs = some (true, "b30eec05ff95a8f29b1ac54e94f6f38516c657bd0d873b5473fa018812c9596f".toList) := by kernel_rfl
theorem d3 : true = Tryz.pinned.checked.prog.looks [] := by kernel_rfl
theorem d4 : ([35, 54, 9].all fun u => !Tryz.prog.wantsStandIn u) = true := by kernel_rfl
theorem d5 : false = Rows.linkResolvesRow.goesBy Tryz.pinned.checked.prog := by kernel_rfl
theorem d6 : Tryz.prog.funcNamed "exequatur/exequaturlaw15.LinkResolves" = some 4 := by kernel_rfl
end Go.Proofs.YtpoblffgclmmlaaGreatDoor.linkResolves
namespace Go.Proofs.YtpoblffgclmmlaaGreatDoor
/-- The row, under a short name, for the claim. -/
theorem linkResolves_holds : Rows.LinkResolvesSaid := linkResolves.proved
/-- THE TIED CARD. -/
theorem linkResolves_card : Rows.LinkResolvesCardSaid :=
  Claim7.holds_tied_plain_at .later [] [.data, .data, .data, .data, .data] true (true, "b30eec05ff95a8f29b1ac54e94f6f38516c657bd0d873b5473fa018812c9596f") true
    linkResolves_holds (fun _ h => by cases h) linkResolves.d1 (fun _ h => by cases h) linkResolves_row_tie rfl ⟨rfl, rfl⟩ linkResolves.d2 rfl
    (fun f fn hf hfn => by
      obtain rfl : f = 4 := Option.some.inj (linkResolves.d6.symm.trans hf) |>.symm
      obtain rfl : fn = Tryz.f4 := (Option.some.inj (Tryz.func4.symm.trans hfn)).symm
      exact ⟨linkResolves.d3, fun j t ht => by
        rw [Tryz.params4] at ht
        have hm := Array.mem_of_getElem? ht
        have hm2 : t ∈ [35, 54, 9] := by simpa using hm
        exact (show Tryz.prog.wantsStandIn t = false by simpa using List.all_eq_true.1 linkResolves.d4 t hm2)⟩)
    linkResolves.d5
#print axioms linkResolves_card
end Go.Proofs.YtpoblffgclmmlaaGreatDoor
end
