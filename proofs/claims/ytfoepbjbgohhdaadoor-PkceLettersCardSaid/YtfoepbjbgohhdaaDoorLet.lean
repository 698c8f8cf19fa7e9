/- PkceLetters: a verifier has no other letters than it may have: any byte at any place of a text of 46 digits. -/
import Derived.Test.YtfoepbjbgohhdaaDoorPurePkceRight
import Derived.OpenShut
set_option linter.unusedVariables false
set_option linter.unusedSimpArgs false
namespace Go.Proofs.YtfoepbjbgohhdaaDoor.X
open Go.RowKit Go.Proofs.YtfoepbjbgohhdaaDoor.Q Go.Proofs.YtfoepbjbgohhdaaDoorW.PrintWords Go.Proofs.YtfoepbjbgohhdaaDoorW.PrintLast Go.Proofs.YtfoepbjbgohhdaaDoorW.PrintMore
attribute [local go_sem] max2_int min2_int max_two min_two max_three min_three max_four min_four

def plainZ (c : Int) : Bool := decide (97 ≤ c ∧ c ≤ 122 ∨ 65 ≤ c ∧ c ≤ 90 ∨ 48 ≤ c ∧ c ≤ 57 ∨ c = 45 ∨ c = 46 ∨ c = 95 ∨ c = 126)
theorem plainZ_is (c : UInt8) : plainB c = plainZ (c.toNat : Int) := by
  have h : ∀ n : Fin 256, plainB (UInt8.ofNat n.val) = plainZ (n.val : Int) := by decide +kernel
  have := h ⟨c.toNat, c.toNat_lt⟩
  simpa using this
theorem letters_plain (c : Int) (hc : 0 ≤ c ∧ c ≤ 255) (V : ByteArray) (kk : Nat) (hk : kk ≤ 46) (hV : V = ⟨#[48, 49, 50, 51, 52, 53, 54, 55, 56, 57, 48, 49, 50, 51, 52, 53, 54, 55, 56, 57, 48, 49, 50, 51, 52, 53, 54, 55, 56, 57, 48, 49, 50, 51, 52, 53, 54, 55, 56, 57, 48, 49, 50, 51, 52, 53]⟩) (T : ByteArray) (hT : T = V.extract 0 kk ++ strOfNums [c] ++ V.extract kk 46) : T.data.toList.all plainB = plainZ c := by
  have hv : V.data.toList.all plainB = true := by rw [hV]; decide
  have hsub : ∀ a b, (V.extract a b).data.toList.all plainB = true := by
    intro a b
    rw [ByteArray.data_extract, Array.toList_extract, List.extract_eq_take_drop]
    rw [List.all_eq_true] at hv ⊢
    intro x hx
    exact hv x (List.mem_of_mem_drop (List.mem_of_mem_take hx))
  have hn : c = ((UInt8.ofNat c.toNat).toNat : Int) := by rw [UInt8.toNat_ofNat']; omega
  rw [hT, ByteArray.data_append, ByteArray.data_append, Array.toList_append, Array.toList_append, List.all_append, List.all_append, hsub, hsub, Bool.true_and, Bool.and_true]
  have h1 : (strOfNums [c]).data.toList = [UInt8.ofNat c.toNat] := by simp [strOfNums]
  rw [h1, List.all_cons, List.all_nil, Bool.and_true, plainZ_is, ← hn]
theorem ansC (w : World) (hG : GL w) : Calls Tryd.prog 13 #[] w fun e w' => e = .returned (.bool true) ∧ Below w.heap.size w w' := by
  obtain ⟨k, h⟩ := Ev.rounds Pure.answers9
  exact exequaturlaw09_answers.calls k true w h hG
theorem chalC (v : ByteArray) (hv : v.size ≤ 1000000000) (w : World) (hG : GL w) : Calls Tryd.prog 18 #[.string v] w fun e w' => e = .returned (.string (chalS v)) ∧ Below w.heap.size w w' :=
  pkce_Challenge.calls v (chalS v) w (chal_is v hv) hG
theorem rightC (c v : ByteArray) (hc : c.size ≤ 1000000000) (hv : v.size ≤ 1000000000) (w : World) (hG : GL w) : Calls Tryd.prog 14 #[.string c, .string v] w fun e w' => e = .returned (.bool (rightS c v)) ∧ Below w.heap.size w w' := by
  obtain ⟨k, h⟩ := Ev.rounds (right_is c v hc hv)
  exact pkce_Right.calls k c v _ w h hG
set_option maxHeartbeats 4000000 in
set_option maxRecDepth 100000 in
theorem letters (c a : Int) (hc : 0 ≤ c ∧ c ≤ 255) (ha : 0 ≤ a ∧ a ≤ 255) (w : World) (hG : GL w) : Calls Tryd.prog 7 #[.int .u8 c, .int .u8 a] w fun e w' => e = .returned (.bool true) ∧ Below w.heap.size w w' := by
  go_enter Tryd.func7, Tryd.ntmps7
  go_upto_region 2 with fail
  obtain ⟨V, hV⟩ : ∃ V : ByteArray, V = ⟨#[48, 49, 50, 51, 52, 53, 54, 55, 56, 57, 48, 49, 50, 51, 52, 53, 54, 55, 56, 57, 48, 49, 50, 51, 52, 53, 54, 55, 56, 57, 48, 49, 50, 51, 52, 53, 54, 55, 56, 57, 48, 49, 50, 51, 52, 53]⟩ := ⟨_, rfl⟩
  rw [← hV]
  have hVs : V.size = 46 := by rw [hV]; rfl
  have HV := Lib.hid hV
  clear hV
  go_upto_region 3 with fail
  obtain ⟨kk, hkk, hk⟩ : ∃ kk : Nat, a % 46 = (kk : Int) ∧ kk ≤ 46 := ⟨(a % 46).toNat, by omega, by omega⟩
  rw [hkk]
  clear hkk
  have k0 : ((kk : Int) ≤ 46) = True := eq_true (by omega)
  have g1 : (9223372036854775807 < kk + (strOfNums [c]).size) = False := eq_false (by rw [strOfNums_size]; simp; omega)
  have g2 : (9223372036854775807 < kk + (strOfNums [c]).size + (46 - kk)) = False := eq_false (by rw [strOfNums_size]; simp; omega)
  have hb1 : Below w.heap.size w w.drew := below_drew (Below.refl _ _)
  have hs1 : w.heap.size ≤ w.drew.heap.size := Nat.le_refl _
  refine start_ (n := 12) (S := fun w' => True) (ds := []) #[false, false, false, false, false, false, false, false, false, false, false, false] (by kernel_rfl) rfl rfl trivial (fun hHeld => ?_)
  generalize w.drew = w6 at hb1 hs1 hHeld ⊢
  refine pure_ (i := 0) (N := some 14) (v := ?_) (a' := ?_) #[true, false, false, false, false, false, false, false, false, false, false, false] rfl rfl (by kernel_rfl) (fun _ _ _ h => h) (Or.inl ⟨by rfl, ?_⟩) ?_ ?_
  rotate_left
  · intro w'
    go_simp
    with_reducible rfl
  rotate_left
  · simp only [Act.put, List.setIfInBounds_toArray, List.set_cons_zero, List.set_cons_succ, i64_w, i32_w]
    rfl
  refine pure_ (i := 1) (N := some 15) (v := ?_) (a' := ?_) #[true, true, false, false, false, false, false, false, false, false, false, false] rfl rfl (by kernel_rfl) (fun _ _ _ h => h) (Or.inl ⟨by rfl, ?_⟩) ?_ ?_
  rotate_left
  · intro w'
    go_simp
    with_reducible rfl
  rotate_left
  · simp only [Act.put, List.setIfInBounds_toArray, List.set_cons_zero, List.set_cons_succ, i64_w, i32_w]
    rfl
  refine pure_ (i := 2) (N := some 16) (v := ?_) (a' := ?_) #[true, true, true, false, false, false, false, false, false, false, false, false] rfl rfl (by kernel_rfl) (fun _ _ _ h => h) (Or.inl ⟨by rfl, ?_⟩) ?_ ?_
  rotate_left
  · intro w'
    go_simp
    with_reducible rfl
  rotate_left
  · simp only [Act.put, List.setIfInBounds_toArray, List.set_cons_zero, List.set_cons_succ, i64_w, i32_w]
    rfl
  refine pure_ (i := 3) (N := some 17) (v := ?_) (a' := ?_) #[true, true, true, true, false, false, false, false, false, false, false, false] rfl rfl (by kernel_rfl) (fun _ _ _ h => h) (Or.inl ⟨by rfl, ?_⟩) ?_ ?_
  rotate_left
  · intro w'
    go_simp
    with_reducible rfl
  rotate_left
  · simp only [Act.put, List.setIfInBounds_toArray, List.set_cons_zero, List.set_cons_succ, i64_w, i32_w]
    rfl
  refine pure_ (i := 7) (N := some 21) (v := ?_) (a' := ?_) #[true, true, true, true, false, false, false, true, false, false, false, false] rfl rfl (by kernel_rfl) (fun _ _ _ h => h) (Or.inl ⟨by rfl, ?_⟩) ?_ ?_
  rotate_left
  · intro w'
    go_simp
    with_reducible rfl
  rotate_left
  · simp only [Act.put, List.setIfInBounds_toArray, List.set_cons_zero, List.set_cons_succ, i64_w, i32_w]
    rfl
  refine pure_ (i := 8) (N := some 22) (v := ?_) (a' := ?_) #[true, true, true, true, false, false, false, true, true, false, false, false] rfl rfl (by kernel_rfl) (fun _ _ _ h => h) (Or.inl ⟨by rfl, ?_⟩) ?_ ?_
  rotate_left
  · intro w'
    go_simp
    with_reducible rfl
  rotate_left
  · simp only [Act.put, List.setIfInBounds_toArray, List.set_cons_zero, List.set_cons_succ, i64_w, i32_w]
    rfl
  refine pure_ (i := 9) (N := some 23) (v := ?_) (a' := ?_) #[true, true, true, true, false, false, false, true, true, true, false, false] rfl rfl (by kernel_rfl) (fun _ _ _ h => h) (Or.inl ⟨by rfl, ?_⟩) ?_ ?_
  rotate_left
  · intro w'
    go_simp
    with_reducible rfl
  rotate_left
  · simp only [Act.put, List.setIfInBounds_toArray, List.set_cons_zero, List.set_cons_succ, i64_w, i32_w]
    rfl
  refine one_ (i := 4) (N := some 18) #[true, true, true, true, true, false, false, true, true, true, false, false] rfl rfl (by kernel_rfl) (by decide) (fun K hK => ?_)
  refine Kd.R_lit_step (Kd.int .u8) _ 5 (by rfl) (N := 18) rfl (xs := [c]) (inner := [.int .u8 c]) (ok := fun _ => True) (okp := fun _ => True) ?hr ?hp (fun _ hk => hk) trivial (Below.refl _ _) (Nat.le_refl _) (by simp) ?_
  case hr => first | (go_simp; done) | (go_simp; rfl)
  case hp => exact (Reps.one (show Kd.M (Kd.int .u8) _ _ _ c [.int .u8 c] from rfl) (Reps.none _ _))
  intro v18 w7 ho5 hb7 hg7 hnew7
  clear hg7 hnew7
  have hb7t := below_then hb1 hs1 hb7
  have hs7 := hb7t.size
  have hcv := own_string (P := Tryd.prog) Tryd.underlying27 Tryd.underlying5 Tryd.underlying9 (Kd.own_of_R ho5)
  clear hb1 hs1 hb7 ho5
  refine hK.out _ _ trivial (fun hHeld => ?_)
  clear hK K
  refine norm_ (a' := ?_) ?_ ?_
  rotate_left
  · show Act.put _ (some 18) _ = _
    simp only [Act.put, List.setIfInBounds_toArray, List.set_cons_zero, List.set_cons_succ, i64_w, i32_w]
    rfl
  refine one_ (i := 5) (N := some 19) #[true, true, true, true, true, true, false, true, true, true, false, false] rfl rfl (by kernel_rfl) (by decide) (fun K hK => ?_)
  refine value_ (w1 := ?_) (v := ?_) (by rfl) rfl ?_ ?_
  rotate_left 2
  · go_simp
    constructor
    · rfl
    · rfl
  refine hK.out _ _ trivial (fun hHeld => ?_)
  clear hK K
  refine norm_ (a' := ?_) ?_ ?_
  rotate_left
  · show Act.put _ (some 19) _ = _
    simp only [Act.put, List.setIfInBounds_toArray, List.set_cons_zero, List.set_cons_succ, i64_w, i32_w]
    rfl
  refine pure_ (i := 6) (N := some 20) (v := ?_) (a' := ?_) #[true, true, true, true, true, true, true, true, true, true, false, false] rfl rfl (by kernel_rfl) (fun _ _ _ h => h) (Or.inl ⟨by rfl, ?_⟩) ?_ ?_
  rotate_left
  · intro w'
    go_simp
    with_reducible rfl
  rotate_left
  · simp only [Act.put, List.setIfInBounds_toArray, List.set_cons_zero, List.set_cons_succ, i64_w, i32_w]
    rfl
  refine pure_ (i := 10) (N := some 24) (v := ?_) (a' := ?_) #[true, true, true, true, true, true, true, true, true, true, true, false] rfl rfl (by kernel_rfl) (fun _ _ _ h => h) (Or.inl ⟨by rfl, ?_⟩) ?_ ?_
  rotate_left
  · intro w'
    go_simp
    with_reducible rfl
  rotate_left
  · simp only [Act.put, List.setIfInBounds_toArray, List.set_cons_zero, List.set_cons_succ, i64_w, i32_w]
    rfl
  refine pure_ (i := 11) (N := some 7) (v := ?_) (a' := ?_) #[true, true, true, true, true, true, true, true, true, true, true, true] rfl rfl (by kernel_rfl) (fun _ _ _ h => h) (Or.inl ⟨by rfl, ?_⟩) ?_ ?_
  rotate_left
  · intro w'
    go_simp
    with_reducible rfl
  rotate_left
  · simp only [Act.put, List.setIfInBounds_toArray, List.set_cons_zero, List.set_cons_succ, i64_w, i32_w]
    rfl
  refine done_ (by kernel_rfl) ?_
  clear g1 g2 k0 hcv
  obtain ⟨T, hT⟩ : ∃ T, T = V.extract 0 kk ++ strOfNums [c] ++ V.extract kk 46 := ⟨_, rfl⟩
  rw [← hT]
  have hTs : T.size = 47 := by rw [hT, ByteArray.size_append, ByteArray.size_append, ByteArray.size_extract, ByteArray.size_extract, strOfNums_size, hVs]; simp; omega
  have hTr : rightS (chalS T) T = plainZ c := by
    unfold rightS
    rw [hTs, decide_eq_true (show chalS T = chalS T from rfl), Bool.and_true, decide_eq_true (by omega), Bool.true_and]
    exact letters_plain c hc V kk hk HV T hT
  have HT := Lib.hid hT
  clear hT
  go_upto_region 4 with fail
  go_cut [8] from 9 (fun v8 wx => v8 = .bool (plainZ c) ∧ wx = w7)
  case first =>
    have hiv : c < 45 ∨ (45 ≤ c ∧ c ≤ 45) ∨ (46 ≤ c ∧ c ≤ 46) ∨ (47 ≤ c ∧ c ≤ 47) ∨ (48 ≤ c ∧ c ≤ 57) ∨ (58 ≤ c ∧ c ≤ 64) ∨ (65 ≤ c ∧ c ≤ 90) ∨ (91 ≤ c ∧ c ≤ 94) ∨ (95 ≤ c ∧ c ≤ 95) ∨ (96 ≤ c ∧ c ≤ 96) ∨ (97 ≤ c ∧ c ≤ 122) ∨ (123 ≤ c ∧ c ≤ 125) ∨ (126 ≤ c ∧ c ≤ 126) ∨ 126 < c := by omega
    rcases hiv with hi | hi | hi | hi | hi | hi | hi | hi | hi | hi | hi | hi | hi | hi
    all_goals
      (first | have f97 : decide (97 ≤ c) = true := decide_eq_true (by omega) | have f97 : decide (97 ≤ c) = false := decide_eq_false (by omega))
      (first | have f122 : decide (c ≤ 122) = true := decide_eq_true (by omega) | have f122 : decide (c ≤ 122) = false := decide_eq_false (by omega))
      (first | have f65 : decide (65 ≤ c) = true := decide_eq_true (by omega) | have f65 : decide (65 ≤ c) = false := decide_eq_false (by omega))
      (first | have f90 : decide (c ≤ 90) = true := decide_eq_true (by omega) | have f90 : decide (c ≤ 90) = false := decide_eq_false (by omega))
      (first | have f48 : decide (48 ≤ c) = true := decide_eq_true (by omega) | have f48 : decide (48 ≤ c) = false := decide_eq_false (by omega))
      (first | have f57 : decide (c ≤ 57) = true := decide_eq_true (by omega) | have f57 : decide (c ≤ 57) = false := decide_eq_false (by omega))
      (first | have f45 : (c == 45) = true := beq_iff_eq.mpr (by omega) | have f45 : (c == 45) = false := beq_eq_false_iff_ne.mpr (by omega))
      (first | have f46 : (c == 46) = true := beq_iff_eq.mpr (by omega) | have f46 : (c == 46) = false := beq_eq_false_iff_ne.mpr (by omega))
      (first | have f95 : (c == 95) = true := beq_iff_eq.mpr (by omega) | have f95 : (c == 95) = false := beq_eq_false_iff_ne.mpr (by omega))
      (first | have f126 : (c == 126) = true := beq_iff_eq.mpr (by omega) | have f126 : (c == 126) = false := beq_eq_false_iff_ne.mpr (by omega))
      go_wp2_with fail
      go_meet
      case rel => exact ⟨by simp [plainZ]; omega, rfl⟩
  case rest =>
    obtain ⟨rfl, rfl⟩ := hcut
    have hG1 := hG.below hb7t
    go_wp2_with fail
    refine (ansC wc hG1).mono ?_
    rintro e w1 ⟨rfl, hb1⟩
    have hG2 := hG1.below hb1
    go_wp2_with fail
    refine (chalC T (by rw [hTs]; omega) w1 hG2).mono ?_
    rintro e w2 ⟨rfl, hb2⟩
    have hb2t := below_then hb1 hb1.size hb2
    clear hb2
    go_wp2_with fail
    refine (rightC (chalS T) T (by have := chalS_size T; omega) (by rw [hTs]; omega) w2 (hG1.below hb2t)).mono ?_
    rintro e w3 ⟨rfl, hb3⟩
    have hb3t := below_then hb2t hb2t.size hb3
    go_wp2_with fail
    go_ret
    exact ⟨rfl, below_then hb7t hb7t.size hb3t⟩
theorem letters_walk (a0 a1 : Int) (w : World) (w0 : (Lit.int .u8 a0).wf = true) (w1 : (Lit.int .u8 a1).wf = true) (hGL : GL w) :
    Calls Tryd.prog 7 #[.int .u8 a0, .int .u8 a1] w fun e w' => e = .returned (.bool true) ∧ Below w.heap.size w w' :=
  letters a0 a1 (bounds_u8 w0) (bounds_u8 w1) w hGL
end Go.Proofs.YtfoepbjbgohhdaaDoor.X
