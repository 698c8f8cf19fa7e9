-- Written by a program of this session (wip/xprint.py) over the kit's print.py; Lean checks it.
import Derived.Test.YtfoepbjbgohhdaaDoorQ0
import Derived.Test.YtfoepbjbgohhdaaDoorQ3
import Derived.Test.YtfoepbjbgohhdaaDoorQ5
import Derived.Test.YtfoepbjbgohhdaaDoorQ6
namespace Go.Proofs.YtfoepbjbgohhdaaDoor.Q
open Go.RowKit Go.Proofs.YtfoepbjbgohhdaaDoorW.PrintWords Go.Proofs.YtfoepbjbgohhdaaDoorW.PrintLast Go.Proofs.YtfoepbjbgohhdaaDoorW.PrintMore
attribute [local go_sem] max2_int min2_int max_two min_two max_three min_three max_four min_four   -- for this text's walks alone
open Go.Proofs.YtfoepbjbgohhdaaDoor.X
set_option linter.unusedVariables false
set_option linter.unusedSimpArgs false

section
attribute [local go_sem] IntKind.wrap_u8 IntKind.wrap_u32
/-! ### exequaturref01_UnB64: function 29 -/
mutual
def exequaturref01_UnB64.l0 : Nat → ByteArray → List Int → Int → Int → Int → Option (ByteArray × Bool)
  | 0, _, _, _, _, _ => none
  | k + 1, x0, x4, x5, x6, x7 => if x7 < (x0.size : Int) then (exequaturref01_UnB64.l1 k x0 x4 x5 x6 x7 (-1) 0) else ((exequaturref01_B64.f k (strOfNums x4)).bind fun t172 => (some (strOfNums x4, (t172.toList == x0.toList))))
def exequaturref01_UnB64.l1 : Nat → ByteArray → List Int → Int → Int → Int → Int → Int → Option (ByteArray × Bool)
  | 0, _, _, _, _, _, _, _ => none
  | k + 1, x0, x4, x5, x6, x7, x8, x9 => if x9 < 64 then ((exequaturref01_sixty.f x9).bind fun t173 => (if 0 ≤ x7 then (if x7 < (x0.size : Int) then (if t173 = (bt x0 x7) then (exequaturref01_UnB64.l1 k x0 x4 x5 x6 x7 x9 (wrap64 (x9 + 1))) else (exequaturref01_UnB64.l1 k x0 x4 x5 x6 x7 x8 (wrap64 (x9 + 1)))) else (none)) else (none))) else (if x8 < 0 then (some ((⟨#[]⟩ : ByteArray), false)) else (if (wrap64 (x6 + 6)) ≥ 8 then (if 0 ≤ (IntKind.u64.wrap (wrap64 ((wrap64 (x6 + 6)) - 8))) then (if x4.length < 140737488355328 then (if (shl .i64 1 (IntKind.u64.wrap (wrap64 ((wrap64 (x6 + 6)) - 8)))) = 0 then (none) else (exequaturref01_UnB64.l0 k x0 (x4 ++ [(shr .i64 (wrap64 ((wrap64 (x5 * 64)) + x8)) (IntKind.u64.wrap (wrap64 ((wrap64 (x6 + 6)) - 8)))) % 256]) (Int.tmod (wrap64 ((wrap64 (x5 * 64)) + x8)) (shl .i64 1 (IntKind.u64.wrap (wrap64 ((wrap64 (x6 + 6)) - 8))))) (wrap64 ((wrap64 (x6 + 6)) - 8)) (wrap64 (x7 + 1)))) else (none)) else (none)) else (exequaturref01_UnB64.l0 k x0 x4 (wrap64 ((wrap64 (x5 * 64)) + x8)) (wrap64 (x6 + 6)) (wrap64 (x7 + 1)))))
end
def exequaturref01_UnB64.f (k : Nat) (a0 : ByteArray) : Option (ByteArray × Bool) := exequaturref01_UnB64.l0 k a0 ([] : List Int) 0 0 0
theorem exequaturref01_UnB64.mono_l : ∀ k, (∀ y0 y1 y2 y3 y4, LeO (exequaturref01_UnB64.l0 k y0 y1 y2 y3 y4) (exequaturref01_UnB64.l0 (k + 1) y0 y1 y2 y3 y4)) ∧ (∀ y0 y1 y2 y3 y4 y5 y6, LeO (exequaturref01_UnB64.l1 k y0 y1 y2 y3 y4 y5 y6) (exequaturref01_UnB64.l1 (k + 1) y0 y1 y2 y3 y4 y5 y6))
  | 0 => ⟨fun _ _ _ _ _ r h => by simp [exequaturref01_UnB64.l0] at h, fun _ _ _ _ _ _ _ r h => by simp [exequaturref01_UnB64.l1] at h⟩
  | k + 1 => by
    obtain ⟨ih0, ih1⟩ := exequaturref01_UnB64.mono_l k
    refine ⟨?_, ?_⟩
    · intro y0 y1 y2 y3 y4
      unfold exequaturref01_UnB64.l0
      repeat' first
      | (with_reducible exact ih0 _ _ _ _ _)
      | (with_reducible exact ih1 _ _ _ _ _ _ _)
      | (with_reducible exact exequaturref01_B64.mono _ _)
      | (with_reducible exact LeO.refl _)
      | (with_reducible exact LeO.none _)
      | (with_reducible refine LeO.ite ?_ ?_)
      | (with_reducible refine LeO.bind ?_ (fun _ => ?_))
      | exact ih0 _ _ _ _ _
      | exact ih1 _ _ _ _ _ _ _
      | exact exequaturref01_B64.mono _ _
      | exact LeO.none _
      | refine LeO.ite ?_ ?_
      | refine LeO.bind ?_ (fun _ => ?_)
    · intro y0 y1 y2 y3 y4 y5 y6
      unfold exequaturref01_UnB64.l1
      repeat' first
      | (with_reducible exact ih0 _ _ _ _ _)
      | (with_reducible exact ih1 _ _ _ _ _ _ _)
      | (with_reducible exact exequaturref01_B64.mono _ _)
      | (with_reducible exact LeO.refl _)
      | (with_reducible exact LeO.none _)
      | (with_reducible refine LeO.ite ?_ ?_)
      | (with_reducible refine LeO.bind ?_ (fun _ => ?_))
      | exact ih0 _ _ _ _ _
      | exact ih1 _ _ _ _ _ _ _
      | exact exequaturref01_B64.mono _ _
      | exact LeO.none _
      | refine LeO.ite ?_ ?_
      | refine LeO.bind ?_ (fun _ => ?_)
theorem exequaturref01_UnB64.mono : ∀ a0 k, LeO (exequaturref01_UnB64.f k a0) (exequaturref01_UnB64.f (k + 1) a0) := by
  intro a0 k
  obtain ⟨ih0, ih1⟩ := exequaturref01_UnB64.mono_l k
  unfold exequaturref01_UnB64.f
  repeat' first
      | (with_reducible exact ih0 _ _ _ _ _)
      | (with_reducible exact ih1 _ _ _ _ _ _ _)
      | (with_reducible exact exequaturref01_B64.mono _ _)
      | (with_reducible exact LeO.refl _)
      | (with_reducible exact LeO.none _)
      | (with_reducible refine LeO.ite ?_ ?_)
      | (with_reducible refine LeO.bind ?_ (fun _ => ?_))
      | exact ih0 _ _ _ _ _
      | exact ih1 _ _ _ _ _ _ _
      | exact exequaturref01_B64.mono _ _
      | exact LeO.none _
      | refine LeO.ite ?_ ?_
      | refine LeO.bind ?_ (fun _ => ?_)
def exequaturref01_UnB64.T19 : Bool × List (List Nat × List Nat) := (true, [([], []), ([0], [0]), ([], []), ([2], [2]), ([3], [3]), ([], []), ([4, 5], [4, 5]), ([1, 4, 0, 1], [1]), ([6, 7, 0, 1, 2, 3, 4, 5, 6, 7], [6])])
def exequaturref01_UnB64.B19 : List Nat := [0, 1, 0, 4, 12, 0, 60, 31, 255]
theorem exequaturref01_UnB64.tab19 : rtab .any (opsOf Tryd.f29 19) = exequaturref01_UnB64.T19 := by kernel_rfl
theorem exequaturref01_UnB64.bits19 : waitsOk exequaturref01_UnB64.T19.2 exequaturref01_UnB64.B19 = true := by kernel_rfl
set_option maxHeartbeats 8000000 in
set_option maxRecDepth 100000 in
theorem exequaturref01_UnB64.calls (k : Nat) (a0 : ByteArray) (r1 : ByteArray) (r2 : Bool) (w : World) (h : exequaturref01_UnB64.f k a0 = some (r1, r2)) :
    Calls Tryd.prog 29 #[.string a0] w fun e w' => e = .returned (.tuple #[.string r1, .bool r2]) ∧ Below w.heap.size w w' := by
  have HB := Aside0.mk (Below.refl w.heap.size w)
  have H : (exequaturref01_UnB64.l0 k a0 ([] : List Int) 0 0 0) = some (r1, r2) := h
  clear h
  have H' := Aside0.mk H
  clear H
  go_enter Tryd.func29, Tryd.ntmps29
  go_wp2
  go_loopg [4, 5, 6, 7] k (fun kq v4 v5 v6 v7 w' => ∃ (x4_1 : List Int) (x5_1 : Int) (x6_1 : Int) (x7_1 : Int), v5 = .int .i64 x5_1 ∧ v6 = .int .i64 x6_1 ∧ v7 = .int .i64 x7_1 ∧ Aside0 (exequaturref01_UnB64.l0 kq a0 x4_1 x5_1 x6_1 x7_1 = some (r1, r2)) ∧ Aside0 (kq ≤ k) ∧ Aside0 (Kd.R (Kd.int .u8) 5 w' w.heap.size (fun _ => True) v4 x4_1) ∧ Aside0 (Below w.heap.size w w'))
  case atStart => exact ⟨(([] : List Int)), (0), (0), (0), (by first | rfl | (simp; done) | (simp [*]; done)), (by first | rfl | (simp; done) | (simp [*]; done)), (by first | rfl | (simp; done) | (simp [*]; done)), H', ⟨Nat.le_refl _⟩, ⟨by first | exact Kd.R_nil _ _ _ _ _ | exact Kd.N_nil _ _ _ _ _ | exact Kd.V_nil _ _ _ _ _ | exact Kd.Q_nil _ _ _ _ _ | exact Kd.S_nil _ _ _ _ _⟩, ⟨by repeat (first | (with_reducible first | exact HB.out | apply below_alloc | apply pw_below_drewN | apply below_drew1) | exact HB.out)⟩⟩
  case round =>
    clear H'
    obtain ⟨x4_1, x5_1, x6_1, x7_1, rfl, rfl, rfl, HA, HK1, HO_4, HB⟩ := hrel
    cases gk with
    | zero => exact absurd HA.out (by simp [exequaturref01_UnB64.l0])
    | succ k1 =>
      have H := HA.out
      clear HA
      simp only [exequaturref01_UnB64.l0] at H
      by_cases c2 : x7_1 < (a0.size : Int)
      · rw [if_pos c2] at H
        have c2b0 : decide (x7_1 < (a0.size : Int)) = true := decide_eq_true c2
        clear c2
        have H' := Aside0.mk H
        clear H
        go_wp2
        go_loopg [8, 9] k1 (fun kq v8 v9 w' => ∃ (x8_2 : Int) (x9_2 : Int), v8 = .int .i64 x8_2 ∧ v9 = .int .i64 x9_2 ∧ Aside0 (exequaturref01_UnB64.l1 kq a0 x4_1 x5_1 x6_1 x7_1 x8_2 x9_2 = some (r1, r2)) ∧ Aside0 (kq ≤ k1) ∧ Aside0 (Kd.R (Kd.int .u8) 5 w' w.heap.size (fun _ => True) u4 x4_1) ∧ Aside0 (Below w.heap.size w w'))
        case atStart => exact ⟨((-1)), (0), (by first | rfl | (simp; done) | (simp [*]; done)), (by first | rfl | (simp; done) | (simp [*]; done)), H', ⟨Nat.le_refl _⟩, ⟨by (with_reducible repeat (first | apply Kd.R_alloc | apply Kd.R_drewN | apply Kd.R_drew)); exact HO_4.out⟩, ⟨by repeat (first | (with_reducible first | exact HB.out | apply below_alloc | apply pw_below_drewN | apply below_drew1) | exact HB.out)⟩⟩
        case round =>
          clear H'
          try clear c2
          try clear c2b0
          try clear p2
          obtain ⟨x8_2, x9_2, rfl, rfl, HA, HK2, HO_4, HB⟩ := hrel
          cases gk with
          | zero => exact absurd HA.out (by simp [exequaturref01_UnB64.l1])
          | succ k2 =>
            have H := HA.out
            clear HA
            simp only [exequaturref01_UnB64.l1] at H
            by_cases c3 : x9_2 < 64
            · rw [if_pos c3] at H
              have c3b0 : decide (x9_2 < 64) = true := decide_eq_true c3
              clear c3
              replace H := Option.bind_eq_some_iff.mp H
              obtain ⟨t173, A40, H⟩ := H
              replace H : (if 0 ≤ x7_1 then (if x7_1 < (a0.size : Int) then (if t173 = (bt a0 x7_1) then (exequaturref01_UnB64.l1 k2 a0 x4_1 x5_1 x6_1 x7_1 x9_2 (wrap64 (x9_2 + 1))) else (exequaturref01_UnB64.l1 k2 a0 x4_1 x5_1 x6_1 x7_1 x8_2 (wrap64 (x9_2 + 1)))) else (none)) else (none)) = some (r1, r2) := H
              have A4 := Aside0.mk A40
              clear A40
              by_cases c5 : 0 ≤ x7_1
              · rw [if_pos c5] at H
                have c5b0 : decide (0 ≤ x7_1) = true := decide_eq_true c5
                clear c5
                by_cases c6 : x7_1 < (a0.size : Int)
                · rw [if_pos c6] at H
                  have c6b0 : decide (x7_1 < (a0.size : Int)) = true := decide_eq_true c6
                  clear c6
                  by_cases c8 : t173 = (bt a0 x7_1)
                  · rw [if_pos c8] at H
                    have c8b0 : (t173 == (bt a0 x7_1)) = true := beq_iff_eq.mpr c8
                    have c8b1 : (t173 != (bt a0 x7_1)) = false := bne_eq_false_iff_eq.mpr c8
                    clear c8
                    have H' := Aside0.mk H
                    clear H
                    try go_wp2
                    have n0_ := Aside0.mk (Kd.R_drew HO_4.out)
                    have n1_ := Aside0.mk (below_drew1 HB.out)
                    clear HO_4
                    clear HB
                    have HO_4 := n0_
                    have HB := n1_
                    clear n0_ n1_
                    have p7 : 0 ≤ (x7_1 : Int) := of_decide_eq_true (by first | (with_reducible assumption) | assumption)
                    have q7 : x7_1 < (a0.size : Int) := of_decide_eq_true (by first | (with_reducible assumption) | assumption)
                    have hx7 := bt_at a0 x7_1
                    replace p7 := eq_true p7
                    replace q7 := eq_true q7
                    refine start_ (n := 6) (S := fun w' => True) (ds := []) #[false, false, false, false, false, false] (by kernel_rfl) rfl rfl trivial (fun hHeld => ?_)
                    generalize wr.drew = w9 at HO_4 HB hHeld ⊢
                    refine pure_ (i := 0) (N := some 20) (v := ?_) (a' := ?_) #[true, false, false, false, false, false] rfl rfl (by kernel_rfl) (fun _ _ _ h => h) (Or.inl ⟨by rfl, ?_⟩) ?_ ?_
                    rotate_left
                    · intro w'
                      go_simp
                      with_reducible rfl
                    rotate_left
                    · simp only [Act.put, List.setIfInBounds_toArray, List.set_cons_zero, List.set_cons_succ, i64_w, i32_w]
                      rfl
                    refine pure_ (i := 2) (N := some 22) (v := ?_) (a' := ?_) #[true, false, true, false, false, false] rfl rfl (by kernel_rfl) (fun _ _ _ h => h) (Or.inl ⟨by rfl, ?_⟩) ?_ ?_
                    rotate_left
                    · intro w'
                      go_simp
                      with_reducible rfl
                    rotate_left
                    · simp only [Act.put, List.setIfInBounds_toArray, List.set_cons_zero, List.set_cons_succ, i64_w, i32_w]
                      rfl
                    refine pure_ (i := 3) (N := some 23) (v := ?_) (a' := ?_) #[true, false, true, true, false, false] rfl rfl (by kernel_rfl) (fun _ _ _ h => h) (Or.inl ⟨by rfl, ?_⟩) ?_ ?_
                    rotate_left
                    · intro w'
                      go_simp
                      with_reducible rfl
                    rotate_left
                    · simp only [Act.put, List.setIfInBounds_toArray, List.set_cons_zero, List.set_cons_succ, i64_w, i32_w]
                      rfl
                    refine take_ (i := 4) (N := some 24) (v := ?_) (a' := ?_) #[true, false, true, true, true, false] rfl rfl (by kernel_rfl) (fun _ _ _ h => h) (Or.inl ⟨by rfl, ?_⟩) hHeld ?_ ?_
                    rotate_left
                    · intro w' _
                      go_simp
                      with_reducible rfl
                    rotate_left
                    · simp only [Act.put, List.setIfInBounds_toArray, List.set_cons_zero, List.set_cons_succ, i64_w, i32_w]
                      rfl
                    refine one_ (i := 1) (N := some 21) #[true, true, true, true, true, false] rfl rfl (by kernel_rfl) (by decide) (fun K hK => ?_)
                    refine goes_ Tryd.func31 (by kernel_rfl) rfl #[.int .i64 x9_2] (by rfl) rfl rfl (by (try simp only [List.map_toArray, List.map_cons, List.map_nil]); first | done | rfl | (simp only [List.length_drop, List.length_take]; rfl)) ?_
                    with_reducible refine (exequaturref01_sixty.calls x9_2 t173 _ A4.out).mono ?_
                    rintro e w' ⟨rfl, ⟨nd, rfl⟩⟩
                    refine ⟨_, rfl, ?_⟩
                    refine hK.out _ _ trivial (fun hHeld => ?_)
                    clear hK K
                    refine norm_ (a' := ?_) ?_ ?_
                    rotate_left
                    · show Act.put _ (some 21) _ = _
                      simp only [Act.put, List.setIfInBounds_toArray, List.set_cons_zero, List.set_cons_succ, i64_w, i32_w]
                      rfl
                    refine pure_ (i := 5) (N := some 25) (v := ?_) (a' := ?_) #[true, true, true, true, true, true] rfl rfl (by kernel_rfl) (fun _ _ _ h => h) (Or.inl ⟨by rfl, ?_⟩) ?_ ?_
                    rotate_left
                    · intro w'
                      go_simp
                      with_reducible rfl
                    rotate_left
                    · simp only [Act.put, List.setIfInBounds_toArray, List.set_cons_zero, List.set_cons_succ, i64_w, i32_w]
                      rfl
                    refine done_ (by kernel_rfl) ?_
                    try go_wp2
                    go_roundg k2
                    case measure => have := HK1.out; have := HK2.out; omega
                    case rel => exact ⟨(x9_2), (wrap64 (x9_2 + 1)), (by first | rfl | (simp; done) | (simp [*]; done)), (by first | rfl | (simp; done) | (simp [*]; done)), H', ⟨by have := HK1.out; have := HK2.out; omega⟩, ⟨by (with_reducible repeat (first | apply Kd.R_alloc | apply Kd.R_drewN | apply Kd.R_drew)); exact HO_4.out⟩, ⟨by repeat (first | (with_reducible first | exact HB.out | apply below_alloc | apply pw_below_drewN | apply below_drew1) | exact HB.out)⟩⟩
                  · rw [if_neg c8] at H
                    have c8b0 : (t173 == (bt a0 x7_1)) = false := beq_eq_false_iff_ne.mpr c8
                    have c8b1 : (t173 != (bt a0 x7_1)) = true := bne_iff_ne.mpr c8
                    have H' := Aside0.mk H
                    clear H
                    try go_wp2
                    have n0_ := Aside0.mk (Kd.R_drew HO_4.out)
                    have n1_ := Aside0.mk (below_drew1 HB.out)
                    clear HO_4
                    clear HB
                    have HO_4 := n0_
                    have HB := n1_
                    clear n0_ n1_
                    have p7 : 0 ≤ (x7_1 : Int) := of_decide_eq_true (by first | (with_reducible assumption) | assumption)
                    have q7 : x7_1 < (a0.size : Int) := of_decide_eq_true (by first | (with_reducible assumption) | assumption)
                    have hx7 := bt_at a0 x7_1
                    replace p7 := eq_true p7
                    replace q7 := eq_true q7
                    refine start_ (n := 6) (S := fun w' => True) (ds := []) #[false, false, false, false, false, false] (by kernel_rfl) rfl rfl trivial (fun hHeld => ?_)
                    generalize wr.drew = w10 at HO_4 HB hHeld ⊢
                    refine pure_ (i := 0) (N := some 20) (v := ?_) (a' := ?_) #[true, false, false, false, false, false] rfl rfl (by kernel_rfl) (fun _ _ _ h => h) (Or.inl ⟨by rfl, ?_⟩) ?_ ?_
                    rotate_left
                    · intro w'
                      go_simp
                      with_reducible rfl
                    rotate_left
                    · simp only [Act.put, List.setIfInBounds_toArray, List.set_cons_zero, List.set_cons_succ, i64_w, i32_w]
                      rfl
                    refine pure_ (i := 2) (N := some 22) (v := ?_) (a' := ?_) #[true, false, true, false, false, false] rfl rfl (by kernel_rfl) (fun _ _ _ h => h) (Or.inl ⟨by rfl, ?_⟩) ?_ ?_
                    rotate_left
                    · intro w'
                      go_simp
                      with_reducible rfl
                    rotate_left
                    · simp only [Act.put, List.setIfInBounds_toArray, List.set_cons_zero, List.set_cons_succ, i64_w, i32_w]
                      rfl
                    refine pure_ (i := 3) (N := some 23) (v := ?_) (a' := ?_) #[true, false, true, true, false, false] rfl rfl (by kernel_rfl) (fun _ _ _ h => h) (Or.inl ⟨by rfl, ?_⟩) ?_ ?_
                    rotate_left
                    · intro w'
                      go_simp
                      with_reducible rfl
                    rotate_left
                    · simp only [Act.put, List.setIfInBounds_toArray, List.set_cons_zero, List.set_cons_succ, i64_w, i32_w]
                      rfl
                    refine take_ (i := 4) (N := some 24) (v := ?_) (a' := ?_) #[true, false, true, true, true, false] rfl rfl (by kernel_rfl) (fun _ _ _ h => h) (Or.inl ⟨by rfl, ?_⟩) hHeld ?_ ?_
                    rotate_left
                    · intro w' _
                      go_simp
                      with_reducible rfl
                    rotate_left
                    · simp only [Act.put, List.setIfInBounds_toArray, List.set_cons_zero, List.set_cons_succ, i64_w, i32_w]
                      rfl
                    refine one_ (i := 1) (N := some 21) #[true, true, true, true, true, false] rfl rfl (by kernel_rfl) (by decide) (fun K hK => ?_)
                    refine goes_ Tryd.func31 (by kernel_rfl) rfl #[.int .i64 x9_2] (by rfl) rfl rfl (by (try simp only [List.map_toArray, List.map_cons, List.map_nil]); first | done | rfl | (simp only [List.length_drop, List.length_take]; rfl)) ?_
                    with_reducible refine (exequaturref01_sixty.calls x9_2 t173 _ A4.out).mono ?_
                    rintro e w' ⟨rfl, ⟨nd, rfl⟩⟩
                    refine ⟨_, rfl, ?_⟩
                    refine hK.out _ _ trivial (fun hHeld => ?_)
                    clear hK K
                    refine norm_ (a' := ?_) ?_ ?_
                    rotate_left
                    · show Act.put _ (some 21) _ = _
                      simp only [Act.put, List.setIfInBounds_toArray, List.set_cons_zero, List.set_cons_succ, i64_w, i32_w]
                      rfl
                    refine pure_ (i := 5) (N := some 25) (v := ?_) (a' := ?_) #[true, true, true, true, true, true] rfl rfl (by kernel_rfl) (fun _ _ _ h => h) (Or.inl ⟨by rfl, ?_⟩) ?_ ?_
                    rotate_left
                    · intro w'
                      go_simp
                      with_reducible rfl
                    rotate_left
                    · simp only [Act.put, List.setIfInBounds_toArray, List.set_cons_zero, List.set_cons_succ, i64_w, i32_w]
                      rfl
                    refine done_ (by kernel_rfl) ?_
                    try go_wp2
                    go_roundg k2
                    case measure => have := HK1.out; have := HK2.out; omega
                    case rel => exact ⟨(x8_2), (wrap64 (x9_2 + 1)), (by first | rfl | (simp; done) | (simp [*]; done)), (by first | rfl | (simp; done) | (simp [*]; done)), H', ⟨by have := HK1.out; have := HK2.out; omega⟩, ⟨by (with_reducible repeat (first | apply Kd.R_alloc | apply Kd.R_drewN | apply Kd.R_drew)); exact HO_4.out⟩, ⟨by repeat (first | (with_reducible first | exact HB.out | apply below_alloc | apply pw_below_drewN | apply below_drew1) | exact HB.out)⟩⟩
                · rw [if_neg c6] at H
                  exact absurd H (by simp)
              · rw [if_neg c5] at H
                exact absurd H (by simp)
            · rw [if_neg c3] at H
              have c3b0 : decide (x9_2 < 64) = false := decide_eq_false c3
              clear c3
              by_cases c11 : x8_2 < 0
              · rw [if_pos c11] at H
                have c11b0 : decide (x8_2 < 0) = true := decide_eq_true c11
                clear c11
                simp only [Option.some.injEq, Prod.mk.injEq] at H
                obtain ⟨rfl, rfl⟩ := H
                go_wp2
                go_ret2
                exact ⟨by first | rfl | (simp [errW_none, errW_some] <;> rfl) | (simp [*, errW_none, errW_some] <;> rfl), by repeat (first | (with_reducible first | exact HB.out | apply below_alloc | apply pw_below_drewN | apply below_drew1) | exact HB.out)⟩
              · rw [if_neg c11] at H
                have c11b0 : decide (x8_2 < 0) = false := decide_eq_false c11
                clear c11
                by_cases c12 : (wrap64 (x6_1 + 6)) ≥ 8
                · rw [if_pos c12] at H
                  have c12b0 : decide (8 ≤ (wrap64 (x6_1 + 6))) = true := decide_eq_true c12
                  clear c12
                  obtain ⟨ji13, hji13⟩ : ∃ j_ : Int, (IntKind.u64.wrap (wrap64 ((wrap64 (x6_1 + 6)) - 8))) = j_ := ⟨_, rfl⟩
                  replace H : (if 0 ≤ (ji13) then (if x4_1.length < 140737488355328 then (if (shl .i64 1 (ji13)) = 0 then (none) else (exequaturref01_UnB64.l0 k2 a0 (x4_1 ++ [(shr .i64 (wrap64 ((wrap64 (x5_1 * 64)) + x8_2)) (ji13)) % 256]) (Int.tmod (wrap64 ((wrap64 (x5_1 * 64)) + x8_2)) (shl .i64 1 (ji13))) (wrap64 ((wrap64 (x6_1 + 6)) - 8)) (wrap64 (x7_1 + 1)))) else (none)) else (none)) = some (r1, r2) := by first | (rw [hji13] at H; exact H) | (simp only [hji13] at H ⊢; exact H)
                  by_cases c14 : 0 ≤ (ji13)
                  · rw [if_pos c14] at H
                    have c14b0 := eq_true c14
                    have c14b1 : decide (0 ≤ (ji13)) = true := decide_eq_true c14
                    clear c14
                    obtain ⟨ji15, hji15⟩ : ∃ j_ : Int, (shr .i64 (wrap64 ((wrap64 (x5_1 * 64)) + x8_2)) (ji13)) = j_ := ⟨_, rfl⟩
                    replace H : (if x4_1.length < 140737488355328 then (if (shl .i64 1 (ji13)) = 0 then (none) else (exequaturref01_UnB64.l0 k2 a0 (x4_1 ++ [(ji15) % 256]) (Int.tmod (wrap64 ((wrap64 (x5_1 * 64)) + x8_2)) (shl .i64 1 (ji13))) (wrap64 ((wrap64 (x6_1 + 6)) - 8)) (wrap64 (x7_1 + 1)))) else (none)) = some (r1, r2) := by first | (rw [hji15] at H; exact H) | (simp only [hji15] at H ⊢; exact H)
                    have hji15_ : ((wrap64 ((wrap64 (x5_1 * 64)) + x8_2)) / 2 ^ min (ji13).toNat 64) = ji15 := hji15
                    have hji15z : (ji13) ≤ 64 → ((wrap64 ((wrap64 (x5_1 * 64)) + x8_2)) / 2 ^ (ji13).toNat) = ji15 := shr_small hji15
                    by_cases c16 : x4_1.length < 140737488355328
                    · rw [if_pos c16] at H
                      have LMc16 := Aside0.mk c16
                      clear c16
                      obtain ⟨y174, hy174⟩ : ∃ y_ : List Int, y_ = (x4_1 ++ [(ji15) % 256]) := ⟨_, rfl⟩
                      replace H : (if (shl .i64 1 (ji13)) = 0 then (none) else (exequaturref01_UnB64.l0 k2 a0 y174 (Int.tmod (wrap64 ((wrap64 (x5_1 * 64)) + x8_2)) (shl .i64 1 (ji13))) (wrap64 ((wrap64 (x6_1 + 6)) - 8)) (wrap64 (x7_1 + 1)))) = some (r1, r2) := by first | (rw [hy174]; with_reducible exact H) | (have H2_ := (Option.bind_some _ _).symm.trans H; rw [hy174]; with_reducible exact H2_) | (have H2_ := (Option.bind_some _ _).symm.trans H; with_reducible exact H2_) | with_reducible exact H | (rw [hy174]; exact H) | exact H
                      have Ny174 := Aside0.mk hy174
                      clear hy174
                      have c17b0 := eq_true (of_decide_eq_true (by first | (with_reducible assumption) | assumption) : 0 ≤ (ji13))
                      obtain ⟨ji18, hji18⟩ : ∃ j_ : Int, (shl .i64 1 (ji13)) = j_ := ⟨_, rfl⟩
                      replace H : (if (ji18) = 0 then (none) else (exequaturref01_UnB64.l0 k2 a0 y174 (Int.tmod (wrap64 ((wrap64 (x5_1 * 64)) + x8_2)) (ji18)) (wrap64 ((wrap64 (x6_1 + 6)) - 8)) (wrap64 (x7_1 + 1)))) = some (r1, r2) := by first | (rw [hji18] at H; exact H) | (simp only [hji18] at H ⊢; exact H)
                      have hji18_ : (IntKind.i64.wrap (1 * 2 ^ min (ji13).toNat 64)) = ji18 := hji18
                      have hji18z : (ji13) ≤ 64 → (IntKind.i64.wrap (1 * 2 ^ (ji13).toNat)) = ji18 := shl_small hji18
                      have hji18u : (IntKind.i64.wrap (2 ^ min (ji13).toNat 64)) = ji18 := by have h_ := hji18_; rw [Int.one_mul] at h_; exact h_
                      have hji18v : (ji13) ≤ 64 → (IntKind.i64.wrap (2 ^ (ji13).toNat)) = ji18 := fun hle_ => by have h_ := hji18z hle_; rw [Int.one_mul] at h_; exact h_
                      have hji18y : (wrap64 (1 * 2 ^ min (ji13).toNat 64)) = ji18 := (i64_w _).symm.trans hji18_
                      have hji18x : (ji13) ≤ 64 → (wrap64 (1 * 2 ^ (ji13).toNat)) = ji18 := fun h_ => (i64_w _).symm.trans (hji18z h_)
                      by_cases c19 : (ji18) = 0
                      · rw [if_pos c19] at H
                        exact absurd H (by simp)
                      · rw [if_neg c19] at H
                        have c19b0 : ((ji18) == 0) = false := beq_eq_false_iff_ne.mpr c19
                        have c19b1 : ((ji18) != 0) = true := bne_iff_ne.mpr c19
                        have H' := Aside0.mk H
                        clear H
                        go_wp2_with (first | ((with_reducible refine gate_builtin (b := .append) (xs := #[.tmp 39, .tmp 45]) rfl ?_); at_builtin; refine Kd.R_append (Kd.int .u8) (w0 := w) w.heap.size rfl (.tmp 39) (.tmp 45) 27 5 (.int .u8 0) 1 rfl Tryd.underlying27 info5 rfl (by decide) (by omega) u4 x4_1 ((ji15) % 256) [.int .u8 ((ji15) % 256)] (fun _ => True) (fun _ => False) rfl rfl ?aP (fun _ hk => hk.elim) ?aF ?aO ?aB ?aS ?aL ?_; (case aP => exact rfl); (case aB => exact (by repeat (first | (with_reducible first | exact HB.out | apply below_alloc | apply pw_below_drewN | apply below_drew1) | exact HB.out))); (case aF => exact (fun _ _ => trivial)); (case aO => exact (by (with_reducible repeat (first | apply Kd.R_alloc | apply Kd.R_drewN | apply Kd.R_drew)); exact HO_4.out)); (case aS => exact (below_size (by repeat (first | (with_reducible first | exact HB.out | apply below_alloc | apply pw_below_drewN | apply below_drew1) | exact HB.out)))); (case aL => have := LMc16.out; omega); intro v175 w20 ho hb hg hat; rw [← Ny174.out] at ho; have n0_ := Aside0.mk (hb); have n1_ := Aside0.mk (ho); clear HB; clear HO_4; have HB := n0_; have HO176 := n1_; clear n0_ n1_; clear ho hb hg hat))
                        go_roundg k2
                        case measure => have := HK1.out; have := HK2.out; omega
                        case rel => exact ⟨(y174), (Int.tmod (wrap64 ((wrap64 (x5_1 * 64)) + x8_2)) (ji18)), (wrap64 ((wrap64 (x6_1 + 6)) - 8)), (wrap64 (x7_1 + 1)), (by first | rfl | (simp; done) | (simp only [← hji18] <;> (first | rfl | simp)) | (simp [*]; done)), (by first | rfl | (simp; done) | (simp [*]; done)), (by first | rfl | (simp; done) | (simp [*]; done)), H', ⟨by have := HK1.out; have := HK2.out; omega⟩, ⟨by (with_reducible repeat (first | apply Kd.R_alloc | apply Kd.R_drewN | apply Kd.R_drew)); exact HO176.out⟩, ⟨by repeat (first | (with_reducible first | exact HB.out | apply below_alloc | apply pw_below_drewN | apply below_drew1) | exact HB.out)⟩⟩
                    · rw [if_neg c16] at H
                      exact absurd H (by simp)
                  · rw [if_neg c14] at H
                    exact absurd H (by simp)
                · rw [if_neg c12] at H
                  have c12b0 : decide (8 ≤ (wrap64 (x6_1 + 6))) = false := decide_eq_false c12
                  clear c12
                  have H' := Aside0.mk H
                  clear H
                  go_wp2
                  go_roundg k2
                  case measure => have := HK1.out; have := HK2.out; omega
                  case rel => exact ⟨(x4_1), (wrap64 ((wrap64 (x5_1 * 64)) + x8_2)), (wrap64 (x6_1 + 6)), (wrap64 (x7_1 + 1)), (by first | rfl | (simp; done) | (simp [*]; done)), (by first | rfl | (simp; done) | (simp [*]; done)), (by first | rfl | (simp; done) | (simp [*]; done)), H', ⟨by have := HK1.out; have := HK2.out; omega⟩, ⟨by (with_reducible repeat (first | apply Kd.R_alloc | apply Kd.R_drewN | apply Kd.R_drew)); exact HO_4.out⟩, ⟨by repeat (first | (with_reducible first | exact HB.out | apply below_alloc | apply pw_below_drewN | apply below_drew1) | exact HB.out)⟩⟩
      · rw [if_neg c2] at H
        have c2b0 : decide (x7_1 < (a0.size : Int)) = false := decide_eq_false c2
        clear c2
        replace H := Option.bind_eq_some_iff.mp H
        obtain ⟨t172, A210, H⟩ := H
        replace H : (some (strOfNums x4_1, (t172.toList == a0.toList))) = some (r1, r2) := H
        have A21 := Aside0.mk A210
        clear A210
        simp only [Option.some.injEq, Prod.mk.injEq] at H
        obtain ⟨rfl, rfl⟩ := H
        try go_wp2
        have n0_ := Aside0.mk (Kd.R_drew HO_4.out)
        have n1_ := Aside0.mk (below_drew1 HB.out)
        clear HO_4
        clear HB
        have HO_4 := n0_
        have HB := n1_
        clear n0_ n1_
        refine start_ (n := 9) (S := fun w' => (Sem.run Tryd.prog (convert 27 9 u4) w') = .ok (.string (strOfNums x4_1)) w' ∧ (Sem.run Tryd.prog (convert 27 9 u4) w') = .ok (.string (strOfNums x4_1)) w') (ds := []) #[false, false, false, false, false, false, false, false, false] (by kernel_rfl) rfl rfl ⟨(own_string (P := Tryd.prog) Tryd.underlying27 Tryd.underlying5 Tryd.underlying9 (Kd.own_of_R HO_4.out)), (own_string (P := Tryd.prog) Tryd.underlying27 Tryd.underlying5 Tryd.underlying9 (Kd.own_of_R HO_4.out))⟩ (fun hHeld => ?_); refine with_tabW exequaturref01_UnB64.tab19 exequaturref01_UnB64.bits19 (fun HT_ HW_ => ?_)
        generalize wr.drew = w22 at HO_4 HB hHeld ⊢
        refine pure_ (i := 0) (N := some 52) (v := ?_) (a' := ?_) #[true, false, false, false, false, false, false, false, false] rfl rfl (any_of HT_.out (by kernel_rfl)) (fun _ _ _ h => h) (Or.inl ⟨by rfl, ?_⟩) ?_ ?_
        rotate_left
        · intro w'
          go_simp
          with_reducible rfl
        rotate_left
        · simp only [Act.put, List.setIfInBounds_toArray, List.set_cons_zero, List.set_cons_succ, i64_w, i32_w]
          rfl
        refine pure_ (i := 2) (N := some 54) (v := ?_) (a' := ?_) #[true, false, true, false, false, false, false, false, false] rfl rfl (any_of HT_.out (by kernel_rfl)) (fun _ _ _ h => h) (Or.inl ⟨by rfl, ?_⟩) ?_ ?_
        rotate_left
        · intro w'
          go_simp
          with_reducible rfl
        rotate_left
        · simp only [Act.put, List.setIfInBounds_toArray, List.set_cons_zero, List.set_cons_succ, i64_w, i32_w]
          rfl
        refine pure_ (i := 5) (N := some 57) (v := ?_) (a' := ?_) #[true, false, true, false, false, true, false, false, false] rfl rfl (any_of HT_.out (by kernel_rfl)) (fun _ _ _ h => h) (Or.inl ⟨by rfl, ?_⟩) ?_ ?_
        rotate_left
        · intro w'
          go_simp
          with_reducible rfl
        rotate_left
        · simp only [Act.put, List.setIfInBounds_toArray, List.set_cons_zero, List.set_cons_succ, i64_w, i32_w]
          rfl
        refine take_ (i := 1) (N := some 53) (v := ?_) (a' := ?_) #[true, true, true, false, false, true, false, false, false] rfl rfl (take_ofW HT_.out HW_.out (by kernel_rfl)) (fun _ _ _ h => h) (Or.inl ⟨by rfl, ?_⟩) hHeld ?_ ?_
        rotate_left
        · rintro w' ⟨s0, s1⟩
          go_simp
          with_reducible rfl
        rotate_left
        · simp only [Act.put, List.setIfInBounds_toArray, List.set_cons_zero, List.set_cons_succ, i64_w, i32_w]
          rfl
        refine take_ (i := 3) (N := some 55) (v := ?_) (a' := ?_) #[true, true, true, true, false, true, false, false, false] rfl rfl (take_ofW HT_.out HW_.out (by kernel_rfl)) (fun _ _ _ h => h) (Or.inl ⟨by rfl, ?_⟩) hHeld ?_ ?_
        rotate_left
        · rintro w' ⟨s0, s1⟩
          go_simp
          with_reducible rfl
        rotate_left
        · simp only [Act.put, List.setIfInBounds_toArray, List.set_cons_zero, List.set_cons_succ, i64_w, i32_w]
          rfl
        refine one_ (i := 4) (N := some 56) #[true, true, true, true, true, true, false, false, false] rfl rfl (one_of HT_.out (by kernel_rfl)) (by decide) (fun K hK => ?_)
        refine goes_ Tryd.func19 (by kernel_rfl) rfl #[.string (strOfNums x4_1)] (by rfl) rfl rfl (by (try simp only [List.map_toArray, List.map_cons, List.map_nil]); first | done | rfl | (simp only [List.length_drop, List.length_take]; rfl)) ?_
        with_reducible refine (exequaturref01_B64.calls k1 (strOfNums x4_1) t172 _ A21.out).mono ?_
        rintro e w23 ⟨rfl, hb⟩
        refine ⟨_, rfl, ?_⟩
        have n0_ := Aside0.mk (Kd.R_below (by (with_reducible repeat (first | apply Kd.R_alloc | apply Kd.R_drewN | apply Kd.R_drew)); exact HO_4.out) hb)
        have n1_ := Aside0.mk (below_step (by repeat (first | (with_reducible first | exact HB.out | apply below_alloc | apply pw_below_drewN | apply below_drew1) | exact HB.out)) hb)
        clear HO_4
        clear HB
        have HO_4 := n0_
        have HB := n1_
        clear n0_ n1_
        (try clear hb)
        (try clear hb2)
        (try clear hk)
        (try clear hi)
        refine hK.out _ _ ⟨(own_string (P := Tryd.prog) Tryd.underlying27 Tryd.underlying5 Tryd.underlying9 (Kd.own_of_R HO_4.out)), (own_string (P := Tryd.prog) Tryd.underlying27 Tryd.underlying5 Tryd.underlying9 (Kd.own_of_R HO_4.out))⟩ (fun hHeld => ?_)
        clear hK K
        refine norm_ (a' := ?_) ?_ ?_
        rotate_left
        · show Act.put _ (some 56) _ = _
          simp only [Act.put, List.setIfInBounds_toArray, List.set_cons_zero, List.set_cons_succ, i64_w, i32_w]
          rfl
        refine pure_ (i := 6) (N := some 58) (v := ?_) (a' := ?_) #[true, true, true, true, true, true, true, false, false] rfl rfl (any_of HT_.out (by kernel_rfl)) (fun _ _ _ h => h) (Or.inl ⟨by rfl, ?_⟩) ?_ ?_
        rotate_left
        · intro w'
          go_simp
          with_reducible rfl
        rotate_left
        · simp only [Act.put, List.setIfInBounds_toArray, List.set_cons_zero, List.set_cons_succ, i64_w, i32_w]
          rfl
        refine pure_ (i := 7) (N := some 2) (v := ?_) (a' := ?_) #[true, true, true, true, true, true, true, true, false] rfl rfl (any_of HT_.out (by kernel_rfl)) (fun _ _ _ h => h) (Or.inl ⟨by rfl, ?_⟩) ?_ ?_
        rotate_left
        · intro w'
          go_simp
          with_reducible rfl
        rotate_left
        · simp only [Act.put, List.setIfInBounds_toArray, List.set_cons_zero, List.set_cons_succ, i64_w, i32_w]
          rfl
        refine pure_ (i := 8) (N := some 3) (v := ?_) (a' := ?_) #[true, true, true, true, true, true, true, true, true] rfl rfl (any_of HT_.out (by kernel_rfl)) (fun _ _ _ h => h) (Or.inl ⟨by rfl, ?_⟩) ?_ ?_
        rotate_left
        · intro w'
          go_simp
          with_reducible rfl
        rotate_left
        · simp only [Act.put, List.setIfInBounds_toArray, List.set_cons_zero, List.set_cons_succ, i64_w, i32_w]
          rfl
        refine done_ (done_of HT_.out (by kernel_rfl)) ?_
        try go_wp2
        go_ret2
        exact ⟨by first | rfl | (simp [errW_none, errW_some] <;> rfl) | (simp [*, errW_none, errW_some] <;> rfl), by repeat (first | (with_reducible first | exact HB.out | apply below_alloc | apply pw_below_drewN | apply below_drew1) | exact HB.out)⟩

end

/-! ### exequaturref01_Good: function 17 -/
def exequaturref01_Good.f (k : Nat) (a0 : ByteArray) : Option (Bool) := (exequaturref01_UnB64.f k a0).bind fun bt177 => (if bt177.2 = true then (some ((bt177.1.size : Int) == 32)) else (some false))
theorem exequaturref01_Good.mono : ∀ a0 k, LeO (exequaturref01_Good.f k a0) (exequaturref01_Good.f (k + 1) a0) := by
  intro a0 k
  unfold exequaturref01_Good.f
  repeat' first
      | (with_reducible exact exequaturref01_UnB64.mono _ _)
      | (with_reducible exact LeO.refl _)
      | (with_reducible exact LeO.none _)
      | (with_reducible refine LeO.ite ?_ ?_)
      | (with_reducible refine LeO.bind ?_ (fun _ => ?_))
      | exact exequaturref01_UnB64.mono _ _
      | exact LeO.none _
      | refine LeO.ite ?_ ?_
      | refine LeO.bind ?_ (fun _ => ?_)
set_option maxHeartbeats 8000000 in
set_option maxRecDepth 100000 in
theorem exequaturref01_Good.calls (k : Nat) (a0 : ByteArray) (r : Bool) (w : World) (h : exequaturref01_Good.f k a0 = some r) :
    Calls Tryd.prog 17 #[.string a0] w fun e w' => e = .returned (.bool r) ∧ Below w.heap.size w w' := by
  have HB := Aside0.mk (Below.refl w.heap.size w)
  have H : ((exequaturref01_UnB64.f k a0).bind fun bt177 => (if bt177.2 = true then (some ((bt177.1.size : Int) == 32)) else (some false))) = some r := h
  clear h
  replace H := Option.bind_eq_some_iff.mp H
  obtain ⟨⟨t177, t178⟩, A20, H⟩ := H
  replace H : (if t178 = true then (some ((t177.size : Int) == 32)) else (some false)) = some r := H
  have A2 := Aside0.mk A20
  clear A20
  by_cases c3 : t178 = true
  · subst c3
    have H1 : (some ((t177.size : Int) == 32)) = some r := by rw [if_pos rfl] at H; exact H
    clear H
    have H := H1
    clear H1
    obtain rfl := Option.some.inj H
    go_enter Tryd.func17, Tryd.ntmps17
    go_wp2_with (first | ((with_reducible refine gate_callee (f := 29) rfl ?_); refine goesL_ (some 7) rfl rfl Tryd.func29 (by kernel_rfl) rfl #[.string a0] rfl (by (try simp only [List.map_toArray, List.map_cons, List.map_nil]); first | done | rfl | (simp only [List.length_drop, List.length_take]; rfl)) ?_; (with_reducible refine (exequaturref01_UnB64.calls k a0 t177 true _ A2.out).mono ?_); rintro e w4 ⟨rfl, hb⟩; refine ⟨_, rfl, ?_⟩; have n0_ := Aside0.mk (below_step (by repeat (first | (with_reducible first | exact HB.out | apply below_alloc | apply pw_below_drewN | apply below_drew1) | exact HB.out)) hb); clear HB; have HB := n0_; clear n0_; (try clear hb); (try clear hb2); (try clear hk); (try clear hi)))
    go_ret
    exact ⟨by first | rfl | (simp [errW_none, errW_some] <;> rfl) | (simp [*, errW_none, errW_some] <;> rfl), by repeat (first | (with_reducible first | exact HB.out | apply below_alloc | apply pw_below_drewN | apply below_drew1) | exact HB.out)⟩
  · replace c3 := Bool.eq_false_iff.mpr c3
    subst c3
    have H1 : (some false) = some r := by rw [if_neg (show ¬ (false = true) by decide)] at H; exact H
    clear H
    have H := H1
    clear H1
    obtain rfl := Option.some.inj H
    go_enter Tryd.func17, Tryd.ntmps17
    go_wp2_with (first | ((with_reducible refine gate_callee (f := 29) rfl ?_); refine goesL_ (some 7) rfl rfl Tryd.func29 (by kernel_rfl) rfl #[.string a0] rfl (by (try simp only [List.map_toArray, List.map_cons, List.map_nil]); first | done | rfl | (simp only [List.length_drop, List.length_take]; rfl)) ?_; (with_reducible refine (exequaturref01_UnB64.calls k a0 t177 false _ A2.out).mono ?_); rintro e w5 ⟨rfl, hb⟩; refine ⟨_, rfl, ?_⟩; have n0_ := Aside0.mk (below_step (by repeat (first | (with_reducible first | exact HB.out | apply below_alloc | apply pw_below_drewN | apply below_drew1) | exact HB.out)) hb); clear HB; have HB := n0_; clear n0_; (try clear hb); (try clear hb2); (try clear hk); (try clear hi)))
    go_ret
    exact ⟨by first | rfl | (simp [errW_none, errW_some] <;> rfl) | (simp [*, errW_none, errW_some] <;> rfl), by repeat (first | (with_reducible first | exact HB.out | apply below_alloc | apply pw_below_drewN | apply below_drew1) | exact HB.out)⟩

/-! ### exequaturlaw09_PkceRight: function 6 -/
def exequaturlaw09_PkceRight.j0 : Nat → ByteArray → ByteArray → Bool → Option (Bool)
  | 0, _, _, _ => none
  | k + 1, x0, x1, x12 => if x12 = true then ((exequaturlaw09_answers.f k).bind fun t179 => (some t179)) else ((exequaturlaw09_answers.f k).bind fun t180 => (if t180 = true then ((pkce_Right.f k x0 x1).bind fun t181 => ((exequaturref01_Right.f k x0 x1).bind fun t182 => (if (t181 == t182) = true then ((pkce_Good.f x0).bind fun t183 => ((exequaturref01_Good.f k x0).bind fun t184 => (if (t183 == t184) = true then ((pkce_Challenge.f x1).bind fun t185 => ((exequaturref01_Sum.f x1).bind fun t186 => ((exequaturref01_B64.f k t186).bind fun t187 => (some (t185.toList == t187.toList))))) else (some false)))) else (some false)))) else (some false)))
def exequaturlaw09_PkceRight.f (k : Nat) (a0 : ByteArray) (a1 : ByteArray) : Option (Bool) := if (a0.size : Int) > 1000 then (exequaturlaw09_PkceRight.j0 k a0 a1 true) else (exequaturlaw09_PkceRight.j0 k a0 a1 (decide ((a1.size : Int) > 1000)))
theorem exequaturlaw09_PkceRight.mono_l : ∀ k, (∀ y0 y1 y2, LeO (exequaturlaw09_PkceRight.j0 k y0 y1 y2) (exequaturlaw09_PkceRight.j0 (k + 1) y0 y1 y2))
  | 0 => fun _ _ _ r h => by simp [exequaturlaw09_PkceRight.j0] at h
  | k + 1 => by
    have ih0 := exequaturlaw09_PkceRight.mono_l k
    · intro y0 y1 y2
      unfold exequaturlaw09_PkceRight.j0
      repeat' first
      | (with_reducible exact ih0 _ _ _)
      | (with_reducible exact exequaturlaw09_answers.mono _)
      | (with_reducible exact exequaturref01_B64.mono _ _)
      | (with_reducible exact exequaturref01_Good.mono _ _)
      | (with_reducible exact exequaturref01_Right.mono _ _ _)
      | (with_reducible exact pkce_Right.mono _ _ _)
      | (with_reducible exact LeO.refl _)
      | (with_reducible exact LeO.none _)
      | (with_reducible refine LeO.ite ?_ ?_)
      | (with_reducible refine LeO.bind ?_ (fun _ => ?_))
      | exact ih0 _ _ _
      | exact exequaturlaw09_answers.mono _
      | exact exequaturref01_B64.mono _ _
      | exact exequaturref01_Good.mono _ _
      | exact exequaturref01_Right.mono _ _ _
      | exact pkce_Right.mono _ _ _
      | exact LeO.none _
      | refine LeO.ite ?_ ?_
      | refine LeO.bind ?_ (fun _ => ?_)
theorem exequaturlaw09_PkceRight.mono : ∀ a0 a1 k, LeO (exequaturlaw09_PkceRight.f k a0 a1) (exequaturlaw09_PkceRight.f (k + 1) a0 a1) := by
  intro a0 a1 k
  have ih0 := exequaturlaw09_PkceRight.mono_l k
  unfold exequaturlaw09_PkceRight.f
  repeat' first
      | (with_reducible exact ih0 _ _ _)
      | (with_reducible exact exequaturlaw09_answers.mono _)
      | (with_reducible exact exequaturref01_B64.mono _ _)
      | (with_reducible exact exequaturref01_Good.mono _ _)
      | (with_reducible exact exequaturref01_Right.mono _ _ _)
      | (with_reducible exact pkce_Right.mono _ _ _)
      | (with_reducible exact LeO.refl _)
      | (with_reducible exact LeO.none _)
      | (with_reducible refine LeO.ite ?_ ?_)
      | (with_reducible refine LeO.bind ?_ (fun _ => ?_))
      | exact ih0 _ _ _
      | exact exequaturlaw09_answers.mono _
      | exact exequaturref01_B64.mono _ _
      | exact exequaturref01_Good.mono _ _
      | exact exequaturref01_Right.mono _ _ _
      | exact pkce_Right.mono _ _ _
      | exact LeO.none _
      | refine LeO.ite ?_ ?_
      | refine LeO.bind ?_ (fun _ => ?_)
set_option maxHeartbeats 8000000 in
set_option maxRecDepth 100000 in
theorem exequaturlaw09_PkceRight.calls (k : Nat) (a0 : ByteArray) (a1 : ByteArray) (r : Bool) (w : World) (h : exequaturlaw09_PkceRight.f k a0 a1 = some r) (hGL : GL w) :
    Calls Tryd.prog 6 #[.string a0, .string a1] w fun e w' => e = .returned (.bool r) ∧ Below w.heap.size w w' := by
  have HGL := Aside0.mk hGL
  clear hGL
  have HB := Aside0.mk (Below.refl w.heap.size w)
  have H : (if (a0.size : Int) > 1000 then (exequaturlaw09_PkceRight.j0 k a0 a1 true) else (exequaturlaw09_PkceRight.j0 k a0 a1 (decide ((a1.size : Int) > 1000)))) = some r := h
  clear h
  have HC3 := Aside0.mk H
  clear H
  go_enter Tryd.func6, Tryd.ntmps6
  go_upto_region 1 with (fail)
  go_cut [12] (fun v12 wc => ∃ (kq : Nat) (x12_2 : Bool), v12 = .bool x12_2 ∧ Aside0 (exequaturlaw09_PkceRight.j0 kq a0 a1 x12_2 = some r) ∧ Aside0 (kq ≤ k) ∧ Aside0 (Below w.heap.size w wc))
  case first =>
    have H := HC3.out
    clear HC3
    by_cases c4 : (a0.size : Int) > 1000
    · rw [if_pos c4] at H
      have c4b0 : decide (1000 < (a0.size : Int)) = true := decide_eq_true c4
      have c4b1 : decide (1000 < a0.size) = true := decide_eq_true (by omega)
      clear c4
      (first | rw [c4b0] | (simp only [i64_w, i32_w]; rw [c4b0]) | skip)
      have H' := Aside0.mk H
      clear H
      go_wp2
      go_meet
      case rel => exact ⟨_, (true), (by first | rfl | (simp; done) | (simp [*]; done)), H', ⟨by first | omega | exact Nat.le_refl _⟩, ⟨by repeat (first | (with_reducible first | exact HB.out | apply below_alloc | apply pw_below_drewN | apply below_drew1) | exact HB.out)⟩⟩
    · rw [if_neg c4] at H
      have c4b0 : decide (1000 < (a0.size : Int)) = false := decide_eq_false c4
      have c4b1 : decide (1000 < a0.size) = false := decide_eq_false (by omega)
      clear c4
      (first | rw [c4b0] | (simp only [i64_w, i32_w]; rw [c4b0]) | skip)
      have H' := Aside0.mk H
      clear H
      go_wp2
      go_meet
      case rel => exact ⟨_, (decide ((a1.size : Int) > 1000)), (by first | rfl | (simp; done) | (simp [*]; done)), H', ⟨by first | omega | exact Nat.le_refl _⟩, ⟨by repeat (first | (with_reducible first | exact HB.out | apply below_alloc | apply pw_below_drewN | apply below_drew1) | exact HB.out)⟩⟩
  case rest =>
    clear HC3
    try clear p2
    try clear c4
    try clear c4b0
    try clear c4b1
    obtain ⟨kq, x12_2, rfl, HA, HJ2, HB⟩ := hcut
    cases kq with
    | zero => exact absurd HA.out (by simp [exequaturlaw09_PkceRight.j0])
    | succ kj2 =>
      have H := HA.out
      clear HA
      simp only [exequaturlaw09_PkceRight.j0] at H
      by_cases c5 : x12_2 = true
      · subst c5
        have H1 : ((exequaturlaw09_answers.f kj2).bind fun t179 => (some t179)) = some r := by rw [if_pos rfl] at H; exact H
        clear H
        have H := H1
        clear H1
        replace H := Option.bind_eq_some_iff.mp H
        obtain ⟨t179, A60, H⟩ := H
        replace H : (some t179) = some r := H
        have A6 := Aside0.mk A60
        clear A60
        obtain rfl := Option.some.inj H
        go_wp2_with (first | ((with_reducible refine gate_callee (f := 13) rfl ?_); refine goesL_ (some 13) rfl rfl Tryd.func13 (by kernel_rfl) rfl #[] rfl (by (try simp only [List.map_toArray, List.map_cons, List.map_nil]); first | done | rfl | (simp only [List.length_drop, List.length_take]; rfl)) ?_; (with_reducible refine (exequaturlaw09_answers.calls kj2  t179 _ A6.out (GL.below HGL.out (by repeat (first | (with_reducible first | exact HB.out | apply below_alloc | apply pw_below_drewN | apply below_drew1) | exact HB.out)))).mono ?_); rintro e w7 ⟨rfl, hb⟩; refine ⟨_, rfl, ?_⟩; have n0_ := Aside0.mk (below_step (by repeat (first | (with_reducible first | exact HB.out | apply below_alloc | apply pw_below_drewN | apply below_drew1) | exact HB.out)) hb); clear HB; have HB := n0_; clear n0_; (try clear hb); (try clear hb2); (try clear hk); (try clear hi)))
        go_ret
        exact ⟨by first | rfl | (simp [errW_none, errW_some] <;> rfl) | (simp [*, errW_none, errW_some] <;> rfl), by repeat (first | (with_reducible first | exact HB.out | apply below_alloc | apply pw_below_drewN | apply below_drew1) | exact HB.out)⟩
      · replace c5 := Bool.eq_false_iff.mpr c5
        subst c5
        have H1 : ((exequaturlaw09_answers.f kj2).bind fun t180 => (if t180 = true then ((pkce_Right.f kj2 a0 a1).bind fun t181 => ((exequaturref01_Right.f kj2 a0 a1).bind fun t182 => (if (t181 == t182) = true then ((pkce_Good.f a0).bind fun t183 => ((exequaturref01_Good.f kj2 a0).bind fun t184 => (if (t183 == t184) = true then ((pkce_Challenge.f a1).bind fun t185 => ((exequaturref01_Sum.f a1).bind fun t186 => ((exequaturref01_B64.f kj2 t186).bind fun t187 => (some (t185.toList == t187.toList))))) else (some false)))) else (some false)))) else (some false))) = some r := by rw [if_neg (show ¬ (false = true) by decide)] at H; exact H
        clear H
        have H := H1
        clear H1
        replace H := Option.bind_eq_some_iff.mp H
        obtain ⟨t180, A80, H⟩ := H
        replace H : (if t180 = true then ((pkce_Right.f kj2 a0 a1).bind fun t181 => ((exequaturref01_Right.f kj2 a0 a1).bind fun t182 => (if (t181 == t182) = true then ((pkce_Good.f a0).bind fun t183 => ((exequaturref01_Good.f kj2 a0).bind fun t184 => (if (t183 == t184) = true then ((pkce_Challenge.f a1).bind fun t185 => ((exequaturref01_Sum.f a1).bind fun t186 => ((exequaturref01_B64.f kj2 t186).bind fun t187 => (some (t185.toList == t187.toList))))) else (some false)))) else (some false)))) else (some false)) = some r := H
        have A8 := Aside0.mk A80
        (try have EA8 := Option.some.inj (A8.out.symm.trans A6.out))
        clear A80
        by_cases c9 : t180 = true
        · subst c9
          have H1 : ((pkce_Right.f kj2 a0 a1).bind fun t181 => ((exequaturref01_Right.f kj2 a0 a1).bind fun t182 => (if (t181 == t182) = true then ((pkce_Good.f a0).bind fun t183 => ((exequaturref01_Good.f kj2 a0).bind fun t184 => (if (t183 == t184) = true then ((pkce_Challenge.f a1).bind fun t185 => ((exequaturref01_Sum.f a1).bind fun t186 => ((exequaturref01_B64.f kj2 t186).bind fun t187 => (some (t185.toList == t187.toList))))) else (some false)))) else (some false)))) = some r := by rw [if_pos rfl] at H; exact H
          clear H
          have H := H1
          clear H1
          replace H := Option.bind_eq_some_iff.mp H
          obtain ⟨t181, A100, H⟩ := H
          replace H : ((exequaturref01_Right.f kj2 a0 a1).bind fun t182 => (if (t181 == t182) = true then ((pkce_Good.f a0).bind fun t183 => ((exequaturref01_Good.f kj2 a0).bind fun t184 => (if (t183 == t184) = true then ((pkce_Challenge.f a1).bind fun t185 => ((exequaturref01_Sum.f a1).bind fun t186 => ((exequaturref01_B64.f kj2 t186).bind fun t187 => (some (t185.toList == t187.toList))))) else (some false)))) else (some false))) = some r := H
          have A10 := Aside0.mk A100
          clear A100
          replace H := Option.bind_eq_some_iff.mp H
          obtain ⟨t182, A110, H⟩ := H
          replace H : (if (t181 == t182) = true then ((pkce_Good.f a0).bind fun t183 => ((exequaturref01_Good.f kj2 a0).bind fun t184 => (if (t183 == t184) = true then ((pkce_Challenge.f a1).bind fun t185 => ((exequaturref01_Sum.f a1).bind fun t186 => ((exequaturref01_B64.f kj2 t186).bind fun t187 => (some (t185.toList == t187.toList))))) else (some false)))) else (some false)) = some r := H
          have A11 := Aside0.mk A110
          clear A110
          by_cases c12 : (t181 == t182) = true
          · rw [if_pos c12] at H
            have c12b0 : (t181 == t182) = true := c12
            (try (have c12b1 : decide (t181 = t182) = true := by simpa using c12))
            (try (have c12b2 : (t181 == t182) = true := by simpa using c12))
            clear c12
            replace H := Option.bind_eq_some_iff.mp H
            obtain ⟨t183, A130, H⟩ := H
            replace H : ((exequaturref01_Good.f kj2 a0).bind fun t184 => (if (t183 == t184) = true then ((pkce_Challenge.f a1).bind fun t185 => ((exequaturref01_Sum.f a1).bind fun t186 => ((exequaturref01_B64.f kj2 t186).bind fun t187 => (some (t185.toList == t187.toList))))) else (some false))) = some r := H
            have A13 := Aside0.mk A130
            clear A130
            replace H := Option.bind_eq_some_iff.mp H
            obtain ⟨t184, A140, H⟩ := H
            replace H : (if (t183 == t184) = true then ((pkce_Challenge.f a1).bind fun t185 => ((exequaturref01_Sum.f a1).bind fun t186 => ((exequaturref01_B64.f kj2 t186).bind fun t187 => (some (t185.toList == t187.toList))))) else (some false)) = some r := H
            have A14 := Aside0.mk A140
            clear A140
            by_cases c15 : (t183 == t184) = true
            · rw [if_pos c15] at H
              have c15b0 : (t183 == t184) = true := c15
              (try (have c15b1 : decide (t183 = t184) = true := by simpa using c15))
              (try (have c15b2 : (t183 == t184) = true := by simpa using c15))
              clear c15
              replace H := Option.bind_eq_some_iff.mp H
              obtain ⟨t185, A160, H⟩ := H
              replace H : ((exequaturref01_Sum.f a1).bind fun t186 => ((exequaturref01_B64.f kj2 t186).bind fun t187 => (some (t185.toList == t187.toList)))) = some r := H
              have A16 := Aside0.mk A160
              clear A160
              replace H := Option.bind_eq_some_iff.mp H
              obtain ⟨t186, A170, H⟩ := H
              replace H : ((exequaturref01_B64.f kj2 t186).bind fun t187 => (some (t185.toList == t187.toList))) = some r := H
              have A17 := Aside0.mk A170
              clear A170
              replace H := Option.bind_eq_some_iff.mp H
              obtain ⟨t187, A180, H⟩ := H
              replace H : (some (t185.toList == t187.toList)) = some r := H
              have A18 := Aside0.mk A180
              clear A180
              obtain rfl := Option.some.inj H
              go_wp2_with (first | ((with_reducible refine gate_callee (f := 13) rfl ?_); refine goesL_ (some 14) rfl rfl Tryd.func13 (by kernel_rfl) rfl #[] rfl (by (try simp only [List.map_toArray, List.map_cons, List.map_nil]); first | done | rfl | (simp only [List.length_drop, List.length_take]; rfl)) ?_; (with_reducible refine (exequaturlaw09_answers.calls kj2  true _ A8.out (GL.below HGL.out (by repeat (first | (with_reducible first | exact HB.out | apply below_alloc | apply pw_below_drewN | apply below_drew1) | exact HB.out)))).mono ?_); rintro e w19 ⟨rfl, hb⟩; refine ⟨_, rfl, ?_⟩; have n0_ := Aside0.mk (below_step (by repeat (first | (with_reducible first | exact HB.out | apply below_alloc | apply pw_below_drewN | apply below_drew1) | exact HB.out)) hb); clear HB; have HB := n0_; clear n0_; (try clear hb); (try clear hb2); (try clear hk); (try clear hi)) | (go_at_call 14; (with_reducible refine (pkce_Right.calls kj2 a0 a1 t181 _ A10.out (GL.below HGL.out (by repeat (first | (with_reducible first | exact HB.out | apply below_alloc | apply pw_below_drewN | apply below_drew1) | exact HB.out)))).mono ?_); rintro e w20 ⟨rfl, hb⟩; have n0_ := Aside0.mk (below_step (by repeat (first | (with_reducible first | exact HB.out | apply below_alloc | apply pw_below_drewN | apply below_drew1) | exact HB.out)) hb); clear HB; have HB := n0_; clear n0_; (try clear hb); (try clear hb2); (try clear hk); (try clear hi)) | (go_at_call 15; (with_reducible refine (exequaturref01_Right.calls kj2 a0 a1 t182 _ A11.out).mono ?_); rintro e w21 ⟨rfl, hb⟩; have n0_ := Aside0.mk (below_step (by repeat (first | (with_reducible first | exact HB.out | apply below_alloc | apply pw_below_drewN | apply below_drew1) | exact HB.out)) hb); clear HB; have HB := n0_; clear n0_; (try clear hb); (try clear hb2); (try clear hk); (try clear hi)) | (go_at_call 16; (with_reducible refine (pkce_Good.calls a0 t183 _ A13.out).mono ?_); rintro e w22 ⟨rfl, hb⟩; have n0_ := Aside0.mk (below_step (by repeat (first | (with_reducible first | exact HB.out | apply below_alloc | apply pw_below_drewN | apply below_drew1) | exact HB.out)) hb); clear HB; have HB := n0_; clear n0_; (try clear hb); (try clear hb2); (try clear hk); (try clear hi)) | (go_at_call 17; (with_reducible refine (exequaturref01_Good.calls kj2 a0 t184 _ A14.out).mono ?_); rintro e w23 ⟨rfl, hb⟩; have n0_ := Aside0.mk (below_step (by repeat (first | (with_reducible first | exact HB.out | apply below_alloc | apply pw_below_drewN | apply below_drew1) | exact HB.out)) hb); clear HB; have HB := n0_; clear n0_; (try clear hb); (try clear hb2); (try clear hk); (try clear hi)) | (go_at_call 18; (with_reducible refine (pkce_Challenge.calls a1 t185 _ A16.out (GL.below HGL.out (by repeat (first | (with_reducible first | exact HB.out | apply below_alloc | apply pw_below_drewN | apply below_drew1) | exact HB.out)))).mono ?_); rintro e w24 ⟨rfl, hb⟩; have n0_ := Aside0.mk (below_step (by repeat (first | (with_reducible first | exact HB.out | apply below_alloc | apply pw_below_drewN | apply below_drew1) | exact HB.out)) hb); clear HB; have HB := n0_; clear n0_; (try clear hb); (try clear hb2); (try clear hk); (try clear hi)) | (go_at_call 10; (with_reducible refine (exequaturref01_Sum.calls a1 t186 _ A17.out).mono ?_); rintro e w25 ⟨rfl, hb⟩; have n0_ := Aside0.mk (below_step (by repeat (first | (with_reducible first | exact HB.out | apply below_alloc | apply pw_below_drewN | apply below_drew1) | exact HB.out)) hb); clear HB; have HB := n0_; clear n0_; (try clear hb); (try clear hb2); (try clear hk); (try clear hi)) | (go_at_call 19; (with_reducible refine (exequaturref01_B64.calls kj2 t186 t187 _ A18.out).mono ?_); rintro e w26 ⟨rfl, hb⟩; have n0_ := Aside0.mk (below_step (by repeat (first | (with_reducible first | exact HB.out | apply below_alloc | apply pw_below_drewN | apply below_drew1) | exact HB.out)) hb); clear HB; have HB := n0_; clear n0_; (try clear hb); (try clear hb2); (try clear hk); (try clear hi)))
              go_ret
              exact ⟨by first | rfl | (simp [errW_none, errW_some] <;> rfl) | (simp [*, errW_none, errW_some] <;> rfl), by repeat (first | (with_reducible first | exact HB.out | apply below_alloc | apply pw_below_drewN | apply below_drew1) | exact HB.out)⟩
            · rw [if_neg c15] at H
              have c15b0 : (t183 == t184) = false := by simpa using c15
              (try (have c15b1 : decide (t183 = t184) = false := by simpa using c15))
              (try (have c15b2 : (t183 == t184) = false := by simpa using c15))
              (try (have c15b3 : ¬ (t183 = t184) := by simpa using c15))
              clear c15
              obtain rfl := Option.some.inj H
              go_wp2_with (first | ((with_reducible refine gate_callee (f := 13) rfl ?_); refine goesL_ (some 14) rfl rfl Tryd.func13 (by kernel_rfl) rfl #[] rfl (by (try simp only [List.map_toArray, List.map_cons, List.map_nil]); first | done | rfl | (simp only [List.length_drop, List.length_take]; rfl)) ?_; (with_reducible refine (exequaturlaw09_answers.calls kj2  true _ A8.out (GL.below HGL.out (by repeat (first | (with_reducible first | exact HB.out | apply below_alloc | apply pw_below_drewN | apply below_drew1) | exact HB.out)))).mono ?_); rintro e w27 ⟨rfl, hb⟩; refine ⟨_, rfl, ?_⟩; have n0_ := Aside0.mk (below_step (by repeat (first | (with_reducible first | exact HB.out | apply below_alloc | apply pw_below_drewN | apply below_drew1) | exact HB.out)) hb); clear HB; have HB := n0_; clear n0_; (try clear hb); (try clear hb2); (try clear hk); (try clear hi)) | (go_at_call 14; (with_reducible refine (pkce_Right.calls kj2 a0 a1 t181 _ A10.out (GL.below HGL.out (by repeat (first | (with_reducible first | exact HB.out | apply below_alloc | apply pw_below_drewN | apply below_drew1) | exact HB.out)))).mono ?_); rintro e w28 ⟨rfl, hb⟩; have n0_ := Aside0.mk (below_step (by repeat (first | (with_reducible first | exact HB.out | apply below_alloc | apply pw_below_drewN | apply below_drew1) | exact HB.out)) hb); clear HB; have HB := n0_; clear n0_; (try clear hb); (try clear hb2); (try clear hk); (try clear hi)) | (go_at_call 15; (with_reducible refine (exequaturref01_Right.calls kj2 a0 a1 t182 _ A11.out).mono ?_); rintro e w29 ⟨rfl, hb⟩; have n0_ := Aside0.mk (below_step (by repeat (first | (with_reducible first | exact HB.out | apply below_alloc | apply pw_below_drewN | apply below_drew1) | exact HB.out)) hb); clear HB; have HB := n0_; clear n0_; (try clear hb); (try clear hb2); (try clear hk); (try clear hi)) | (go_at_call 16; (with_reducible refine (pkce_Good.calls a0 t183 _ A13.out).mono ?_); rintro e w30 ⟨rfl, hb⟩; have n0_ := Aside0.mk (below_step (by repeat (first | (with_reducible first | exact HB.out | apply below_alloc | apply pw_below_drewN | apply below_drew1) | exact HB.out)) hb); clear HB; have HB := n0_; clear n0_; (try clear hb); (try clear hb2); (try clear hk); (try clear hi)) | (go_at_call 17; (with_reducible refine (exequaturref01_Good.calls kj2 a0 t184 _ A14.out).mono ?_); rintro e w31 ⟨rfl, hb⟩; have n0_ := Aside0.mk (below_step (by repeat (first | (with_reducible first | exact HB.out | apply below_alloc | apply pw_below_drewN | apply below_drew1) | exact HB.out)) hb); clear HB; have HB := n0_; clear n0_; (try clear hb); (try clear hb2); (try clear hk); (try clear hi)))
              go_ret
              exact ⟨by first | rfl | (simp [errW_none, errW_some] <;> rfl) | (simp [*, errW_none, errW_some] <;> rfl), by repeat (first | (with_reducible first | exact HB.out | apply below_alloc | apply pw_below_drewN | apply below_drew1) | exact HB.out)⟩
          · rw [if_neg c12] at H
            have c12b0 : (t181 == t182) = false := by simpa using c12
            (try (have c12b1 : decide (t181 = t182) = false := by simpa using c12))
            (try (have c12b2 : (t181 == t182) = false := by simpa using c12))
            (try (have c12b3 : ¬ (t181 = t182) := by simpa using c12))
            clear c12
            obtain rfl := Option.some.inj H
            go_wp2_with (first | ((with_reducible refine gate_callee (f := 13) rfl ?_); refine goesL_ (some 14) rfl rfl Tryd.func13 (by kernel_rfl) rfl #[] rfl (by (try simp only [List.map_toArray, List.map_cons, List.map_nil]); first | done | rfl | (simp only [List.length_drop, List.length_take]; rfl)) ?_; (with_reducible refine (exequaturlaw09_answers.calls kj2  true _ A8.out (GL.below HGL.out (by repeat (first | (with_reducible first | exact HB.out | apply below_alloc | apply pw_below_drewN | apply below_drew1) | exact HB.out)))).mono ?_); rintro e w32 ⟨rfl, hb⟩; refine ⟨_, rfl, ?_⟩; have n0_ := Aside0.mk (below_step (by repeat (first | (with_reducible first | exact HB.out | apply below_alloc | apply pw_below_drewN | apply below_drew1) | exact HB.out)) hb); clear HB; have HB := n0_; clear n0_; (try clear hb); (try clear hb2); (try clear hk); (try clear hi)) | (go_at_call 14; (with_reducible refine (pkce_Right.calls kj2 a0 a1 t181 _ A10.out (GL.below HGL.out (by repeat (first | (with_reducible first | exact HB.out | apply below_alloc | apply pw_below_drewN | apply below_drew1) | exact HB.out)))).mono ?_); rintro e w33 ⟨rfl, hb⟩; have n0_ := Aside0.mk (below_step (by repeat (first | (with_reducible first | exact HB.out | apply below_alloc | apply pw_below_drewN | apply below_drew1) | exact HB.out)) hb); clear HB; have HB := n0_; clear n0_; (try clear hb); (try clear hb2); (try clear hk); (try clear hi)) | (go_at_call 15; (with_reducible refine (exequaturref01_Right.calls kj2 a0 a1 t182 _ A11.out).mono ?_); rintro e w34 ⟨rfl, hb⟩; have n0_ := Aside0.mk (below_step (by repeat (first | (with_reducible first | exact HB.out | apply below_alloc | apply pw_below_drewN | apply below_drew1) | exact HB.out)) hb); clear HB; have HB := n0_; clear n0_; (try clear hb); (try clear hb2); (try clear hk); (try clear hi)))
            go_ret
            exact ⟨by first | rfl | (simp [errW_none, errW_some] <;> rfl) | (simp [*, errW_none, errW_some] <;> rfl), by repeat (first | (with_reducible first | exact HB.out | apply below_alloc | apply pw_below_drewN | apply below_drew1) | exact HB.out)⟩
        · replace c9 := Bool.eq_false_iff.mpr c9
          subst c9
          have H1 : (some false) = some r := by rw [if_neg (show ¬ (false = true) by decide)] at H; exact H
          clear H
          have H := H1
          clear H1
          obtain rfl := Option.some.inj H
          go_wp2_with (first | ((with_reducible refine gate_callee (f := 13) rfl ?_); refine goesL_ (some 14) rfl rfl Tryd.func13 (by kernel_rfl) rfl #[] rfl (by (try simp only [List.map_toArray, List.map_cons, List.map_nil]); first | done | rfl | (simp only [List.length_drop, List.length_take]; rfl)) ?_; (with_reducible refine (exequaturlaw09_answers.calls kj2  false _ A8.out (GL.below HGL.out (by repeat (first | (with_reducible first | exact HB.out | apply below_alloc | apply pw_below_drewN | apply below_drew1) | exact HB.out)))).mono ?_); rintro e w35 ⟨rfl, hb⟩; refine ⟨_, rfl, ?_⟩; have n0_ := Aside0.mk (below_step (by repeat (first | (with_reducible first | exact HB.out | apply below_alloc | apply pw_below_drewN | apply below_drew1) | exact HB.out)) hb); clear HB; have HB := n0_; clear n0_; (try clear hb); (try clear hb2); (try clear hk); (try clear hi)))
          go_ret
          exact ⟨by first | rfl | (simp [errW_none, errW_some] <;> rfl) | (simp [*, errW_none, errW_some] <;> rfl), by repeat (first | (with_reducible first | exact HB.out | apply below_alloc | apply pw_below_drewN | apply below_drew1) | exact HB.out)⟩

/-- THE ONE PURE STATEMENT of exequaturlaw09_PkceRight: yours. -/
def exequaturlaw09_PkceRight.Pure : Prop := ∀ (a0 : ByteArray) (a1 : ByteArray), a0.size ≤ 140737488351232 → a1.size ≤ 140737488351232 → ∃ k, exequaturlaw09_PkceRight.f k a0 a1 = some true
theorem exequaturlaw09_PkceRight.walk (P : exequaturlaw09_PkceRight.Pure) (a0 : ByteArray) (a1 : ByteArray) (w : World) (w0 : a0.size ≤ 140737488351232) (w1 : a1.size ≤ 140737488351232) (hGL : GL w) :
    Calls Tryd.prog 6 #[.string a0, .string a1] w fun e w' => e = .returned (.bool true) ∧ Below w.heap.size w w' := by
  obtain ⟨k, h⟩ := P a0 a1 w0 w1
  refine (exequaturlaw09_PkceRight.calls k a0 a1 true w h hGL).mono ?_
  rintro e w' ⟨rfl, hd⟩
  exact ⟨rfl, hd⟩

end Go.Proofs.YtfoepbjbgohhdaaDoor.Q
