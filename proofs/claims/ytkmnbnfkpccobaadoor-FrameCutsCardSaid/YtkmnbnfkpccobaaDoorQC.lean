-- Written by a program of this session (wip/xprint.py) over the kit's print.py; Lean checks it.
import Derived.Test.YtkmnbnfkpccobaaDoorQ0
import Derived.Test.YtkmnbnfkpccobaaDoorQ2
import Derived.Test.YtkmnbnfkpccobaaDoorQ4
namespace Go.Proofs.YtkmnbnfkpccobaaDoor.Q
open Go.RowKit Go.Proofs.YtkmnbnfkpccobaaDoorW.PrintWords Go.Proofs.YtkmnbnfkpccobaaDoorW.PrintLast Go.Proofs.YtkmnbnfkpccobaaDoorW.PrintMore
attribute [local go_sem] max2_int min2_int max_two min_two max_three min_three max_four min_four   -- for this text's walks alone
open Go.Proofs.YtkmnbnfkpccobaaDoor.X
set_option linter.unusedVariables false
set_option linter.unusedSimpArgs false

theorem info3 : (Tryd.prog.info? 3).map (fun i => (i.zero, i.size, i.bytes)) = some (some (.int .i64 0), 1, 8) := by kernel_rfl
/-! ### exequaturlaw11_FrameCuts: function 5 -/
mutual
def exequaturlaw11_FrameCuts.j0 : Nat → List (List Int) → Int → Bool → Option (Bool)
  | 0, _, _, _ => none
  | k + 1, x0, x1, x20 => if x20 = true then ((exequaturlaw11_answers.f).bind fun t208 => (some t208)) else (exequaturlaw11_FrameCuts.l0 k x0 x1 ([] : List Int) ([] : List Int) 0)
def exequaturlaw11_FrameCuts.l0 : Nat → List (List Int) → Int → List Int → List Int → Int → Option (Bool)
  | 0, _, _, _, _, _ => none
  | k + 1, x0, x1, x5, x6, x7 => if x7 < (x0.length : Int) then (if 0 ≤ x7 then (if ((rd_L3 x0 x7).length : Int) > 1000 then ((exequaturlaw11_answers.f).bind fun t210 => (some t210)) else ((exequaturref10_Frame.f (rd_L3 x0 x7)).bind fun t212 => (if x5.length + t212.length < 140737488355328 then ((some (x5 ++ t212 : List Int)).bind fun y215 => (if x6.length < 17592186044416 then (exequaturlaw11_FrameCuts.l0 k x0 x1 y215 (x6 ++ [(y215.length : Int)]) (wrap64 (x7 + 1))) else (none))) else (none)))) else (none)) else (if (x5.length : Int) = 0 then (none) else (exequaturlaw11_FrameCuts.l1 k x0 x5 x6 (Int.tmod (wrap64 (x1)) (x5.length : Int)) 0 0))
def exequaturlaw11_FrameCuts.l1 : Nat → List (List Int) → List Int → List Int → Int → Int → Int → Option (Bool)
  | 0, _, _, _, _, _, _ => none
  | k + 1, x0, x5, x6, x8, x9, x10 => if x9 < (x6.length : Int) then (if 0 ≤ x9 then (if (rd x6 x9) ≤ x8 then (exequaturlaw11_FrameCuts.l1 k x0 x5 x6 x8 (wrap64 (x9 + 1)) (rd x6 x9)) else (if 0 ≤ x8 then (if x8 ≤ (x5.length : Int) then ((frame_Split.f (x5.take (x8 : Int).toNat)).bind fun bt227 => ((exequaturlaw11_answers.f).bind fun t231 => (if t231 = true then (if x9 ≤ (x0.length : Int) then ((exequaturlaw11_same.f k bt227.1 (x0.take (x9 : Int).toNat)).bind fun t236 => (if t236 = true then (some (bt227.2 == x10)) else (some false))) else (none)) else (some false)))) else (none)) else (none))) else (none)) else (if 0 ≤ x8 then (if x8 ≤ (x5.length : Int) then ((frame_Split.f (x5.take (x8 : Int).toNat)).bind fun bt241 => ((exequaturlaw11_answers.f).bind fun t245 => (if t245 = true then (if 0 ≤ x9 then (if x9 ≤ (x0.length : Int) then ((exequaturlaw11_same.f k bt241.1 (x0.take (x9 : Int).toNat)).bind fun t250 => (if t250 = true then (some (bt241.2 == x10)) else (some false))) else (none)) else (none)) else (some false)))) else (none)) else (none))
end
def exequaturlaw11_FrameCuts.f (k : Nat) (l0 : List (List Int)) (a1 : Int) : Option (Bool) := if (l0.length : Int) = 0 then (exequaturlaw11_FrameCuts.j0 k l0 a1 true) else (exequaturlaw11_FrameCuts.j0 k l0 a1 (decide ((l0.length : Int) > 30)))
theorem exequaturlaw11_FrameCuts.mono_l : ∀ k, (∀ y0 y1 y2, LeO (exequaturlaw11_FrameCuts.j0 k y0 y1 y2) (exequaturlaw11_FrameCuts.j0 (k + 1) y0 y1 y2)) ∧ (∀ y0 y1 y2 y3 y4, LeO (exequaturlaw11_FrameCuts.l0 k y0 y1 y2 y3 y4) (exequaturlaw11_FrameCuts.l0 (k + 1) y0 y1 y2 y3 y4)) ∧ (∀ y0 y1 y2 y3 y4 y5, LeO (exequaturlaw11_FrameCuts.l1 k y0 y1 y2 y3 y4 y5) (exequaturlaw11_FrameCuts.l1 (k + 1) y0 y1 y2 y3 y4 y5))
  | 0 => ⟨fun _ _ _ r h => by simp [exequaturlaw11_FrameCuts.j0] at h, fun _ _ _ _ _ r h => by simp [exequaturlaw11_FrameCuts.l0] at h, fun _ _ _ _ _ _ r h => by simp [exequaturlaw11_FrameCuts.l1] at h⟩
  | k + 1 => by
    obtain ⟨ih0, ih1, ih2⟩ := exequaturlaw11_FrameCuts.mono_l k
    refine ⟨?_, ?_, ?_⟩
    · intro y0 y1 y2
      unfold exequaturlaw11_FrameCuts.j0
      repeat' first
      | (with_reducible exact ih0 _ _ _)
      | (with_reducible exact ih1 _ _ _ _ _)
      | (with_reducible exact ih2 _ _ _ _ _ _)
      | (with_reducible exact exequaturlaw11_same.mono _ _ _)
      | (with_reducible exact LeO.refl _)
      | (with_reducible exact LeO.none _)
      | (with_reducible refine LeO.ite ?_ ?_)
      | (with_reducible refine LeO.bind ?_ (fun _ => ?_))
      | exact ih0 _ _ _
      | exact ih1 _ _ _ _ _
      | exact ih2 _ _ _ _ _ _
      | exact exequaturlaw11_same.mono _ _ _
      | exact LeO.none _
      | refine LeO.ite ?_ ?_
      | refine LeO.bind ?_ (fun _ => ?_)
    · intro y0 y1 y2 y3 y4
      unfold exequaturlaw11_FrameCuts.l0
      repeat' first
      | (with_reducible exact ih0 _ _ _)
      | (with_reducible exact ih1 _ _ _ _ _)
      | (with_reducible exact ih2 _ _ _ _ _ _)
      | (with_reducible exact exequaturlaw11_same.mono _ _ _)
      | (with_reducible exact LeO.refl _)
      | (with_reducible exact LeO.none _)
      | (with_reducible refine LeO.ite ?_ ?_)
      | (with_reducible refine LeO.bind ?_ (fun _ => ?_))
      | exact ih0 _ _ _
      | exact ih1 _ _ _ _ _
      | exact ih2 _ _ _ _ _ _
      | exact exequaturlaw11_same.mono _ _ _
      | exact LeO.none _
      | refine LeO.ite ?_ ?_
      | refine LeO.bind ?_ (fun _ => ?_)
    · intro y0 y1 y2 y3 y4 y5
      unfold exequaturlaw11_FrameCuts.l1
      repeat' first
      | (with_reducible exact ih0 _ _ _)
      | (with_reducible exact ih1 _ _ _ _ _)
      | (with_reducible exact ih2 _ _ _ _ _ _)
      | (with_reducible exact exequaturlaw11_same.mono _ _ _)
      | (with_reducible exact LeO.refl _)
      | (with_reducible exact LeO.none _)
      | (with_reducible refine LeO.ite ?_ ?_)
      | (with_reducible refine LeO.bind ?_ (fun _ => ?_))
      | exact ih0 _ _ _
      | exact ih1 _ _ _ _ _
      | exact ih2 _ _ _ _ _ _
      | exact exequaturlaw11_same.mono _ _ _
      | exact LeO.none _
      | refine LeO.ite ?_ ?_
      | refine LeO.bind ?_ (fun _ => ?_)
theorem exequaturlaw11_FrameCuts.mono : ∀ a0 a1 k, LeO (exequaturlaw11_FrameCuts.f k a0 a1) (exequaturlaw11_FrameCuts.f (k + 1) a0 a1) := by
  intro a0 a1 k
  obtain ⟨ih0, ih1, ih2⟩ := exequaturlaw11_FrameCuts.mono_l k
  unfold exequaturlaw11_FrameCuts.f
  repeat' first
      | (with_reducible exact ih0 _ _ _)
      | (with_reducible exact ih1 _ _ _ _ _)
      | (with_reducible exact ih2 _ _ _ _ _ _)
      | (with_reducible exact exequaturlaw11_same.mono _ _ _)
      | (with_reducible exact LeO.refl _)
      | (with_reducible exact LeO.none _)
      | (with_reducible refine LeO.ite ?_ ?_)
      | (with_reducible refine LeO.bind ?_ (fun _ => ?_))
      | exact ih0 _ _ _
      | exact ih1 _ _ _ _ _
      | exact ih2 _ _ _ _ _ _
      | exact exequaturlaw11_same.mono _ _ _
      | exact LeO.none _
      | refine LeO.ite ?_ ?_
      | refine LeO.bind ?_ (fun _ => ?_)
set_option maxHeartbeats 8000000 in
set_option maxRecDepth 100000 in
theorem exequaturlaw11_FrameCuts.calls (k : Nat) (A0 : Option Addr) (c0 : Nat) (l0 : List (List Int)) (a1 : Int) (r : Bool) (w : World) (hr0 : Kd.C (Kd.slice 5 (Kd.int .u8)) w A0 l0.length l0) (hc0 : l0.length ≤ c0) (h : exequaturlaw11_FrameCuts.f k l0 a1 = some r) (hGL : GL w) :
    Calls Tryd.prog 5 #[.slice A0 l0.length c0, .int .u16 a1] w fun e w' => e = .returned (.bool r) ∧ Below w.heap.size w w' := by
  have HGL := Aside0.mk hGL
  clear hGL
  have HR0 := Aside0.mk hr0
  have HC0 := Aside0.mk hc0
  clear hr0 hc0
  have HB := Aside0.mk (Below.refl w.heap.size w)
  have H : (if (l0.length : Int) = 0 then (exequaturlaw11_FrameCuts.j0 k l0 a1 true) else (exequaturlaw11_FrameCuts.j0 k l0 a1 (decide ((l0.length : Int) > 30)))) = some r := h
  clear h
  have HC3 := Aside0.mk H
  clear H
  go_enter Tryd.func5, Tryd.ntmps5
  go_upto_region 1 with (fail)
  go_cut [20] (fun v20 wc => ∃ (kq : Nat) (x20_2 : Bool), v20 = .bool x20_2 ∧ Aside0 (exequaturlaw11_FrameCuts.j0 kq l0 a1 x20_2 = some r) ∧ Aside0 (kq ≤ k) ∧ Aside0 (Below w.heap.size w wc))
  case first =>
    have H := HC3.out
    clear HC3
    by_cases c4 : (l0.length : Int) = 0
    · rw [if_pos c4] at H
      have c4b0 : ((l0.length : Int) == 0) = true := beq_iff_eq.mpr c4
      have c4b1 : ((l0.length : Int) != 0) = false := bne_eq_false_iff_eq.mpr c4
      clear c4
      (first | rw [c4b0] | (simp only [i64_w, i32_w]; rw [c4b0]) | skip)
      have H' := Aside0.mk H
      clear H
      go_wp2
      go_meet
      case rel => exact ⟨_, (true), (by first | rfl | (simp; done) | (simp [*]; done)), H', ⟨by first | omega | exact Nat.le_refl _⟩, ⟨by repeat (first | (with_reducible first | exact HB.out | apply below_alloc | apply pw_below_drewN | apply below_drew1) | exact HB.out)⟩⟩
    · rw [if_neg c4] at H
      have c4b0 : ((l0.length : Int) == 0) = false := beq_eq_false_iff_ne.mpr c4
      have c4b1 : ((l0.length : Int) != 0) = true := bne_iff_ne.mpr c4
      have c4b2 : ¬ (l0 = []) := fun h_ => c4 (by rw [h_]; rfl)
      (first | rw [c4b0] | (simp only [i64_w, i32_w]; rw [c4b0]) | skip)
      have H' := Aside0.mk H
      clear H
      go_wp2
      go_meet
      case rel => exact ⟨_, (decide ((l0.length : Int) > 30)), (by first | rfl | (simp; done) | (simp [*]; done)), H', ⟨by first | omega | exact Nat.le_refl _⟩, ⟨by repeat (first | (with_reducible first | exact HB.out | apply below_alloc | apply pw_below_drewN | apply below_drew1) | exact HB.out)⟩⟩
  case rest =>
    clear HC3
    try clear p2
    try clear c4
    try clear c4b0
    try clear c4b1
    try clear c4b2
    obtain ⟨kq, x20_2, rfl, HA, HJ2, HB⟩ := hcut
    cases kq with
    | zero => exact absurd HA.out (by simp [exequaturlaw11_FrameCuts.j0])
    | succ kj2 =>
      have H := HA.out
      clear HA
      simp only [exequaturlaw11_FrameCuts.j0] at H
      by_cases c5 : x20_2 = true
      · subst c5
        have H1 : ((exequaturlaw11_answers.f).bind fun t208 => (some t208)) = some r := by rw [if_pos rfl] at H; exact H
        clear H
        have H := H1
        clear H1
        replace H := Option.bind_eq_some_iff.mp H
        obtain ⟨t208, A60, H⟩ := H
        replace H : (some t208) = some r := H
        have A6 := Aside0.mk A60
        clear A60
        obtain rfl := Option.some.inj H
        go_wp2_with (first | ((with_reducible refine gate_callee (f := 7) rfl ?_); refine goesL_ (some 21) rfl rfl Tryd.func7 (by kernel_rfl) rfl #[] rfl (by (try simp only [List.map_toArray, List.map_cons, List.map_nil]); first | done | rfl | (simp only [List.length_drop, List.length_take]; rfl)) ?_; (with_reducible refine (exequaturlaw11_answers.calls  t208 _ A6.out (GL.below HGL.out (by repeat (first | (with_reducible first | exact HB.out | apply below_alloc | apply pw_below_drewN | apply below_drew1) | exact HB.out)))).mono ?_); rintro e w7 ⟨rfl, hb⟩; refine ⟨_, rfl, ?_⟩; have n0_ := Aside0.mk (below_step (by repeat (first | (with_reducible first | exact HB.out | apply below_alloc | apply pw_below_drewN | apply below_drew1) | exact HB.out)) hb); clear HB; have HB := n0_; clear n0_; (try clear hb); (try clear hb2); (try clear hk); (try clear hi)))
        go_ret
        exact ⟨by first | rfl | (simp [errW_none, errW_some] <;> rfl) | (simp [*, errW_none, errW_some] <;> rfl), by repeat (first | (with_reducible first | exact HB.out | apply below_alloc | apply pw_below_drewN | apply below_drew1) | exact HB.out)⟩
      · replace c5 := Bool.eq_false_iff.mpr c5
        subst c5
        have H1 : (exequaturlaw11_FrameCuts.l0 kj2 l0 a1 ([] : List Int) ([] : List Int) 0) = some r := by rw [if_neg (show ¬ (false = true) by decide)] at H; exact H
        clear H
        have H := H1
        clear H1
        have H' := Aside0.mk H
        clear H
        go_wp2
        go_loopg [5, 6, 7] kj2 (fun kq v5 v6 v7 w' => ∃ (x5_2 : List Int) (x6_2 : List Int) (x7_2 : Int), v7 = .int .i64 x7_2 ∧ Aside0 (exequaturlaw11_FrameCuts.l0 kq l0 a1 x5_2 x6_2 x7_2 = some r) ∧ Aside0 (kq ≤ kj2) ∧ Aside0 (Kd.R (Kd.int .u8) 5 w' w.heap.size (fun _ => True) v5 x5_2) ∧ Aside0 (Kd.R (Kd.int .i64) 3 w' w.heap.size (fun _ => True) v6 x6_2) ∧ Aside0 (Below w.heap.size w w'))
        case atStart => exact ⟨(([] : List Int)), (([] : List Int)), (0), (by first | rfl | (simp; done) | (simp [*]; done)), H', ⟨Nat.le_refl _⟩, ⟨by first | exact Kd.R_nil _ _ _ _ _ | exact Kd.N_nil _ _ _ _ _ | exact Kd.V_nil _ _ _ _ _ | exact Kd.Q_nil _ _ _ _ _ | exact Kd.S_nil _ _ _ _ _⟩, ⟨by first | exact Kd.R_nil _ _ _ _ _ | exact Kd.N_nil _ _ _ _ _ | exact Kd.V_nil _ _ _ _ _ | exact Kd.Q_nil _ _ _ _ _ | exact Kd.S_nil _ _ _ _ _⟩, ⟨by repeat (first | (with_reducible first | exact HB.out | apply below_alloc | apply pw_below_drewN | apply below_drew1) | exact HB.out)⟩⟩
        case round =>
          clear H'
          try clear p2
          try clear c4
          try clear c4b0
          try clear c4b1
          try clear c4b2
          try clear c5
          try clear c7
          try clear p2
          obtain ⟨x5_2, x6_2, x7_2, rfl, HA, HK2, HO_5, HO_6, HB⟩ := hrel
          cases gk with
          | zero => exact absurd HA.out (by simp [exequaturlaw11_FrameCuts.l0])
          | succ k2 =>
            have H := HA.out
            clear HA
            simp only [exequaturlaw11_FrameCuts.l0] at H
            by_cases c8 : x7_2 < (l0.length : Int)
            · rw [if_pos c8] at H
              have c8b0 : decide (x7_2 < (l0.length : Int)) = true := decide_eq_true c8
              clear c8
              by_cases c9 : 0 ≤ x7_2
              · rw [if_pos c9] at H
                have c9b0 : decide (0 ≤ x7_2) = true := decide_eq_true c9
                clear c9
                by_cases c10 : ((rd_L3 l0 x7_2).length : Int) > 1000
                · rw [if_pos c10] at H
                  have c10b0 : decide (1000 < ((rd_L3 l0 x7_2).length : Int)) = true := decide_eq_true c10
                  have c10b1 : decide (1000 < (rd_L3 l0 x7_2).length) = true := decide_eq_true (by omega)
                  clear c10
                  replace H := Option.bind_eq_some_iff.mp H
                  obtain ⟨t210, A110, H⟩ := H
                  replace H : (some t210) = some r := H
                  have A11 := Aside0.mk A110
                  clear A110
                  obtain rfl := Option.some.inj H
                  have p209 : 0 ≤ (x7_2 : Int) := of_decide_eq_true (by first | (with_reducible assumption) | assumption)
                  have q209 : x7_2 < (l0.length : Int) := of_decide_eq_true (by first | (with_reducible assumption) | assumption)
                  obtain ⟨ad209, A209_0, c209_0, e209, hx209_0, hl209_0, hi209_0⟩ := at_L3 HR0.out x7_2 p209 q209
                  cases e209
                  replace hx209_0 := (HB.out.cell (World.block_lt_of_cell? w _ hx209_0)).trans hx209_0
                  have HR209_0 := Aside0.mk hi209_0
                  have HC209_0 := Aside0.mk hl209_0
                  clear hi209_0 hl209_0
                  replace p209 := eq_true p209
                  replace q209 := eq_true q209
                  go_wp2_with (first | ((with_reducible refine gate_callee (f := 7) rfl ?_); refine goesL_ (some 34) rfl rfl Tryd.func7 (by kernel_rfl) rfl #[] rfl (by (try simp only [List.map_toArray, List.map_cons, List.map_nil]); first | done | rfl | (simp only [List.length_drop, List.length_take]; rfl)) ?_; (with_reducible refine (exequaturlaw11_answers.calls  t210 _ A11.out (GL.below HGL.out (by repeat (first | (with_reducible first | exact HB.out | apply below_alloc | apply pw_below_drewN | apply below_drew1) | exact HB.out)))).mono ?_); rintro e w12 ⟨rfl, hb⟩; refine ⟨_, rfl, ?_⟩; have n0_ := Aside0.mk (Kd.R_below (by (with_reducible repeat (first | apply Kd.R_alloc | apply Kd.R_drewN | apply Kd.R_drew)); exact HO_5.out) hb); have n1_ := Aside0.mk (Kd.R_below (by (with_reducible repeat (first | apply Kd.R_alloc | apply Kd.R_drewN | apply Kd.R_drew)); exact HO_6.out) hb); have n2_ := Aside0.mk (below_step (by repeat (first | (with_reducible first | exact HB.out | apply below_alloc | apply pw_below_drewN | apply below_drew1) | exact HB.out)) hb); clear HO_5; clear HO_6; clear HB; have HO_5 := n0_; have HO_6 := n1_; have HB := n2_; clear n0_ n1_ n2_; (try clear hb); (try clear hb2); (try clear hk); (try clear hi)))
                  go_ret
                  exact ⟨by first | rfl | (simp [errW_none, errW_some] <;> rfl) | (simp [*, errW_none, errW_some] <;> rfl), by repeat (first | (with_reducible first | exact HB.out | apply below_alloc | apply pw_below_drewN | apply below_drew1) | exact HB.out)⟩
                · rw [if_neg c10] at H
                  have c10b0 : decide (1000 < ((rd_L3 l0 x7_2).length : Int)) = false := decide_eq_false c10
                  have c10b1 : decide (1000 < (rd_L3 l0 x7_2).length) = false := decide_eq_false (by omega)
                  clear c10
                  replace H := Option.bind_eq_some_iff.mp H
                  obtain ⟨t212, A130, H⟩ := H
                  replace H : (if x5_2.length + t212.length < 140737488355328 then ((some (x5_2 ++ t212 : List Int)).bind fun y215 => (if x6_2.length < 17592186044416 then (exequaturlaw11_FrameCuts.l0 k2 l0 a1 y215 (x6_2 ++ [(y215.length : Int)]) (wrap64 (x7_2 + 1))) else (none))) else (none)) = some r := H
                  have A13 := Aside0.mk A130
                  clear A130
                  by_cases c14 : x5_2.length + t212.length < 140737488355328
                  · rw [if_pos c14] at H
                    have LMc14 := Aside0.mk c14
                    clear c14
                    obtain ⟨y215, hy215⟩ : ∃ y_ : List Int, y_ = (x5_2 ++ t212) := ⟨_, rfl⟩
                    replace H : (if x6_2.length < 17592186044416 then (exequaturlaw11_FrameCuts.l0 k2 l0 a1 y215 (x6_2 ++ [(y215.length : Int)]) (wrap64 (x7_2 + 1))) else (none)) = some r := by first | (rw [hy215]; with_reducible exact H) | (have H2_ := (Option.bind_some _ _).symm.trans H; rw [hy215]; with_reducible exact H2_) | (have H2_ := (Option.bind_some _ _).symm.trans H; with_reducible exact H2_) | with_reducible exact H | (rw [hy215]; exact H) | exact H
                    have Ny215 := Aside0.mk hy215
                    clear hy215
                    by_cases c15 : x6_2.length < 17592186044416
                    · rw [if_pos c15] at H
                      have LMc15 := Aside0.mk c15
                      clear c15
                      obtain ⟨y218, hy218⟩ : ∃ y_ : List Int, y_ = (x6_2 ++ [(y215.length : Int)]) := ⟨_, rfl⟩
                      replace H : (exequaturlaw11_FrameCuts.l0 k2 l0 a1 y215 y218 (wrap64 (x7_2 + 1))) = some r := by first | (rw [hy218]; with_reducible exact H) | (have H2_ := (Option.bind_some _ _).symm.trans H; rw [hy218]; with_reducible exact H2_) | (have H2_ := (Option.bind_some _ _).symm.trans H; with_reducible exact H2_) | with_reducible exact H | (rw [hy218]; exact H) | exact H
                      have Ny218 := Aside0.mk hy218
                      clear hy218
                      have H' := Aside0.mk H
                      clear H
                      have p209 : 0 ≤ (x7_2 : Int) := of_decide_eq_true (by first | (with_reducible assumption) | assumption)
                      have q209 : x7_2 < (l0.length : Int) := of_decide_eq_true (by first | (with_reducible assumption) | assumption)
                      obtain ⟨ad209, A209_0, c209_0, e209, hx209_0, hl209_0, hi209_0⟩ := at_L3 HR0.out x7_2 p209 q209
                      cases e209
                      replace hx209_0 := (HB.out.cell (World.block_lt_of_cell? w _ hx209_0)).trans hx209_0
                      have HR209_0 := Aside0.mk hi209_0
                      have HC209_0 := Aside0.mk hl209_0
                      clear hi209_0 hl209_0
                      replace p209 := eq_true p209
                      replace q209 := eq_true q209
                      have p211 : 0 ≤ (x7_2 : Int) := of_decide_eq_true (by first | (with_reducible assumption) | assumption)
                      have q211 : x7_2 < (l0.length : Int) := of_decide_eq_true (by first | (with_reducible assumption) | assumption)
                      obtain ⟨ad211, A211_0, c211_0, e211, hx211_0, hl211_0, hi211_0⟩ := at_L3 HR0.out x7_2 p211 q211
                      obtain rfl : ad209 = ad211 := (by injection e211)
                      replace hx211_0 := (HB.out.cell (World.block_lt_of_cell? w _ hx211_0)).trans hx211_0
                      have HR211_0 := Aside0.mk hi211_0
                      have HC211_0 := Aside0.mk hl211_0
                      clear hi211_0 hl211_0
                      replace p211 := eq_true p211
                      replace q211 := eq_true q211
                      have ea_ := Option.some.inj (hx209_0.symm.trans hx211_0)
                      injection ea_ with ea_ en_ ec_
                      subst ea_
                      subst ec_
                      clear en_
                      go_wp2_with (first | ((with_reducible refine gate_callee (f := 9) rfl ?_); refine goesL_ (some 40) rfl rfl Tryd.func9 (by kernel_rfl) rfl #[.slice A209_0 (rd_L3 l0 x7_2).length c209_0] rfl (by (try simp only [List.map_toArray, List.map_cons, List.map_nil]); first | done | rfl | (simp only [List.length_drop, List.length_take]; rfl)) ?_; (with_reducible refine (exequaturref10_Frame.calls _ _ (rd_L3 l0 x7_2) t212 _ ?side1 ?side2 A13.out).mono ?_); (case side1 => repeat (first | exact (Kd.C_below HR211_0.out HB.out) | (with_reducible refine Kd.C_alloc ?_ _) | (with_reducible refine Kd.C_drewN ?_ _) | (with_reducible refine Kd.C_drew ?_))); (case side2 => exact HC211_0.out); rintro e w16 ⟨v213, rfl, ho0, hb⟩; refine ⟨_, rfl, ?_⟩; have n0_ := Aside0.mk (Kd.R_elder' (by (with_reducible repeat (first | apply Kd.R_alloc | apply Kd.R_drewN | apply Kd.R_drew)); exact HO_5.out) (Kd.R_base ho0) hb); have n1_ := Aside0.mk (Kd.R_below (by (with_reducible repeat (first | apply Kd.R_alloc | apply Kd.R_drewN | apply Kd.R_drew)); exact HO_6.out) hb); have n2_ := Aside0.mk (Kd.R_lower (Kd.R_new' ho0 (Kd.R_lt (by (with_reducible repeat (first | apply Kd.R_alloc | apply Kd.R_drewN | apply Kd.R_drew)); exact HO_5.out))) (below_size (by repeat (first | (with_reducible first | exact HB.out | apply below_alloc | apply pw_below_drewN | apply below_drew1) | exact HB.out)))); have n3_ := Aside0.mk (below_step (by repeat (first | (with_reducible first | exact HB.out | apply below_alloc | apply pw_below_drewN | apply below_drew1) | exact HB.out)) hb); clear HO_5; clear HO_6; clear HB; have HO_5 := n0_; have HO_6 := n1_; have HO214 := n2_; have HB := n3_; clear n0_ n1_ n2_ n3_; (try clear hb); (try clear hb2); (try clear hk); (try clear hi); (try clear ho0); obtain ⟨Ao18, co18, eo18⟩ := Kd.R_slice HO214.out; subst eo18) | ((with_reducible refine gate_builtin (b := .append) (xs := #[.tmp 35, .tmp 40]) rfl ?_); (try (refine gate_guard (by rfl) ?_; dsimp only)); at_builtin; refine Kd.R_append_rows (Kd.int .u8) (w0 := w) w.heap.size rfl (.tmp 35) (.tmp 40) 23 5 (.int .u8 0) 1 rfl Tryd.underlying23 info5 rfl (by decide) (by omega) u5 x5_2 t212 _ _ _ (fun k_ => some k_ ≠ (.slice Ao18 t212.length co18 : Value).ownBlock) (fun _ => False) rfl rfl ?aO ?aR (fun _ _ h => h) (fun _ h => h.elim) ?aF ?aB ?aS ?aL ?_; (case aR => repeat (first | exact (Kd.R_reads' HO214.out).2.2 | (with_reducible refine Kd.C_alloc ?_ _) | (with_reducible refine Kd.C_drewN ?_ _) | (with_reducible refine Kd.C_drew ?_))); (case aB => exact (by repeat (first | (with_reducible first | exact HB.out | apply below_alloc | apply pw_below_drewN | apply below_drew1) | exact HB.out))); (case aF => exact (fun k_ hk => Kd.fresh' (Kd.R_lt (by (with_reducible repeat (first | apply Kd.R_alloc | apply Kd.R_drewN | apply Kd.R_drew)); exact HO214.out)) k_ hk)); (case aO => exact (by (with_reducible repeat (first | apply Kd.R_alloc | apply Kd.R_drewN | apply Kd.R_drew)); exact Kd.R_mono HO_5.out (fun _ hk => hk.2))); (case aS => exact (below_size (by repeat (first | (with_reducible first | exact HB.out | apply below_alloc | apply pw_below_drewN | apply below_drew1) | exact HB.out)))); (case aL => have := LMc14.out; omega); intro v216 w17 ho hb hg hat; rw [← Ny215.out] at ho; have n0_ := Aside0.mk (Kd.R_over' (by (with_reducible repeat (first | apply Kd.R_alloc | apply Kd.R_drewN | apply Kd.R_drew)); exact HO_6.out) (Kd.R_typed (by (with_reducible repeat (first | apply Kd.R_alloc | apply Kd.R_drewN | apply Kd.R_drew)); exact HO_5.out)) (by decide) hg); have n1_ := Aside0.mk (Kd.R_after (ok := (fun _ => True)) (by (with_reducible repeat (first | apply Kd.R_alloc | apply Kd.R_drewN | apply Kd.R_drew)); exact HO214.out) hg hat); have n2_ := Aside0.mk (hb); have n3_ := Aside0.mk (ho); clear HO_6; clear HO214; clear HB; clear HO_5; have HO_6 := n0_; have HO214 := n1_; have HB := n2_; have HO217 := n3_; clear n0_ n1_ n2_ n3_; clear ho hb hg hat; obtain ⟨Ao19, co19, eo19⟩ := Kd.R_slice HO217.out; subst eo19) | ((with_reducible refine gate_builtin (b := .append) (xs := #[.tmp 42, .tmp 45]) rfl ?_); (try (refine gate_guard (by rfl) ?_; dsimp only)); at_builtin; refine Kd.R_append (Kd.int .i64) (w0 := w) w.heap.size rfl (.tmp 42) (.tmp 45) 32 3 (.int .i64 0) 8 rfl Tryd.underlying32 info3 rfl (by decide) (by omega) u6 x6_2 (y215.length : Int) [.int .i64 (y215.length : Int)] (fun _ => True) (fun _ => False) rfl rfl ?aP (fun _ hk => hk.elim) ?aF ?aO ?aB ?aS ?aL ?_; (case aP => exact rfl); (case aB => exact (by repeat (first | (with_reducible first | exact HB.out | apply below_alloc | apply pw_below_drewN | apply below_drew1) | exact HB.out))); (case aF => exact (fun _ _ => trivial)); (case aO => exact (by (with_reducible repeat (first | apply Kd.R_alloc | apply Kd.R_drewN | apply Kd.R_drew)); exact HO_6.out)); (case aS => exact (below_size (by repeat (first | (with_reducible first | exact HB.out | apply below_alloc | apply pw_below_drewN | apply below_drew1) | exact HB.out)))); (case aL => have := LMc15.out; omega); intro v219 w20 ho hb hg hat; rw [← Ny218.out] at ho; have n0_ := Aside0.mk (Kd.R_over' (by (with_reducible repeat (first | apply Kd.R_alloc | apply Kd.R_drewN | apply Kd.R_drew)); exact HO214.out) (Kd.R_typed (by (with_reducible repeat (first | apply Kd.R_alloc | apply Kd.R_drewN | apply Kd.R_drew)); exact HO_6.out)) (by decide) hg); have n1_ := Aside0.mk (Kd.R_over' (by (with_reducible repeat (first | apply Kd.R_alloc | apply Kd.R_drewN | apply Kd.R_drew)); exact HO217.out) (Kd.R_typed (by (with_reducible repeat (first | apply Kd.R_alloc | apply Kd.R_drewN | apply Kd.R_drew)); exact HO_6.out)) (by decide) hg); have n2_ := Aside0.mk (hb); have n3_ := Aside0.mk (ho); clear HO214; clear HO217; clear HB; clear HO_6; have HO214 := n0_; have HO217 := n1_; have HB := n2_; have HO220 := n3_; clear n0_ n1_ n2_ n3_; clear ho hb hg hat))
                      go_roundg k2
                      case measure => have := HJ2.out; have := HK2.out; omega
                      case rel => exact ⟨(y215), (y218), (wrap64 (x7_2 + 1)), (by first | rfl | (simp; done) | (simp [*]; done)), H', ⟨by have := HJ2.out; have := HK2.out; omega⟩, ⟨by (with_reducible repeat (first | apply Kd.R_alloc | apply Kd.R_drewN | apply Kd.R_drew)); exact Kd.R_mono HO217.out (fun _ hk => trivial)⟩, ⟨by (with_reducible repeat (first | apply Kd.R_alloc | apply Kd.R_drewN | apply Kd.R_drew)); exact HO220.out⟩, ⟨by repeat (first | (with_reducible first | exact HB.out | apply below_alloc | apply pw_below_drewN | apply below_drew1) | exact HB.out)⟩⟩
                    · rw [if_neg c15] at H
                      exact absurd H (by simp)
                  · rw [if_neg c14] at H
                    exact absurd H (by simp)
              · rw [if_neg c9] at H
                exact absurd H (by simp)
            · rw [if_neg c8] at H
              have c8b0 : decide (x7_2 < (l0.length : Int)) = false := decide_eq_false c8
              clear c8
              by_cases c21 : (x5_2.length : Int) = 0
              · rw [if_pos c21] at H
                exact absurd H (by simp)
              · rw [if_neg c21] at H
                have c21b0 : ((x5_2.length : Int) == 0) = false := beq_eq_false_iff_ne.mpr c21
                have c21b1 : ((x5_2.length : Int) != 0) = true := bne_iff_ne.mpr c21
                have c21b2 : ¬ (x5_2 = []) := fun h_ => c21 (by rw [h_]; rfl)
                have H' := Aside0.mk H
                clear H
                obtain ⟨Ao22, co22, eo22⟩ := Kd.R_slice HO_5.out
                subst eo22
                go_wp2
                go_loopg [9, 10] k2 (fun kq v9 v10 w' => ∃ (x9_3 : Int) (x10_3 : Int), v9 = .int .i64 x9_3 ∧ v10 = .int .i64 x10_3 ∧ Aside0 (exequaturlaw11_FrameCuts.l1 kq l0 x5_2 x6_2 (Int.tmod (wrap64 (a1)) (x5_2.length : Int)) x9_3 x10_3 = some r) ∧ Aside0 (kq ≤ k2) ∧ Aside0 (Kd.R (Kd.int .u8) 5 w' w.heap.size (fun _ => True) (.slice Ao22 x5_2.length co22) x5_2) ∧ Aside0 (Kd.R (Kd.int .i64) 3 w' w.heap.size (fun _ => True) u6 x6_2) ∧ Aside0 (Below w.heap.size w w'))
                case atStart => exact ⟨(0), (0), (by first | rfl | (simp; done) | (simp [*]; done)), (by first | rfl | (simp; done) | (simp [*]; done)), H', ⟨Nat.le_refl _⟩, ⟨by (with_reducible repeat (first | apply Kd.R_alloc | apply Kd.R_drewN | apply Kd.R_drew)); exact HO_5.out⟩, ⟨by (with_reducible repeat (first | apply Kd.R_alloc | apply Kd.R_drewN | apply Kd.R_drew)); exact HO_6.out⟩, ⟨by repeat (first | (with_reducible first | exact HB.out | apply below_alloc | apply pw_below_drewN | apply below_drew1) | exact HB.out)⟩⟩
                case round =>
                  clear H'
                  try clear c1
                  try clear c2
                  try clear p2
                  try clear q2
                  try clear hx2
                  try clear c4
                  try clear c4b0
                  try clear c4b1
                  try clear c4b2
                  try clear c5
                  try clear p6
                  try clear c7
                  try clear c8
                  try clear c8b0
                  try clear c9
                  try clear c9b0
                  try clear c10
                  try clear c10b0
                  try clear c10b1
                  try clear c14
                  try clear c15
                  try clear c20
                  try clear p20
                  try clear q20
                  try clear hx20
                  try clear c21
                  try clear c21b0
                  try clear c21b1
                  try clear c21b2
                  try clear p21
                  try clear q21
                  try clear hx21
                  try clear hx209_0
                  try clear hx211_0
                  try clear p2
                  try clear p209
                  try clear p211
                  try clear q209
                  try clear q211
                  obtain ⟨x9_3, x10_3, rfl, rfl, HA, HK3, HO_5, HO_6, HB⟩ := hrel
                  cases gk with
                  | zero => exact absurd HA.out (by simp [exequaturlaw11_FrameCuts.l1])
                  | succ k3 =>
                    have H := HA.out
                    clear HA
                    simp only [exequaturlaw11_FrameCuts.l1] at H
                    by_cases c23 : x9_3 < (x6_2.length : Int)
                    · rw [if_pos c23] at H
                      have c23b0 : decide (x9_3 < (x6_2.length : Int)) = true := decide_eq_true c23
                      clear c23
                      by_cases c24 : 0 ≤ x9_3
                      · rw [if_pos c24] at H
                        have c24b0 : decide (0 ≤ x9_3) = true := decide_eq_true c24
                        clear c24
                        by_cases c25 : (rd x6_2 x9_3) ≤ (Int.tmod (wrap64 (a1)) (x5_2.length : Int))
                        · rw [if_pos c25] at H
                          have c25b0 : decide ((rd x6_2 x9_3) ≤ (Int.tmod (wrap64 (a1)) (x5_2.length : Int))) = true := decide_eq_true c25
                          clear c25
                          have H' := Aside0.mk H
                          clear H
                          obtain ⟨Ao26, co26, eo26⟩ := Kd.R_slice HO_6.out
                          subst eo26
                          have p221 : 0 ≤ (x9_3 : Int) := of_decide_eq_true (by first | (with_reducible assumption) | assumption)
                          have q221 : x9_3 < (x6_2.length : Int) := of_decide_eq_true (by first | (with_reducible assumption) | assumption)
                          obtain ⟨ad221, e221, hx221_0⟩ := Kd.at_int (Kd.R_reads' HO_6.out).2.2 x9_3 p221 q221
                          cases e221
                          replace p221 := eq_true p221
                          replace q221 := eq_true q221
                          have p222 : 0 ≤ (x9_3 : Int) := of_decide_eq_true (by first | (with_reducible assumption) | assumption)
                          have q222 : x9_3 < (x6_2.length : Int) := of_decide_eq_true (by first | (with_reducible assumption) | assumption)
                          obtain ⟨ad222, e222, hx222_0⟩ := Kd.at_int (Kd.R_reads' HO_6.out).2.2 x9_3 p222 q222
                          obtain rfl : ad221 = ad222 := (by injection e222)
                          replace p222 := eq_true p222
                          replace q222 := eq_true q222
                          go_wp2
                          go_roundg k3
                          case measure => have := HJ2.out; have := HK2.out; have := HK3.out; omega
                          case rel => exact ⟨(wrap64 (x9_3 + 1)), (rd x6_2 x9_3), (by first | rfl | (simp; done) | (simp [*]; done)), (by first | rfl | (simp; done) | (simp [*]; done)), H', ⟨by have := HJ2.out; have := HK2.out; have := HK3.out; omega⟩, ⟨by (with_reducible repeat (first | apply Kd.R_alloc | apply Kd.R_drewN | apply Kd.R_drew)); exact HO_5.out⟩, ⟨by (with_reducible repeat (first | apply Kd.R_alloc | apply Kd.R_drewN | apply Kd.R_drew)); exact HO_6.out⟩, ⟨by repeat (first | (with_reducible first | exact HB.out | apply below_alloc | apply pw_below_drewN | apply below_drew1) | exact HB.out)⟩⟩
                        · rw [if_neg c25] at H
                          have c25b0 : decide ((rd x6_2 x9_3) ≤ (Int.tmod (wrap64 (a1)) (x5_2.length : Int))) = false := decide_eq_false c25
                          clear c25
                          obtain ⟨ji27, hji27⟩ : ∃ j_ : Int, (Int.tmod (wrap64 (a1)) (x5_2.length : Int)) = j_ := ⟨_, rfl⟩
                          replace H : (if 0 ≤ (ji27) then (if (ji27) ≤ (x5_2.length : Int) then ((frame_Split.f (x5_2.take ((ji27) : Int).toNat)).bind fun bt227 => ((exequaturlaw11_answers.f).bind fun t231 => (if t231 = true then (if x9_3 ≤ (l0.length : Int) then ((exequaturlaw11_same.f k3 bt227.1 (l0.take (x9_3 : Int).toNat)).bind fun t236 => (if t236 = true then (some (bt227.2 == x10_3)) else (some false))) else (none)) else (some false)))) else (none)) else (none)) = some r := by first | (rw [hji27] at H; exact H) | (simp only [hji27] at H ⊢; exact H)
                          (try rw [hji27] at c25b0)
                          by_cases c28 : 0 ≤ (ji27)
                          · rw [if_pos c28] at H
                            have c28b0 := eq_true c28
                            have c28b1 : decide (0 ≤ (ji27)) = true := decide_eq_true c28
                            clear c28
                            by_cases c29 : (ji27) ≤ (x5_2.length : Int)
                            · rw [if_pos c29] at H
                              have c29b0 := eq_true c29
                              have c29b1 : decide ((ji27) ≤ (x5_2.length : Int)) = true := decide_eq_true c29
                              clear c29
                              obtain ⟨y223, hy223⟩ : ∃ y_ : List Int, y_ = (x5_2.take ((ji27) : Int).toNat) := ⟨_, rfl⟩
                              replace H : ((frame_Split.f y223).bind fun bt227 => ((exequaturlaw11_answers.f).bind fun t231 => (if t231 = true then (if x9_3 ≤ (l0.length : Int) then ((exequaturlaw11_same.f k3 bt227.1 (l0.take (x9_3 : Int).toNat)).bind fun t236 => (if t236 = true then (some (bt227.2 == x10_3)) else (some false))) else (none)) else (some false)))) = some r := by first | (rw [hy223]; with_reducible exact H) | (have H2_ := (Option.bind_some _ _).symm.trans H; rw [hy223]; with_reducible exact H2_) | (have H2_ := (Option.bind_some _ _).symm.trans H; with_reducible exact H2_) | with_reducible exact H | (rw [hy223]; exact H) | exact H
                              have Ny223 := Aside0.mk hy223
                              clear hy223
                              replace H := Option.bind_eq_some_iff.mp H
                              obtain ⟨⟨t227, t228⟩, A300, H⟩ := H
                              replace H : ((exequaturlaw11_answers.f).bind fun t231 => (if t231 = true then (if x9_3 ≤ (l0.length : Int) then ((exequaturlaw11_same.f k3 t227 (l0.take (x9_3 : Int).toNat)).bind fun t236 => (if t236 = true then (some (t228 == x10_3)) else (some false))) else (none)) else (some false))) = some r := H
                              have A30 := Aside0.mk A300
                              clear A300
                              replace H := Option.bind_eq_some_iff.mp H
                              obtain ⟨t231, A310, H⟩ := H
                              replace H : (if t231 = true then (if x9_3 ≤ (l0.length : Int) then ((exequaturlaw11_same.f k3 t227 (l0.take (x9_3 : Int).toNat)).bind fun t236 => (if t236 = true then (some (t228 == x10_3)) else (some false))) else (none)) else (some false)) = some r := H
                              have A31 := Aside0.mk A310
                              clear A310
                              by_cases c32 : t231 = true
                              · subst c32
                                have H1 : (if x9_3 ≤ (l0.length : Int) then ((exequaturlaw11_same.f k3 t227 (l0.take (x9_3 : Int).toNat)).bind fun t236 => (if t236 = true then (some (t228 == x10_3)) else (some false))) else (none)) = some r := by rw [if_pos rfl] at H; exact H
                                clear H
                                have H := H1
                                clear H1
                                have c33b0 := eq_true (of_decide_eq_true (by first | (with_reducible assumption) | assumption) : 0 ≤ x9_3)
                                by_cases c34 : x9_3 ≤ (l0.length : Int)
                                · rw [if_pos c34] at H
                                  have c34b0 := eq_true c34
                                  have c34b1 : decide (x9_3 ≤ (l0.length : Int)) = true := decide_eq_true c34
                                  clear c34
                                  obtain ⟨y232, hy232⟩ : ∃ y_ : List (List Int), y_ = (l0.take (x9_3 : Int).toNat) := ⟨_, rfl⟩
                                  replace H : ((exequaturlaw11_same.f k3 t227 y232).bind fun t236 => (if t236 = true then (some (t228 == x10_3)) else (some false))) = some r := by first | (rw [hy232]; with_reducible exact H) | (have H2_ := (Option.bind_some _ _).symm.trans H; rw [hy232]; with_reducible exact H2_) | (have H2_ := (Option.bind_some _ _).symm.trans H; with_reducible exact H2_) | with_reducible exact H | (rw [hy232]; exact H) | exact H
                                  have Ny232 := Aside0.mk hy232
                                  clear hy232
                                  replace H := Option.bind_eq_some_iff.mp H
                                  obtain ⟨t236, A350, H⟩ := H
                                  replace H : (if t236 = true then (some (t228 == x10_3)) else (some false)) = some r := H
                                  have A35 := Aside0.mk A350
                                  clear A350
                                  by_cases c36 : t236 = true
                                  · subst c36
                                    have H1 : (some (t228 == x10_3)) = some r := by rw [if_pos rfl] at H; exact H
                                    clear H
                                    have H := H1
                                    clear H1
                                    obtain rfl := Option.some.inj H
                                    obtain ⟨Ao37, co37, eo37⟩ := Kd.R_slice HO_6.out
                                    subst eo37
                                    have p221 : 0 ≤ (x9_3 : Int) := of_decide_eq_true (by first | (with_reducible assumption) | assumption)
                                    have q221 : x9_3 < (x6_2.length : Int) := of_decide_eq_true (by first | (with_reducible assumption) | assumption)
                                    obtain ⟨ad221, e221, hx221_0⟩ := Kd.at_int (Kd.R_reads' HO_6.out).2.2 x9_3 p221 q221
                                    cases e221
                                    replace p221 := eq_true p221
                                    replace q221 := eq_true q221
                                    have q38 : ((ji27) : Int) ≤ ((x5_2.length : Int) : Int) := of_decide_eq_true (by first | (with_reducible assumption) | assumption)
                                    obtain ⟨i038, hi038, _, hsz38, _⟩ := info_parts info5
                                    have hroom38 : x5_2.length ≤ co22 := (Kd.R_reads' HO_5.out).2.1
                                    have hC38 : Kd.C (Kd.int .u8) _ Ao22 x5_2.length x5_2 := (Kd.R_reads' HO_5.out).2.2
                                    have hcut38 := cut_to (P := Tryd.prog) 23 5 .i64 Tryd.underlying23 hi038 Ao22 x5_2.length co22 (ji27) (of_decide_eq_true (by first | (with_reducible assumption) | assumption)) q38 hroom38
                                    have hr38 := Kd.C_take (m := ((ji27) : Int).toNat) hC38 (by omega)
                                    have hy38 : y223.length = ((ji27) : Int).toNat := (by rw [Ny223.out, List.length_take]; omega)
                                    rw [← Ny223.out] at hr38
                                    rw [← hy38] at hcut38
                                    have HR226 := Aside0.mk hr38
                                    have HC226 := Aside0.mk (show y223.length ≤ co22 from by omega)
                                    clear hr38 hC38 hroom38 hi038 hsz38
                                    have KY38 := Aside0.mk hy38
                                    clear hy38
                                    have KL38 := Aside0.mk (show ((ji27) : Int).toNat ≤ x5_2.length from by omega)
                                    replace q38 := eq_true q38
                                    go_wp2_with (first | ((with_reducible refine gate_callee (f := 10) rfl ?_); refine goesL_ (some 74) rfl rfl Tryd.func10 (by kernel_rfl) rfl #[.slice Ao22 y223.length co22] rfl (by (try simp only [List.map_toArray, List.map_cons, List.map_nil]); first | done | rfl | (simp only [List.length_drop, List.length_take]; rfl)) ?_; (with_reducible refine (frame_Split.calls _ _ y223 t227 t228 _ ?side1 ?side2 A30.out (GL.below HGL.out (by repeat (first | (with_reducible first | exact HB.out | apply below_alloc | apply pw_below_drewN | apply below_drew1) | exact HB.out)))).mono ?_); (case side1 => repeat (first | exact (by repeat (first | (with_reducible exact HR226.out) | (with_reducible refine Kd.C_alloc ?_ _) | (with_reducible refine Kd.C_drewN ?_ _) | (with_reducible refine Kd.C_drew ?_) | exact HR226.out)) | (with_reducible refine Kd.C_alloc ?_ _) | (with_reducible refine Kd.C_drewN ?_ _) | (with_reducible refine Kd.C_drew ?_))); (case side2 => exact HC226.out); rintro e w39 ⟨v229, rfl, ho0, hb⟩; refine ⟨_, rfl, ?_⟩; have n0_ := Aside0.mk (Kd.R_below (by (with_reducible repeat (first | apply Kd.R_alloc | apply Kd.R_drewN | apply Kd.R_drew)); exact HO_5.out) hb); have n1_ := Aside0.mk (Kd.R_below (by (with_reducible repeat (first | apply Kd.R_alloc | apply Kd.R_drewN | apply Kd.R_drew)); exact HO_6.out) hb); have n2_ := Aside0.mk (Kd.S_lower (Kd.S_new' ho0 (Kd.R_lt (by (with_reducible repeat (first | apply Kd.R_alloc | apply Kd.R_drewN | apply Kd.R_drew)); exact HO_5.out))) (below_size (by repeat (first | (with_reducible first | exact HB.out | apply below_alloc | apply pw_below_drewN | apply below_drew1) | exact HB.out)))); have n3_ := Aside0.mk (Kd.C_below (by repeat (first | (with_reducible exact HR226.out) | (with_reducible refine Kd.C_alloc ?_ _) | (with_reducible refine Kd.C_drewN ?_ _) | (with_reducible refine Kd.C_drew ?_) | exact HR226.out)) hb); have n4_ := Aside0.mk (below_step (by repeat (first | (with_reducible first | exact HB.out | apply below_alloc | apply pw_below_drewN | apply below_drew1) | exact HB.out)) hb); clear HO_5; clear HO_6; clear HR226; clear HB; have HO_5 := n0_; have HO_6 := n1_; have HO230 := n2_; have HR226 := n3_; have HB := n4_; clear n0_ n1_ n2_ n3_ n4_; (try clear hb); (try clear hb2); (try clear hk); (try clear hi); (try clear ho0)) | ((with_reducible refine gate_callee (f := 7) rfl ?_); refine goesL_ (some 77) rfl rfl Tryd.func7 (by kernel_rfl) rfl #[] rfl (by (try simp only [List.map_toArray, List.map_cons, List.map_nil]); first | done | rfl | (simp only [List.length_drop, List.length_take]; rfl)) ?_; (with_reducible refine (exequaturlaw11_answers.calls  true _ A31.out (GL.below HGL.out (by repeat (first | (with_reducible first | exact HB.out | apply below_alloc | apply pw_below_drewN | apply below_drew1) | exact HB.out)))).mono ?_); rintro e w40 ⟨rfl, hb⟩; refine ⟨_, rfl, ?_⟩; have n0_ := Aside0.mk (Kd.R_below (by (with_reducible repeat (first | apply Kd.R_alloc | apply Kd.R_drewN | apply Kd.R_drew)); exact HO_5.out) hb); have n1_ := Aside0.mk (Kd.R_below (by (with_reducible repeat (first | apply Kd.R_alloc | apply Kd.R_drewN | apply Kd.R_drew)); exact HO_6.out) hb); have n2_ := Aside0.mk (Kd.S_below (by (with_reducible repeat (first | apply Kd.S_alloc | apply Kd.S_drewN | apply Kd.S_drew)); exact HO230.out) hb); have n3_ := Aside0.mk (Kd.C_below (by repeat (first | (with_reducible exact HR226.out) | (with_reducible refine Kd.C_alloc ?_ _) | (with_reducible refine Kd.C_drewN ?_ _) | (with_reducible refine Kd.C_drew ?_) | exact HR226.out)) hb); have n4_ := Aside0.mk (below_step (by repeat (first | (with_reducible first | exact HB.out | apply below_alloc | apply pw_below_drewN | apply below_drew1) | exact HB.out)) hb); clear HO_5; clear HO_6; clear HO230; clear HR226; clear HB; have HO_5 := n0_; have HO_6 := n1_; have HO230 := n2_; have HR226 := n3_; have HB := n4_; clear n0_ n1_ n2_ n3_ n4_; (try clear hb); (try clear hb2); (try clear hk); (try clear hi); have q41 : (x9_3 : Int) ≤ ((l0.length : Int) : Int) := of_decide_eq_true (by first | (with_reducible assumption) | assumption); obtain ⟨i041, hi041, _, hsz41, _⟩ := info_parts info23; have hroom41 : l0.length ≤ c0 := HC0.out; have hC41 : Kd.C (Kd.slice 5 (Kd.int .u8)) _ A0 l0.length l0 := HR0.out; have hcut41 := cut_to (P := Tryd.prog) 22 23 .i64 Tryd.underlying22 hi041 A0 l0.length c0 x9_3 (of_decide_eq_true (by first | (with_reducible assumption) | assumption)) q41 hroom41; have hr41 := Kd.C_take (m := (x9_3 : Int).toNat) hC41 (by omega); have hy41 : y232.length = (x9_3 : Int).toNat := (by rw [Ny232.out, List.length_take]; omega); rw [← Ny232.out] at hr41; rw [← hy41] at hcut41; have HR235 := Aside0.mk hr41; have HC235 := Aside0.mk (show y232.length ≤ c0 from by omega); clear hr41 hC41 hroom41 hi041 hsz41; have KY41 := Aside0.mk hy41; clear hy41; replace q41 := eq_true q41; obtain ⟨Ao42, co42, eo42⟩ := Kd.S_slice HO230.out; subst eo42) | (go_at_call 11; (with_reducible refine (exequaturlaw11_same.calls k3 _ _ t227 _ _ y232 true _ ?side1 ?side2 ?side3 ?side4 A35.out).mono ?_); (case side1 => repeat (first | exact (Kd.S_reads' HO230.out).2.2 | (with_reducible refine Kd.C_alloc ?_ _) | (with_reducible refine Kd.C_drewN ?_ _) | (with_reducible refine Kd.C_drew ?_))); (case side2 => exact (Kd.S_reads' HO230.out).2.1); (case side3 => repeat (first | exact (Kd.C_below HR235.out HB.out) | (with_reducible refine Kd.C_alloc ?_ _) | (with_reducible refine Kd.C_drewN ?_ _) | (with_reducible refine Kd.C_drew ?_))); (case side4 => exact HC235.out); rintro e w' ⟨rfl, ⟨nd, rfl⟩⟩))
                                    go_ret
                                    exact ⟨by first | rfl | (simp [errW_none, errW_some] <;> rfl) | (simp only [← hji27]; first | rfl | (simp [errW_none, errW_some] <;> rfl)) | (simp [*, errW_none, errW_some] <;> rfl), by repeat (first | (with_reducible first | exact HB.out | apply below_alloc | apply pw_below_drewN | apply below_drew1) | exact HB.out)⟩
                                  · replace c36 := Bool.eq_false_iff.mpr c36
                                    subst c36
                                    have H1 : (some false) = some r := by rw [if_neg (show ¬ (false = true) by decide)] at H; exact H
                                    clear H
                                    have H := H1
                                    clear H1
                                    obtain rfl := Option.some.inj H
                                    obtain ⟨Ao43, co43, eo43⟩ := Kd.R_slice HO_6.out
                                    subst eo43
                                    have p221 : 0 ≤ (x9_3 : Int) := of_decide_eq_true (by first | (with_reducible assumption) | assumption)
                                    have q221 : x9_3 < (x6_2.length : Int) := of_decide_eq_true (by first | (with_reducible assumption) | assumption)
                                    obtain ⟨ad221, e221, hx221_0⟩ := Kd.at_int (Kd.R_reads' HO_6.out).2.2 x9_3 p221 q221
                                    cases e221
                                    replace p221 := eq_true p221
                                    replace q221 := eq_true q221
                                    have q44 : ((ji27) : Int) ≤ ((x5_2.length : Int) : Int) := of_decide_eq_true (by first | (with_reducible assumption) | assumption)
                                    obtain ⟨i044, hi044, _, hsz44, _⟩ := info_parts info5
                                    have hroom44 : x5_2.length ≤ co22 := (Kd.R_reads' HO_5.out).2.1
                                    have hC44 : Kd.C (Kd.int .u8) _ Ao22 x5_2.length x5_2 := (Kd.R_reads' HO_5.out).2.2
                                    have hcut44 := cut_to (P := Tryd.prog) 23 5 .i64 Tryd.underlying23 hi044 Ao22 x5_2.length co22 (ji27) (of_decide_eq_true (by first | (with_reducible assumption) | assumption)) q44 hroom44
                                    have hr44 := Kd.C_take (m := ((ji27) : Int).toNat) hC44 (by omega)
                                    have hy44 : y223.length = ((ji27) : Int).toNat := (by rw [Ny223.out, List.length_take]; omega)
                                    rw [← Ny223.out] at hr44
                                    rw [← hy44] at hcut44
                                    have HR226 := Aside0.mk hr44
                                    have HC226 := Aside0.mk (show y223.length ≤ co22 from by omega)
                                    clear hr44 hC44 hroom44 hi044 hsz44
                                    have KY44 := Aside0.mk hy44
                                    clear hy44
                                    have KL44 := Aside0.mk (show ((ji27) : Int).toNat ≤ x5_2.length from by omega)
                                    replace q44 := eq_true q44
                                    go_wp2_with (first | ((with_reducible refine gate_callee (f := 10) rfl ?_); refine goesL_ (some 74) rfl rfl Tryd.func10 (by kernel_rfl) rfl #[.slice Ao22 y223.length co22] rfl (by (try simp only [List.map_toArray, List.map_cons, List.map_nil]); first | done | rfl | (simp only [List.length_drop, List.length_take]; rfl)) ?_; (with_reducible refine (frame_Split.calls _ _ y223 t227 t228 _ ?side1 ?side2 A30.out (GL.below HGL.out (by repeat (first | (with_reducible first | exact HB.out | apply below_alloc | apply pw_below_drewN | apply below_drew1) | exact HB.out)))).mono ?_); (case side1 => repeat (first | exact (by repeat (first | (with_reducible exact HR226.out) | (with_reducible refine Kd.C_alloc ?_ _) | (with_reducible refine Kd.C_drewN ?_ _) | (with_reducible refine Kd.C_drew ?_) | exact HR226.out)) | (with_reducible refine Kd.C_alloc ?_ _) | (with_reducible refine Kd.C_drewN ?_ _) | (with_reducible refine Kd.C_drew ?_))); (case side2 => exact HC226.out); rintro e w45 ⟨v229, rfl, ho0, hb⟩; refine ⟨_, rfl, ?_⟩; have n0_ := Aside0.mk (Kd.R_below (by (with_reducible repeat (first | apply Kd.R_alloc | apply Kd.R_drewN | apply Kd.R_drew)); exact HO_5.out) hb); have n1_ := Aside0.mk (Kd.R_below (by (with_reducible repeat (first | apply Kd.R_alloc | apply Kd.R_drewN | apply Kd.R_drew)); exact HO_6.out) hb); have n2_ := Aside0.mk (Kd.S_lower (Kd.S_new' ho0 (Kd.R_lt (by (with_reducible repeat (first | apply Kd.R_alloc | apply Kd.R_drewN | apply Kd.R_drew)); exact HO_5.out))) (below_size (by repeat (first | (with_reducible first | exact HB.out | apply below_alloc | apply pw_below_drewN | apply below_drew1) | exact HB.out)))); have n3_ := Aside0.mk (Kd.C_below (by repeat (first | (with_reducible exact HR226.out) | (with_reducible refine Kd.C_alloc ?_ _) | (with_reducible refine Kd.C_drewN ?_ _) | (with_reducible refine Kd.C_drew ?_) | exact HR226.out)) hb); have n4_ := Aside0.mk (below_step (by repeat (first | (with_reducible first | exact HB.out | apply below_alloc | apply pw_below_drewN | apply below_drew1) | exact HB.out)) hb); clear HO_5; clear HO_6; clear HR226; clear HB; have HO_5 := n0_; have HO_6 := n1_; have HO230 := n2_; have HR226 := n3_; have HB := n4_; clear n0_ n1_ n2_ n3_ n4_; (try clear hb); (try clear hb2); (try clear hk); (try clear hi); (try clear ho0)) | ((with_reducible refine gate_callee (f := 7) rfl ?_); refine goesL_ (some 77) rfl rfl Tryd.func7 (by kernel_rfl) rfl #[] rfl (by (try simp only [List.map_toArray, List.map_cons, List.map_nil]); first | done | rfl | (simp only [List.length_drop, List.length_take]; rfl)) ?_; (with_reducible refine (exequaturlaw11_answers.calls  true _ A31.out (GL.below HGL.out (by repeat (first | (with_reducible first | exact HB.out | apply below_alloc | apply pw_below_drewN | apply below_drew1) | exact HB.out)))).mono ?_); rintro e w46 ⟨rfl, hb⟩; refine ⟨_, rfl, ?_⟩; have n0_ := Aside0.mk (Kd.R_below (by (with_reducible repeat (first | apply Kd.R_alloc | apply Kd.R_drewN | apply Kd.R_drew)); exact HO_5.out) hb); have n1_ := Aside0.mk (Kd.R_below (by (with_reducible repeat (first | apply Kd.R_alloc | apply Kd.R_drewN | apply Kd.R_drew)); exact HO_6.out) hb); have n2_ := Aside0.mk (Kd.S_below (by (with_reducible repeat (first | apply Kd.S_alloc | apply Kd.S_drewN | apply Kd.S_drew)); exact HO230.out) hb); have n3_ := Aside0.mk (Kd.C_below (by repeat (first | (with_reducible exact HR226.out) | (with_reducible refine Kd.C_alloc ?_ _) | (with_reducible refine Kd.C_drewN ?_ _) | (with_reducible refine Kd.C_drew ?_) | exact HR226.out)) hb); have n4_ := Aside0.mk (below_step (by repeat (first | (with_reducible first | exact HB.out | apply below_alloc | apply pw_below_drewN | apply below_drew1) | exact HB.out)) hb); clear HO_5; clear HO_6; clear HO230; clear HR226; clear HB; have HO_5 := n0_; have HO_6 := n1_; have HO230 := n2_; have HR226 := n3_; have HB := n4_; clear n0_ n1_ n2_ n3_ n4_; (try clear hb); (try clear hb2); (try clear hk); (try clear hi); have q47 : (x9_3 : Int) ≤ ((l0.length : Int) : Int) := of_decide_eq_true (by first | (with_reducible assumption) | assumption); obtain ⟨i047, hi047, _, hsz47, _⟩ := info_parts info23; have hroom47 : l0.length ≤ c0 := HC0.out; have hC47 : Kd.C (Kd.slice 5 (Kd.int .u8)) _ A0 l0.length l0 := HR0.out; have hcut47 := cut_to (P := Tryd.prog) 22 23 .i64 Tryd.underlying22 hi047 A0 l0.length c0 x9_3 (of_decide_eq_true (by first | (with_reducible assumption) | assumption)) q47 hroom47; have hr47 := Kd.C_take (m := (x9_3 : Int).toNat) hC47 (by omega); have hy47 : y232.length = (x9_3 : Int).toNat := (by rw [Ny232.out, List.length_take]; omega); rw [← Ny232.out] at hr47; rw [← hy47] at hcut47; have HR235 := Aside0.mk hr47; have HC235 := Aside0.mk (show y232.length ≤ c0 from by omega); clear hr47 hC47 hroom47 hi047 hsz47; have KY47 := Aside0.mk hy47; clear hy47; replace q47 := eq_true q47; obtain ⟨Ao48, co48, eo48⟩ := Kd.S_slice HO230.out; subst eo48) | (go_at_call 11; (with_reducible refine (exequaturlaw11_same.calls k3 _ _ t227 _ _ y232 false _ ?side1 ?side2 ?side3 ?side4 A35.out).mono ?_); (case side1 => repeat (first | exact (Kd.S_reads' HO230.out).2.2 | (with_reducible refine Kd.C_alloc ?_ _) | (with_reducible refine Kd.C_drewN ?_ _) | (with_reducible refine Kd.C_drew ?_))); (case side2 => exact (Kd.S_reads' HO230.out).2.1); (case side3 => repeat (first | exact (Kd.C_below HR235.out HB.out) | (with_reducible refine Kd.C_alloc ?_ _) | (with_reducible refine Kd.C_drewN ?_ _) | (with_reducible refine Kd.C_drew ?_))); (case side4 => exact HC235.out); rintro e w' ⟨rfl, ⟨nd, rfl⟩⟩))
                                    go_ret
                                    exact ⟨by first | rfl | (simp [errW_none, errW_some] <;> rfl) | (simp only [← hji27]; first | rfl | (simp [errW_none, errW_some] <;> rfl)) | (simp [*, errW_none, errW_some] <;> rfl), by repeat (first | (with_reducible first | exact HB.out | apply below_alloc | apply pw_below_drewN | apply below_drew1) | exact HB.out)⟩
                                · rw [if_neg c34] at H
                                  exact absurd H (by simp)
                              · replace c32 := Bool.eq_false_iff.mpr c32
                                subst c32
                                have H1 : (some false) = some r := by rw [if_neg (show ¬ (false = true) by decide)] at H; exact H
                                clear H
                                have H := H1
                                clear H1
                                obtain rfl := Option.some.inj H
                                obtain ⟨Ao49, co49, eo49⟩ := Kd.R_slice HO_6.out
                                subst eo49
                                have p221 : 0 ≤ (x9_3 : Int) := of_decide_eq_true (by first | (with_reducible assumption) | assumption)
                                have q221 : x9_3 < (x6_2.length : Int) := of_decide_eq_true (by first | (with_reducible assumption) | assumption)
                                obtain ⟨ad221, e221, hx221_0⟩ := Kd.at_int (Kd.R_reads' HO_6.out).2.2 x9_3 p221 q221
                                cases e221
                                replace p221 := eq_true p221
                                replace q221 := eq_true q221
                                have q50 : ((ji27) : Int) ≤ ((x5_2.length : Int) : Int) := of_decide_eq_true (by first | (with_reducible assumption) | assumption)
                                obtain ⟨i050, hi050, _, hsz50, _⟩ := info_parts info5
                                have hroom50 : x5_2.length ≤ co22 := (Kd.R_reads' HO_5.out).2.1
                                have hC50 : Kd.C (Kd.int .u8) _ Ao22 x5_2.length x5_2 := (Kd.R_reads' HO_5.out).2.2
                                have hcut50 := cut_to (P := Tryd.prog) 23 5 .i64 Tryd.underlying23 hi050 Ao22 x5_2.length co22 (ji27) (of_decide_eq_true (by first | (with_reducible assumption) | assumption)) q50 hroom50
                                have hr50 := Kd.C_take (m := ((ji27) : Int).toNat) hC50 (by omega)
                                have hy50 : y223.length = ((ji27) : Int).toNat := (by rw [Ny223.out, List.length_take]; omega)
                                rw [← Ny223.out] at hr50
                                rw [← hy50] at hcut50
                                have HR226 := Aside0.mk hr50
                                have HC226 := Aside0.mk (show y223.length ≤ co22 from by omega)
                                clear hr50 hC50 hroom50 hi050 hsz50
                                have KY50 := Aside0.mk hy50
                                clear hy50
                                have KL50 := Aside0.mk (show ((ji27) : Int).toNat ≤ x5_2.length from by omega)
                                replace q50 := eq_true q50
                                go_wp2_with (first | ((with_reducible refine gate_callee (f := 10) rfl ?_); refine goesL_ (some 74) rfl rfl Tryd.func10 (by kernel_rfl) rfl #[.slice Ao22 y223.length co22] rfl (by (try simp only [List.map_toArray, List.map_cons, List.map_nil]); first | done | rfl | (simp only [List.length_drop, List.length_take]; rfl)) ?_; (with_reducible refine (frame_Split.calls _ _ y223 t227 t228 _ ?side1 ?side2 A30.out (GL.below HGL.out (by repeat (first | (with_reducible first | exact HB.out | apply below_alloc | apply pw_below_drewN | apply below_drew1) | exact HB.out)))).mono ?_); (case side1 => repeat (first | exact (by repeat (first | (with_reducible exact HR226.out) | (with_reducible refine Kd.C_alloc ?_ _) | (with_reducible refine Kd.C_drewN ?_ _) | (with_reducible refine Kd.C_drew ?_) | exact HR226.out)) | (with_reducible refine Kd.C_alloc ?_ _) | (with_reducible refine Kd.C_drewN ?_ _) | (with_reducible refine Kd.C_drew ?_))); (case side2 => exact HC226.out); rintro e w51 ⟨v229, rfl, ho0, hb⟩; refine ⟨_, rfl, ?_⟩; have n0_ := Aside0.mk (Kd.R_below (by (with_reducible repeat (first | apply Kd.R_alloc | apply Kd.R_drewN | apply Kd.R_drew)); exact HO_5.out) hb); have n1_ := Aside0.mk (Kd.R_below (by (with_reducible repeat (first | apply Kd.R_alloc | apply Kd.R_drewN | apply Kd.R_drew)); exact HO_6.out) hb); have n2_ := Aside0.mk (Kd.S_lower (Kd.S_new' ho0 (Kd.R_lt (by (with_reducible repeat (first | apply Kd.R_alloc | apply Kd.R_drewN | apply Kd.R_drew)); exact HO_5.out))) (below_size (by repeat (first | (with_reducible first | exact HB.out | apply below_alloc | apply pw_below_drewN | apply below_drew1) | exact HB.out)))); have n3_ := Aside0.mk (Kd.C_below (by repeat (first | (with_reducible exact HR226.out) | (with_reducible refine Kd.C_alloc ?_ _) | (with_reducible refine Kd.C_drewN ?_ _) | (with_reducible refine Kd.C_drew ?_) | exact HR226.out)) hb); have n4_ := Aside0.mk (below_step (by repeat (first | (with_reducible first | exact HB.out | apply below_alloc | apply pw_below_drewN | apply below_drew1) | exact HB.out)) hb); clear HO_5; clear HO_6; clear HR226; clear HB; have HO_5 := n0_; have HO_6 := n1_; have HO230 := n2_; have HR226 := n3_; have HB := n4_; clear n0_ n1_ n2_ n3_ n4_; (try clear hb); (try clear hb2); (try clear hk); (try clear hi); (try clear ho0)) | ((with_reducible refine gate_callee (f := 7) rfl ?_); refine goesL_ (some 77) rfl rfl Tryd.func7 (by kernel_rfl) rfl #[] rfl (by (try simp only [List.map_toArray, List.map_cons, List.map_nil]); first | done | rfl | (simp only [List.length_drop, List.length_take]; rfl)) ?_; (with_reducible refine (exequaturlaw11_answers.calls  false _ A31.out (GL.below HGL.out (by repeat (first | (with_reducible first | exact HB.out | apply below_alloc | apply pw_below_drewN | apply below_drew1) | exact HB.out)))).mono ?_); rintro e w52 ⟨rfl, hb⟩; refine ⟨_, rfl, ?_⟩; have n0_ := Aside0.mk (Kd.R_below (by (with_reducible repeat (first | apply Kd.R_alloc | apply Kd.R_drewN | apply Kd.R_drew)); exact HO_5.out) hb); have n1_ := Aside0.mk (Kd.R_below (by (with_reducible repeat (first | apply Kd.R_alloc | apply Kd.R_drewN | apply Kd.R_drew)); exact HO_6.out) hb); have n2_ := Aside0.mk (Kd.S_below (by (with_reducible repeat (first | apply Kd.S_alloc | apply Kd.S_drewN | apply Kd.S_drew)); exact HO230.out) hb); have n3_ := Aside0.mk (Kd.C_below (by repeat (first | (with_reducible exact HR226.out) | (with_reducible refine Kd.C_alloc ?_ _) | (with_reducible refine Kd.C_drewN ?_ _) | (with_reducible refine Kd.C_drew ?_) | exact HR226.out)) hb); have n4_ := Aside0.mk (below_step (by repeat (first | (with_reducible first | exact HB.out | apply below_alloc | apply pw_below_drewN | apply below_drew1) | exact HB.out)) hb); clear HO_5; clear HO_6; clear HO230; clear HR226; clear HB; have HO_5 := n0_; have HO_6 := n1_; have HO230 := n2_; have HR226 := n3_; have HB := n4_; clear n0_ n1_ n2_ n3_ n4_; (try clear hb); (try clear hb2); (try clear hk); (try clear hi)))
                                go_ret
                                exact ⟨by first | rfl | (simp [errW_none, errW_some] <;> rfl) | (simp only [← hji27]; first | rfl | (simp [errW_none, errW_some] <;> rfl)) | (simp [*, errW_none, errW_some] <;> rfl), by repeat (first | (with_reducible first | exact HB.out | apply below_alloc | apply pw_below_drewN | apply below_drew1) | exact HB.out)⟩
                            · rw [if_neg c29] at H
                              exact absurd H (by simp)
                          · rw [if_neg c28] at H
                            exact absurd H (by simp)
                      · rw [if_neg c24] at H
                        exact absurd H (by simp)
                    · rw [if_neg c23] at H
                      have c23b0 : decide (x9_3 < (x6_2.length : Int)) = false := decide_eq_false c23
                      clear c23
                      obtain ⟨ji53, hji53⟩ : ∃ j_ : Int, (Int.tmod (wrap64 (a1)) (x5_2.length : Int)) = j_ := ⟨_, rfl⟩
                      replace H : (if 0 ≤ (ji53) then (if (ji53) ≤ (x5_2.length : Int) then ((frame_Split.f (x5_2.take ((ji53) : Int).toNat)).bind fun bt241 => ((exequaturlaw11_answers.f).bind fun t245 => (if t245 = true then (if 0 ≤ x9_3 then (if x9_3 ≤ (l0.length : Int) then ((exequaturlaw11_same.f k3 bt241.1 (l0.take (x9_3 : Int).toNat)).bind fun t250 => (if t250 = true then (some (bt241.2 == x10_3)) else (some false))) else (none)) else (none)) else (some false)))) else (none)) else (none)) = some r := by first | (rw [hji53] at H; exact H) | (simp only [hji53] at H ⊢; exact H)
                      by_cases c54 : 0 ≤ (ji53)
                      · rw [if_pos c54] at H
                        have c54b0 := eq_true c54
                        have c54b1 : decide (0 ≤ (ji53)) = true := decide_eq_true c54
                        clear c54
                        by_cases c55 : (ji53) ≤ (x5_2.length : Int)
                        · rw [if_pos c55] at H
                          have c55b0 := eq_true c55
                          have c55b1 : decide ((ji53) ≤ (x5_2.length : Int)) = true := decide_eq_true c55
                          clear c55
                          obtain ⟨y237, hy237⟩ : ∃ y_ : List Int, y_ = (x5_2.take ((ji53) : Int).toNat) := ⟨_, rfl⟩
                          replace H : ((frame_Split.f y237).bind fun bt241 => ((exequaturlaw11_answers.f).bind fun t245 => (if t245 = true then (if 0 ≤ x9_3 then (if x9_3 ≤ (l0.length : Int) then ((exequaturlaw11_same.f k3 bt241.1 (l0.take (x9_3 : Int).toNat)).bind fun t250 => (if t250 = true then (some (bt241.2 == x10_3)) else (some false))) else (none)) else (none)) else (some false)))) = some r := by first | (rw [hy237]; with_reducible exact H) | (have H2_ := (Option.bind_some _ _).symm.trans H; rw [hy237]; with_reducible exact H2_) | (have H2_ := (Option.bind_some _ _).symm.trans H; with_reducible exact H2_) | with_reducible exact H | (rw [hy237]; exact H) | exact H
                          have Ny237 := Aside0.mk hy237
                          clear hy237
                          replace H := Option.bind_eq_some_iff.mp H
                          obtain ⟨⟨t241, t242⟩, A560, H⟩ := H
                          replace H : ((exequaturlaw11_answers.f).bind fun t245 => (if t245 = true then (if 0 ≤ x9_3 then (if x9_3 ≤ (l0.length : Int) then ((exequaturlaw11_same.f k3 t241 (l0.take (x9_3 : Int).toNat)).bind fun t250 => (if t250 = true then (some (t242 == x10_3)) else (some false))) else (none)) else (none)) else (some false))) = some r := H
                          have A56 := Aside0.mk A560
                          clear A560
                          replace H := Option.bind_eq_some_iff.mp H
                          obtain ⟨t245, A570, H⟩ := H
                          replace H : (if t245 = true then (if 0 ≤ x9_3 then (if x9_3 ≤ (l0.length : Int) then ((exequaturlaw11_same.f k3 t241 (l0.take (x9_3 : Int).toNat)).bind fun t250 => (if t250 = true then (some (t242 == x10_3)) else (some false))) else (none)) else (none)) else (some false)) = some r := H
                          have A57 := Aside0.mk A570
                          clear A570
                          by_cases c58 : t245 = true
                          · subst c58
                            have H1 : (if 0 ≤ x9_3 then (if x9_3 ≤ (l0.length : Int) then ((exequaturlaw11_same.f k3 t241 (l0.take (x9_3 : Int).toNat)).bind fun t250 => (if t250 = true then (some (t242 == x10_3)) else (some false))) else (none)) else (none)) = some r := by rw [if_pos rfl] at H; exact H
                            clear H
                            have H := H1
                            clear H1
                            by_cases c59 : 0 ≤ x9_3
                            · rw [if_pos c59] at H
                              have c59b0 := eq_true c59
                              have c59b1 : decide (0 ≤ x9_3) = true := decide_eq_true c59
                              clear c59
                              by_cases c60 : x9_3 ≤ (l0.length : Int)
                              · rw [if_pos c60] at H
                                have c60b0 := eq_true c60
                                have c60b1 : decide (x9_3 ≤ (l0.length : Int)) = true := decide_eq_true c60
                                clear c60
                                obtain ⟨y246, hy246⟩ : ∃ y_ : List (List Int), y_ = (l0.take (x9_3 : Int).toNat) := ⟨_, rfl⟩
                                replace H : ((exequaturlaw11_same.f k3 t241 y246).bind fun t250 => (if t250 = true then (some (t242 == x10_3)) else (some false))) = some r := by first | (rw [hy246]; with_reducible exact H) | (have H2_ := (Option.bind_some _ _).symm.trans H; rw [hy246]; with_reducible exact H2_) | (have H2_ := (Option.bind_some _ _).symm.trans H; with_reducible exact H2_) | with_reducible exact H | (rw [hy246]; exact H) | exact H
                                have Ny246 := Aside0.mk hy246
                                clear hy246
                                replace H := Option.bind_eq_some_iff.mp H
                                obtain ⟨t250, A610, H⟩ := H
                                replace H : (if t250 = true then (some (t242 == x10_3)) else (some false)) = some r := H
                                have A61 := Aside0.mk A610
                                clear A610
                                by_cases c62 : t250 = true
                                · subst c62
                                  have H1 : (some (t242 == x10_3)) = some r := by rw [if_pos rfl] at H; exact H
                                  clear H
                                  have H := H1
                                  clear H1
                                  obtain rfl := Option.some.inj H
                                  obtain ⟨Ao63, co63, eo63⟩ := Kd.R_slice HO_6.out
                                  subst eo63
                                  have q64 : ((ji53) : Int) ≤ ((x5_2.length : Int) : Int) := of_decide_eq_true (by first | (with_reducible assumption) | assumption)
                                  obtain ⟨i064, hi064, _, hsz64, _⟩ := info_parts info5
                                  have hroom64 : x5_2.length ≤ co22 := (Kd.R_reads' HO_5.out).2.1
                                  have hC64 : Kd.C (Kd.int .u8) _ Ao22 x5_2.length x5_2 := (Kd.R_reads' HO_5.out).2.2
                                  have hcut64 := cut_to (P := Tryd.prog) 23 5 .i64 Tryd.underlying23 hi064 Ao22 x5_2.length co22 (ji53) (of_decide_eq_true (by first | (with_reducible assumption) | assumption)) q64 hroom64
                                  have hr64 := Kd.C_take (m := ((ji53) : Int).toNat) hC64 (by omega)
                                  have hy64 : y237.length = ((ji53) : Int).toNat := (by rw [Ny237.out, List.length_take]; omega)
                                  rw [← Ny237.out] at hr64
                                  rw [← hy64] at hcut64
                                  have HR240 := Aside0.mk hr64
                                  have HC240 := Aside0.mk (show y237.length ≤ co22 from by omega)
                                  clear hr64 hC64 hroom64 hi064 hsz64
                                  have KY64 := Aside0.mk hy64
                                  clear hy64
                                  have KL64 := Aside0.mk (show ((ji53) : Int).toNat ≤ x5_2.length from by omega)
                                  replace q64 := eq_true q64
                                  go_wp2_with (first | ((with_reducible refine gate_callee (f := 10) rfl ?_); refine goesL_ (some 74) rfl rfl Tryd.func10 (by kernel_rfl) rfl #[.slice Ao22 y237.length co22] rfl (by (try simp only [List.map_toArray, List.map_cons, List.map_nil]); first | done | rfl | (simp only [List.length_drop, List.length_take]; rfl)) ?_; (with_reducible refine (frame_Split.calls _ _ y237 t241 t242 _ ?side1 ?side2 A56.out (GL.below HGL.out (by repeat (first | (with_reducible first | exact HB.out | apply below_alloc | apply pw_below_drewN | apply below_drew1) | exact HB.out)))).mono ?_); (case side1 => repeat (first | exact (by repeat (first | (with_reducible exact HR240.out) | (with_reducible refine Kd.C_alloc ?_ _) | (with_reducible refine Kd.C_drewN ?_ _) | (with_reducible refine Kd.C_drew ?_) | exact HR240.out)) | (with_reducible refine Kd.C_alloc ?_ _) | (with_reducible refine Kd.C_drewN ?_ _) | (with_reducible refine Kd.C_drew ?_))); (case side2 => exact HC240.out); rintro e w65 ⟨v243, rfl, ho0, hb⟩; refine ⟨_, rfl, ?_⟩; have n0_ := Aside0.mk (Kd.R_below (by (with_reducible repeat (first | apply Kd.R_alloc | apply Kd.R_drewN | apply Kd.R_drew)); exact HO_5.out) hb); have n1_ := Aside0.mk (Kd.R_below (by (with_reducible repeat (first | apply Kd.R_alloc | apply Kd.R_drewN | apply Kd.R_drew)); exact HO_6.out) hb); have n2_ := Aside0.mk (Kd.S_lower (Kd.S_new' ho0 (Kd.R_lt (by (with_reducible repeat (first | apply Kd.R_alloc | apply Kd.R_drewN | apply Kd.R_drew)); exact HO_5.out))) (below_size (by repeat (first | (with_reducible first | exact HB.out | apply below_alloc | apply pw_below_drewN | apply below_drew1) | exact HB.out)))); have n3_ := Aside0.mk (Kd.C_below (by repeat (first | (with_reducible exact HR240.out) | (with_reducible refine Kd.C_alloc ?_ _) | (with_reducible refine Kd.C_drewN ?_ _) | (with_reducible refine Kd.C_drew ?_) | exact HR240.out)) hb); have n4_ := Aside0.mk (below_step (by repeat (first | (with_reducible first | exact HB.out | apply below_alloc | apply pw_below_drewN | apply below_drew1) | exact HB.out)) hb); clear HO_5; clear HO_6; clear HR240; clear HB; have HO_5 := n0_; have HO_6 := n1_; have HO244 := n2_; have HR240 := n3_; have HB := n4_; clear n0_ n1_ n2_ n3_ n4_; (try clear hb); (try clear hb2); (try clear hk); (try clear hi); (try clear ho0)) | ((with_reducible refine gate_callee (f := 7) rfl ?_); refine goesL_ (some 77) rfl rfl Tryd.func7 (by kernel_rfl) rfl #[] rfl (by (try simp only [List.map_toArray, List.map_cons, List.map_nil]); first | done | rfl | (simp only [List.length_drop, List.length_take]; rfl)) ?_; (with_reducible refine (exequaturlaw11_answers.calls  true _ A57.out (GL.below HGL.out (by repeat (first | (with_reducible first | exact HB.out | apply below_alloc | apply pw_below_drewN | apply below_drew1) | exact HB.out)))).mono ?_); rintro e w66 ⟨rfl, hb⟩; refine ⟨_, rfl, ?_⟩; have n0_ := Aside0.mk (Kd.R_below (by (with_reducible repeat (first | apply Kd.R_alloc | apply Kd.R_drewN | apply Kd.R_drew)); exact HO_5.out) hb); have n1_ := Aside0.mk (Kd.R_below (by (with_reducible repeat (first | apply Kd.R_alloc | apply Kd.R_drewN | apply Kd.R_drew)); exact HO_6.out) hb); have n2_ := Aside0.mk (Kd.S_below (by (with_reducible repeat (first | apply Kd.S_alloc | apply Kd.S_drewN | apply Kd.S_drew)); exact HO244.out) hb); have n3_ := Aside0.mk (Kd.C_below (by repeat (first | (with_reducible exact HR240.out) | (with_reducible refine Kd.C_alloc ?_ _) | (with_reducible refine Kd.C_drewN ?_ _) | (with_reducible refine Kd.C_drew ?_) | exact HR240.out)) hb); have n4_ := Aside0.mk (below_step (by repeat (first | (with_reducible first | exact HB.out | apply below_alloc | apply pw_below_drewN | apply below_drew1) | exact HB.out)) hb); clear HO_5; clear HO_6; clear HO244; clear HR240; clear HB; have HO_5 := n0_; have HO_6 := n1_; have HO244 := n2_; have HR240 := n3_; have HB := n4_; clear n0_ n1_ n2_ n3_ n4_; (try clear hb); (try clear hb2); (try clear hk); (try clear hi); have q67 : (x9_3 : Int) ≤ ((l0.length : Int) : Int) := of_decide_eq_true (by first | (with_reducible assumption) | assumption); obtain ⟨i067, hi067, _, hsz67, _⟩ := info_parts info23; have hroom67 : l0.length ≤ c0 := HC0.out; have hC67 : Kd.C (Kd.slice 5 (Kd.int .u8)) _ A0 l0.length l0 := HR0.out; have hcut67 := cut_to (P := Tryd.prog) 22 23 .i64 Tryd.underlying22 hi067 A0 l0.length c0 x9_3 (of_decide_eq_true (by first | (with_reducible assumption) | assumption)) q67 hroom67; have hr67 := Kd.C_take (m := (x9_3 : Int).toNat) hC67 (by omega); have hy67 : y246.length = (x9_3 : Int).toNat := (by rw [Ny246.out, List.length_take]; omega); rw [← Ny246.out] at hr67; rw [← hy67] at hcut67; have HR249 := Aside0.mk hr67; have HC249 := Aside0.mk (show y246.length ≤ c0 from by omega); clear hr67 hC67 hroom67 hi067 hsz67; have KY67 := Aside0.mk hy67; clear hy67; replace q67 := eq_true q67; obtain ⟨Ao68, co68, eo68⟩ := Kd.S_slice HO244.out; subst eo68) | (go_at_call 11; (with_reducible refine (exequaturlaw11_same.calls k3 _ _ t241 _ _ y246 true _ ?side1 ?side2 ?side3 ?side4 A61.out).mono ?_); (case side1 => repeat (first | exact (Kd.S_reads' HO244.out).2.2 | (with_reducible refine Kd.C_alloc ?_ _) | (with_reducible refine Kd.C_drewN ?_ _) | (with_reducible refine Kd.C_drew ?_))); (case side2 => exact (Kd.S_reads' HO244.out).2.1); (case side3 => repeat (first | exact (Kd.C_below HR249.out HB.out) | (with_reducible refine Kd.C_alloc ?_ _) | (with_reducible refine Kd.C_drewN ?_ _) | (with_reducible refine Kd.C_drew ?_))); (case side4 => exact HC249.out); rintro e w' ⟨rfl, ⟨nd, rfl⟩⟩))
                                  go_ret
                                  exact ⟨by first | rfl | (simp [errW_none, errW_some] <;> rfl) | (simp only [← hji53]; first | rfl | (simp [errW_none, errW_some] <;> rfl)) | (simp [*, errW_none, errW_some] <;> rfl), by repeat (first | (with_reducible first | exact HB.out | apply below_alloc | apply pw_below_drewN | apply below_drew1) | exact HB.out)⟩
                                · replace c62 := Bool.eq_false_iff.mpr c62
                                  subst c62
                                  have H1 : (some false) = some r := by rw [if_neg (show ¬ (false = true) by decide)] at H; exact H
                                  clear H
                                  have H := H1
                                  clear H1
                                  obtain rfl := Option.some.inj H
                                  obtain ⟨Ao69, co69, eo69⟩ := Kd.R_slice HO_6.out
                                  subst eo69
                                  have q70 : ((ji53) : Int) ≤ ((x5_2.length : Int) : Int) := of_decide_eq_true (by first | (with_reducible assumption) | assumption)
                                  obtain ⟨i070, hi070, _, hsz70, _⟩ := info_parts info5
                                  have hroom70 : x5_2.length ≤ co22 := (Kd.R_reads' HO_5.out).2.1
                                  have hC70 : Kd.C (Kd.int .u8) _ Ao22 x5_2.length x5_2 := (Kd.R_reads' HO_5.out).2.2
                                  have hcut70 := cut_to (P := Tryd.prog) 23 5 .i64 Tryd.underlying23 hi070 Ao22 x5_2.length co22 (ji53) (of_decide_eq_true (by first | (with_reducible assumption) | assumption)) q70 hroom70
                                  have hr70 := Kd.C_take (m := ((ji53) : Int).toNat) hC70 (by omega)
                                  have hy70 : y237.length = ((ji53) : Int).toNat := (by rw [Ny237.out, List.length_take]; omega)
                                  rw [← Ny237.out] at hr70
                                  rw [← hy70] at hcut70
                                  have HR240 := Aside0.mk hr70
                                  have HC240 := Aside0.mk (show y237.length ≤ co22 from by omega)
                                  clear hr70 hC70 hroom70 hi070 hsz70
                                  have KY70 := Aside0.mk hy70
                                  clear hy70
                                  have KL70 := Aside0.mk (show ((ji53) : Int).toNat ≤ x5_2.length from by omega)
                                  replace q70 := eq_true q70
                                  go_wp2_with (first | ((with_reducible refine gate_callee (f := 10) rfl ?_); refine goesL_ (some 74) rfl rfl Tryd.func10 (by kernel_rfl) rfl #[.slice Ao22 y237.length co22] rfl (by (try simp only [List.map_toArray, List.map_cons, List.map_nil]); first | done | rfl | (simp only [List.length_drop, List.length_take]; rfl)) ?_; (with_reducible refine (frame_Split.calls _ _ y237 t241 t242 _ ?side1 ?side2 A56.out (GL.below HGL.out (by repeat (first | (with_reducible first | exact HB.out | apply below_alloc | apply pw_below_drewN | apply below_drew1) | exact HB.out)))).mono ?_); (case side1 => repeat (first | exact (by repeat (first | (with_reducible exact HR240.out) | (with_reducible refine Kd.C_alloc ?_ _) | (with_reducible refine Kd.C_drewN ?_ _) | (with_reducible refine Kd.C_drew ?_) | exact HR240.out)) | (with_reducible refine Kd.C_alloc ?_ _) | (with_reducible refine Kd.C_drewN ?_ _) | (with_reducible refine Kd.C_drew ?_))); (case side2 => exact HC240.out); rintro e w71 ⟨v243, rfl, ho0, hb⟩; refine ⟨_, rfl, ?_⟩; have n0_ := Aside0.mk (Kd.R_below (by (with_reducible repeat (first | apply Kd.R_alloc | apply Kd.R_drewN | apply Kd.R_drew)); exact HO_5.out) hb); have n1_ := Aside0.mk (Kd.R_below (by (with_reducible repeat (first | apply Kd.R_alloc | apply Kd.R_drewN | apply Kd.R_drew)); exact HO_6.out) hb); have n2_ := Aside0.mk (Kd.S_lower (Kd.S_new' ho0 (Kd.R_lt (by (with_reducible repeat (first | apply Kd.R_alloc | apply Kd.R_drewN | apply Kd.R_drew)); exact HO_5.out))) (below_size (by repeat (first | (with_reducible first | exact HB.out | apply below_alloc | apply pw_below_drewN | apply below_drew1) | exact HB.out)))); have n3_ := Aside0.mk (Kd.C_below (by repeat (first | (with_reducible exact HR240.out) | (with_reducible refine Kd.C_alloc ?_ _) | (with_reducible refine Kd.C_drewN ?_ _) | (with_reducible refine Kd.C_drew ?_) | exact HR240.out)) hb); have n4_ := Aside0.mk (below_step (by repeat (first | (with_reducible first | exact HB.out | apply below_alloc | apply pw_below_drewN | apply below_drew1) | exact HB.out)) hb); clear HO_5; clear HO_6; clear HR240; clear HB; have HO_5 := n0_; have HO_6 := n1_; have HO244 := n2_; have HR240 := n3_; have HB := n4_; clear n0_ n1_ n2_ n3_ n4_; (try clear hb); (try clear hb2); (try clear hk); (try clear hi); (try clear ho0)) | ((with_reducible refine gate_callee (f := 7) rfl ?_); refine goesL_ (some 77) rfl rfl Tryd.func7 (by kernel_rfl) rfl #[] rfl (by (try simp only [List.map_toArray, List.map_cons, List.map_nil]); first | done | rfl | (simp only [List.length_drop, List.length_take]; rfl)) ?_; (with_reducible refine (exequaturlaw11_answers.calls  true _ A57.out (GL.below HGL.out (by repeat (first | (with_reducible first | exact HB.out | apply below_alloc | apply pw_below_drewN | apply below_drew1) | exact HB.out)))).mono ?_); rintro e w72 ⟨rfl, hb⟩; refine ⟨_, rfl, ?_⟩; have n0_ := Aside0.mk (Kd.R_below (by (with_reducible repeat (first | apply Kd.R_alloc | apply Kd.R_drewN | apply Kd.R_drew)); exact HO_5.out) hb); have n1_ := Aside0.mk (Kd.R_below (by (with_reducible repeat (first | apply Kd.R_alloc | apply Kd.R_drewN | apply Kd.R_drew)); exact HO_6.out) hb); have n2_ := Aside0.mk (Kd.S_below (by (with_reducible repeat (first | apply Kd.S_alloc | apply Kd.S_drewN | apply Kd.S_drew)); exact HO244.out) hb); have n3_ := Aside0.mk (Kd.C_below (by repeat (first | (with_reducible exact HR240.out) | (with_reducible refine Kd.C_alloc ?_ _) | (with_reducible refine Kd.C_drewN ?_ _) | (with_reducible refine Kd.C_drew ?_) | exact HR240.out)) hb); have n4_ := Aside0.mk (below_step (by repeat (first | (with_reducible first | exact HB.out | apply below_alloc | apply pw_below_drewN | apply below_drew1) | exact HB.out)) hb); clear HO_5; clear HO_6; clear HO244; clear HR240; clear HB; have HO_5 := n0_; have HO_6 := n1_; have HO244 := n2_; have HR240 := n3_; have HB := n4_; clear n0_ n1_ n2_ n3_ n4_; (try clear hb); (try clear hb2); (try clear hk); (try clear hi); have q73 : (x9_3 : Int) ≤ ((l0.length : Int) : Int) := of_decide_eq_true (by first | (with_reducible assumption) | assumption); obtain ⟨i073, hi073, _, hsz73, _⟩ := info_parts info23; have hroom73 : l0.length ≤ c0 := HC0.out; have hC73 : Kd.C (Kd.slice 5 (Kd.int .u8)) _ A0 l0.length l0 := HR0.out; have hcut73 := cut_to (P := Tryd.prog) 22 23 .i64 Tryd.underlying22 hi073 A0 l0.length c0 x9_3 (of_decide_eq_true (by first | (with_reducible assumption) | assumption)) q73 hroom73; have hr73 := Kd.C_take (m := (x9_3 : Int).toNat) hC73 (by omega); have hy73 : y246.length = (x9_3 : Int).toNat := (by rw [Ny246.out, List.length_take]; omega); rw [← Ny246.out] at hr73; rw [← hy73] at hcut73; have HR249 := Aside0.mk hr73; have HC249 := Aside0.mk (show y246.length ≤ c0 from by omega); clear hr73 hC73 hroom73 hi073 hsz73; have KY73 := Aside0.mk hy73; clear hy73; replace q73 := eq_true q73; obtain ⟨Ao74, co74, eo74⟩ := Kd.S_slice HO244.out; subst eo74) | (go_at_call 11; (with_reducible refine (exequaturlaw11_same.calls k3 _ _ t241 _ _ y246 false _ ?side1 ?side2 ?side3 ?side4 A61.out).mono ?_); (case side1 => repeat (first | exact (Kd.S_reads' HO244.out).2.2 | (with_reducible refine Kd.C_alloc ?_ _) | (with_reducible refine Kd.C_drewN ?_ _) | (with_reducible refine Kd.C_drew ?_))); (case side2 => exact (Kd.S_reads' HO244.out).2.1); (case side3 => repeat (first | exact (Kd.C_below HR249.out HB.out) | (with_reducible refine Kd.C_alloc ?_ _) | (with_reducible refine Kd.C_drewN ?_ _) | (with_reducible refine Kd.C_drew ?_))); (case side4 => exact HC249.out); rintro e w' ⟨rfl, ⟨nd, rfl⟩⟩))
                                  go_ret
                                  exact ⟨by first | rfl | (simp [errW_none, errW_some] <;> rfl) | (simp only [← hji53]; first | rfl | (simp [errW_none, errW_some] <;> rfl)) | (simp [*, errW_none, errW_some] <;> rfl), by repeat (first | (with_reducible first | exact HB.out | apply below_alloc | apply pw_below_drewN | apply below_drew1) | exact HB.out)⟩
                              · rw [if_neg c60] at H
                                exact absurd H (by simp)
                            · rw [if_neg c59] at H
                              exact absurd H (by simp)
                          · replace c58 := Bool.eq_false_iff.mpr c58
                            subst c58
                            have H1 : (some false) = some r := by rw [if_neg (show ¬ (false = true) by decide)] at H; exact H
                            clear H
                            have H := H1
                            clear H1
                            obtain rfl := Option.some.inj H
                            obtain ⟨Ao75, co75, eo75⟩ := Kd.R_slice HO_6.out
                            subst eo75
                            have q76 : ((ji53) : Int) ≤ ((x5_2.length : Int) : Int) := of_decide_eq_true (by first | (with_reducible assumption) | assumption)
                            obtain ⟨i076, hi076, _, hsz76, _⟩ := info_parts info5
                            have hroom76 : x5_2.length ≤ co22 := (Kd.R_reads' HO_5.out).2.1
                            have hC76 : Kd.C (Kd.int .u8) _ Ao22 x5_2.length x5_2 := (Kd.R_reads' HO_5.out).2.2
                            have hcut76 := cut_to (P := Tryd.prog) 23 5 .i64 Tryd.underlying23 hi076 Ao22 x5_2.length co22 (ji53) (of_decide_eq_true (by first | (with_reducible assumption) | assumption)) q76 hroom76
                            have hr76 := Kd.C_take (m := ((ji53) : Int).toNat) hC76 (by omega)
                            have hy76 : y237.length = ((ji53) : Int).toNat := (by rw [Ny237.out, List.length_take]; omega)
                            rw [← Ny237.out] at hr76
                            rw [← hy76] at hcut76
                            have HR240 := Aside0.mk hr76
                            have HC240 := Aside0.mk (show y237.length ≤ co22 from by omega)
                            clear hr76 hC76 hroom76 hi076 hsz76
                            have KY76 := Aside0.mk hy76
                            clear hy76
                            have KL76 := Aside0.mk (show ((ji53) : Int).toNat ≤ x5_2.length from by omega)
                            replace q76 := eq_true q76
                            go_wp2_with (first | ((with_reducible refine gate_callee (f := 10) rfl ?_); refine goesL_ (some 74) rfl rfl Tryd.func10 (by kernel_rfl) rfl #[.slice Ao22 y237.length co22] rfl (by (try simp only [List.map_toArray, List.map_cons, List.map_nil]); first | done | rfl | (simp only [List.length_drop, List.length_take]; rfl)) ?_; (with_reducible refine (frame_Split.calls _ _ y237 t241 t242 _ ?side1 ?side2 A56.out (GL.below HGL.out (by repeat (first | (with_reducible first | exact HB.out | apply below_alloc | apply pw_below_drewN | apply below_drew1) | exact HB.out)))).mono ?_); (case side1 => repeat (first | exact (by repeat (first | (with_reducible exact HR240.out) | (with_reducible refine Kd.C_alloc ?_ _) | (with_reducible refine Kd.C_drewN ?_ _) | (with_reducible refine Kd.C_drew ?_) | exact HR240.out)) | (with_reducible refine Kd.C_alloc ?_ _) | (with_reducible refine Kd.C_drewN ?_ _) | (with_reducible refine Kd.C_drew ?_))); (case side2 => exact HC240.out); rintro e w77 ⟨v243, rfl, ho0, hb⟩; refine ⟨_, rfl, ?_⟩; have n0_ := Aside0.mk (Kd.R_below (by (with_reducible repeat (first | apply Kd.R_alloc | apply Kd.R_drewN | apply Kd.R_drew)); exact HO_5.out) hb); have n1_ := Aside0.mk (Kd.R_below (by (with_reducible repeat (first | apply Kd.R_alloc | apply Kd.R_drewN | apply Kd.R_drew)); exact HO_6.out) hb); have n2_ := Aside0.mk (Kd.S_lower (Kd.S_new' ho0 (Kd.R_lt (by (with_reducible repeat (first | apply Kd.R_alloc | apply Kd.R_drewN | apply Kd.R_drew)); exact HO_5.out))) (below_size (by repeat (first | (with_reducible first | exact HB.out | apply below_alloc | apply pw_below_drewN | apply below_drew1) | exact HB.out)))); have n3_ := Aside0.mk (Kd.C_below (by repeat (first | (with_reducible exact HR240.out) | (with_reducible refine Kd.C_alloc ?_ _) | (with_reducible refine Kd.C_drewN ?_ _) | (with_reducible refine Kd.C_drew ?_) | exact HR240.out)) hb); have n4_ := Aside0.mk (below_step (by repeat (first | (with_reducible first | exact HB.out | apply below_alloc | apply pw_below_drewN | apply below_drew1) | exact HB.out)) hb); clear HO_5; clear HO_6; clear HR240; clear HB; have HO_5 := n0_; have HO_6 := n1_; have HO244 := n2_; have HR240 := n3_; have HB := n4_; clear n0_ n1_ n2_ n3_ n4_; (try clear hb); (try clear hb2); (try clear hk); (try clear hi); (try clear ho0)) | ((with_reducible refine gate_callee (f := 7) rfl ?_); refine goesL_ (some 77) rfl rfl Tryd.func7 (by kernel_rfl) rfl #[] rfl (by (try simp only [List.map_toArray, List.map_cons, List.map_nil]); first | done | rfl | (simp only [List.length_drop, List.length_take]; rfl)) ?_; (with_reducible refine (exequaturlaw11_answers.calls  false _ A57.out (GL.below HGL.out (by repeat (first | (with_reducible first | exact HB.out | apply below_alloc | apply pw_below_drewN | apply below_drew1) | exact HB.out)))).mono ?_); rintro e w78 ⟨rfl, hb⟩; refine ⟨_, rfl, ?_⟩; have n0_ := Aside0.mk (Kd.R_below (by (with_reducible repeat (first | apply Kd.R_alloc | apply Kd.R_drewN | apply Kd.R_drew)); exact HO_5.out) hb); have n1_ := Aside0.mk (Kd.R_below (by (with_reducible repeat (first | apply Kd.R_alloc | apply Kd.R_drewN | apply Kd.R_drew)); exact HO_6.out) hb); have n2_ := Aside0.mk (Kd.S_below (by (with_reducible repeat (first | apply Kd.S_alloc | apply Kd.S_drewN | apply Kd.S_drew)); exact HO244.out) hb); have n3_ := Aside0.mk (Kd.C_below (by repeat (first | (with_reducible exact HR240.out) | (with_reducible refine Kd.C_alloc ?_ _) | (with_reducible refine Kd.C_drewN ?_ _) | (with_reducible refine Kd.C_drew ?_) | exact HR240.out)) hb); have n4_ := Aside0.mk (below_step (by repeat (first | (with_reducible first | exact HB.out | apply below_alloc | apply pw_below_drewN | apply below_drew1) | exact HB.out)) hb); clear HO_5; clear HO_6; clear HO244; clear HR240; clear HB; have HO_5 := n0_; have HO_6 := n1_; have HO244 := n2_; have HR240 := n3_; have HB := n4_; clear n0_ n1_ n2_ n3_ n4_; (try clear hb); (try clear hb2); (try clear hk); (try clear hi)))
                            go_ret
                            exact ⟨by first | rfl | (simp [errW_none, errW_some] <;> rfl) | (simp only [← hji53]; first | rfl | (simp [errW_none, errW_some] <;> rfl)) | (simp [*, errW_none, errW_some] <;> rfl), by repeat (first | (with_reducible first | exact HB.out | apply below_alloc | apply pw_below_drewN | apply below_drew1) | exact HB.out)⟩
                        · rw [if_neg c55] at H
                          exact absurd H (by simp)
                      · rw [if_neg c54] at H
                        exact absurd H (by simp)

end Go.Proofs.YtkmnbnfkpccobaaDoor.Q
