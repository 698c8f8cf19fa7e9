/- A part of the proof of a card: what some functions of the program come to, each under the conditions that its theorem names. -/
import Derived.Test.YtpoblffgclmmlaaGreatDoorPkPk11
section
namespace Go.Proofs.YtpoblffgclmmlaaGreatDoor.Q
open Go.RowKit Go.Proofs.YtpoblffgclmmlaaGreatDoorW.PrintWords Go.Proofs.YtpoblffgclmmlaaGreatDoorW.PrintLast Go.Proofs.YtpoblffgclmmlaaGreatDoorW.PrintMore
attribute [local go_sem] max2_int min2_int max_two min_two max_three min_three max_four min_four   -- for this text's walks alone
open Go.Proofs.YtpoblffgclmmlaaGreatDoor.X
set_option linter.unusedVariables false
set_option linter.unusedSimpArgs false

mutual
def exequaturref13_Split.l0 : Nat → ByteArray → List ByteArray → Int → Option (List ByteArray × Bool)
 | 0, _, _, _ => none
 | k + 1, x0, x4, x5 => if x5 < (x0.size : Int) then (exequaturref13_Split.l1 k x0 x4 x5 0 x5) else (some (x4, true))
def exequaturref13_Split.l1 : Nat → ByteArray → List ByteArray → Int → Int → Int → Option (List ByteArray × Bool)
 | 0, _, _, _, _, _ => none
 | k + 1, x0, x4, x5, x6, x7 => if x7 < (x0.size : Int) then (if 0 ≤ x7 then (if (bt x0 x7) ≥ 48 then (if (bt x0 x7) ≤ 57 then (if x6 < 1099511627776 then (exequaturref13_Split.l1 k x0 x4 x5 (wrap64 ((wrap64 (x6 * 10)) + (((bt x0 x7) - 48) % 256))) (wrap64 (x7 + 1))) else (if x7 = x5 then (some (([] : List ByteArray), false)) else (if x7 ≥ (x0.size : Int) then (some (([] : List ByteArray), false)) else (if (bt x0 x7) = 58 then (if (wrap64 (x7 - x5)) > 1 then (if 0 ≤ x5 then (if x5 < (x0.size : Int) then (if (bt x0 x5) = 48 then (some (([] : List ByteArray), false)) else (if x6 > (wrap64 ((wrap64 ((x0.size : Int) - x7)) - 1)) then (some (([] : List ByteArray), false)) else (if 0 ≤ (wrap64 (x7 + 1)) then (if (wrap64 (x7 + 1)) ≤ (wrap64 ((wrap64 (x7 + 1)) + x6)) then (if (wrap64 ((wrap64 (x7 + 1)) + x6)) ≤ (x0.size : Int) then (if x4.length < 8796093022208 then (exequaturref13_Split.l0 k x0 (x4 ++ [x0.extract ((wrap64 (x7 + 1)) : Int).toNat ((wrap64 ((wrap64 (x7 + 1)) + x6)) : Int).toNat]) (wrap64 ((wrap64 (x7 + 1)) + x6))) else (none)) else (none)) else (none)) else (none)))) else (none)) else (none)) else (if x6 > (wrap64 ((wrap64 ((x0.size : Int) - x7)) - 1)) then (some (([] : List ByteArray), false)) else (if 0 ≤ (wrap64 (x7 + 1)) then (if (wrap64 (x7 + 1)) ≤ (wrap64 ((wrap64 (x7 + 1)) + x6)) then (if (wrap64 ((wrap64 (x7 + 1)) + x6)) ≤ (x0.size : Int) then (if x4.length < 8796093022208 then (exequaturref13_Split.l0 k x0 (x4 ++ [x0.extract ((wrap64 (x7 + 1)) : Int).toNat ((wrap64 ((wrap64 (x7 + 1)) + x6)) : Int).toNat]) (wrap64 ((wrap64 (x7 + 1)) + x6))) else (none)) else (none)) else (none)) else (none)))) else (some (([] : List ByteArray), false)))))) else (if x7 = x5 then (some (([] : List ByteArray), false)) else (if x7 ≥ (x0.size : Int) then (some (([] : List ByteArray), false)) else (if (bt x0 x7) = 58 then (if (wrap64 (x7 - x5)) > 1 then (if 0 ≤ x5 then (if x5 < (x0.size : Int) then (if (bt x0 x5) = 48 then (some (([] : List ByteArray), false)) else (if x6 > (wrap64 ((wrap64 ((x0.size : Int) - x7)) - 1)) then (some (([] : List ByteArray), false)) else (if 0 ≤ (wrap64 (x7 + 1)) then (if (wrap64 (x7 + 1)) ≤ (wrap64 ((wrap64 (x7 + 1)) + x6)) then (if (wrap64 ((wrap64 (x7 + 1)) + x6)) ≤ (x0.size : Int) then (if x4.length < 8796093022208 then (exequaturref13_Split.l0 k x0 (x4 ++ [x0.extract ((wrap64 (x7 + 1)) : Int).toNat ((wrap64 ((wrap64 (x7 + 1)) + x6)) : Int).toNat]) (wrap64 ((wrap64 (x7 + 1)) + x6))) else (none)) else (none)) else (none)) else (none)))) else (none)) else (none)) else (if x6 > (wrap64 ((wrap64 ((x0.size : Int) - x7)) - 1)) then (some (([] : List ByteArray), false)) else (if 0 ≤ (wrap64 (x7 + 1)) then (if (wrap64 (x7 + 1)) ≤ (wrap64 ((wrap64 (x7 + 1)) + x6)) then (if (wrap64 ((wrap64 (x7 + 1)) + x6)) ≤ (x0.size : Int) then (if x4.length < 8796093022208 then (exequaturref13_Split.l0 k x0 (x4 ++ [x0.extract ((wrap64 (x7 + 1)) : Int).toNat ((wrap64 ((wrap64 (x7 + 1)) + x6)) : Int).toNat]) (wrap64 ((wrap64 (x7 + 1)) + x6))) else (none)) else (none)) else (none)) else (none)))) else (some (([] : List ByteArray), false)))))) else (if x7 = x5 then (some (([] : List ByteArray), false)) else (if x7 ≥ (x0.size : Int) then (some (([] : List ByteArray), false)) else (if (bt x0 x7) = 58 then (if (wrap64 (x7 - x5)) > 1 then (if 0 ≤ x5 then (if x5 < (x0.size : Int) then (if (bt x0 x5) = 48 then (some (([] : List ByteArray), false)) else (if x6 > (wrap64 ((wrap64 ((x0.size : Int) - x7)) - 1)) then (some (([] : List ByteArray), false)) else (if 0 ≤ (wrap64 (x7 + 1)) then (if (wrap64 (x7 + 1)) ≤ (wrap64 ((wrap64 (x7 + 1)) + x6)) then (if (wrap64 ((wrap64 (x7 + 1)) + x6)) ≤ (x0.size : Int) then (if x4.length < 8796093022208 then (exequaturref13_Split.l0 k x0 (x4 ++ [x0.extract ((wrap64 (x7 + 1)) : Int).toNat ((wrap64 ((wrap64 (x7 + 1)) + x6)) : Int).toNat]) (wrap64 ((wrap64 (x7 + 1)) + x6))) else (none)) else (none)) else (none)) else (none)))) else (none)) else (none)) else (if x6 > (wrap64 ((wrap64 ((x0.size : Int) - x7)) - 1)) then (some (([] : List ByteArray), false)) else (if 0 ≤ (wrap64 (x7 + 1)) then (if (wrap64 (x7 + 1)) ≤ (wrap64 ((wrap64 (x7 + 1)) + x6)) then (if (wrap64 ((wrap64 (x7 + 1)) + x6)) ≤ (x0.size : Int) then (if x4.length < 8796093022208 then (exequaturref13_Split.l0 k x0 (x4 ++ [x0.extract ((wrap64 (x7 + 1)) : Int).toNat ((wrap64 ((wrap64 (x7 + 1)) + x6)) : Int).toNat]) (wrap64 ((wrap64 (x7 + 1)) + x6))) else (none)) else (none)) else (none)) else (none)))) else (some (([] : List ByteArray), false)))))) else (none)) else (if x7 = x5 then (some (([] : List ByteArray), false)) else (if x7 ≥ (x0.size : Int) then (some (([] : List ByteArray), false)) else (if 0 ≤ x7 then (none) else (none))))
end
def exequaturref13_Split.f (k : Nat) (a0 : ByteArray) : Option (List ByteArray × Bool) := exequaturref13_Split.l0 k a0 ([] : List ByteArray) 0
theorem exequaturref13_Split.mono_l : ∀ k, (∀ y0 y1 y2, LeO (exequaturref13_Split.l0 k y0 y1 y2) (exequaturref13_Split.l0 (k + 1) y0 y1 y2)) ∧ (∀ y0 y1 y2 y3 y4, LeO (exequaturref13_Split.l1 k y0 y1 y2 y3 y4) (exequaturref13_Split.l1 (k + 1) y0 y1 y2 y3 y4))
 | 0 => ⟨fun _ _ _ r h => by simp [exequaturref13_Split.l0] at h, fun _ _ _ _ _ r h => by simp [exequaturref13_Split.l1] at h⟩
 | k + 1 => by
  obtain ⟨ih0, ih1⟩ := exequaturref13_Split.mono_l k
  refine ⟨?_, ?_⟩
  ·
   intro y0 y1 y2
   unfold exequaturref13_Split.l0
   repeat' first
   | (with_reducible exact ih0 _ _ _)
   | (with_reducible exact ih1 _ _ _ _ _)
   | (with_reducible exact LeO.refl _)
   | (with_reducible exact LeO.none _)
   | (with_reducible refine LeO.ite ?_ ?_)
   | (with_reducible refine LeO.bind ?_ (fun _ => ?_))
   | exact ih0 _ _ _
   | exact ih1 _ _ _ _ _
   | exact LeO.none _
   | refine LeO.ite ?_ ?_
   | refine LeO.bind ?_ (fun _ => ?_)
  ·
   intro y0 y1 y2 y3 y4
   unfold exequaturref13_Split.l1
   repeat' first
   | (with_reducible exact ih0 _ _ _)
   | (with_reducible exact ih1 _ _ _ _ _)
   | (with_reducible exact LeO.refl _)
   | (with_reducible exact LeO.none _)
   | (with_reducible refine LeO.ite ?_ ?_)
   | (with_reducible refine LeO.bind ?_ (fun _ => ?_))
   | exact ih0 _ _ _
   | exact ih1 _ _ _ _ _
   | exact LeO.none _
   | refine LeO.ite ?_ ?_
   | refine LeO.bind ?_ (fun _ => ?_)
theorem exequaturref13_Split.mono : ∀ a0 k, LeO (exequaturref13_Split.f k a0) (exequaturref13_Split.f (k + 1) a0) := by
 intro a0 k
 obtain ⟨ih0, ih1⟩ := exequaturref13_Split.mono_l k
 unfold exequaturref13_Split.f
 repeat' first
   | (with_reducible exact ih0 _ _ _)
   | (with_reducible exact ih1 _ _ _ _ _)
   | (with_reducible exact LeO.refl _)
   | (with_reducible exact LeO.none _)
   | (with_reducible refine LeO.ite ?_ ?_)
   | (with_reducible refine LeO.bind ?_ (fun _ => ?_))
   | exact ih0 _ _ _
   | exact ih1 _ _ _ _ _
   | exact LeO.none _
   | refine LeO.ite ?_ ?_
   | refine LeO.bind ?_ (fun _ => ?_)
set_option maxHeartbeats 8000000 in
set_option maxRecDepth 100000 in
theorem exequaturref13_Split.calls (k : Nat) (a0 : ByteArray) (r1 : List ByteArray) (r2 : Bool) (w : World) (h : exequaturref13_Split.f k a0 = some (r1, r2)) :
  Calls Tryz.prog 105 #[.string a0] w fun e w' => ∃ v0_ : Value, e = .returned (.tuple #[v0_, .bool r2]) ∧ Kd.R Kd.string 9 w' w.heap.size (fun _ => True) v0_ r1 ∧ Below w.heap.size w w' := by
 have HB := Aside0.mk (Below.refl w.heap.size w)
 have H : (exequaturref13_Split.l0 k a0 ([] : List ByteArray) 0) = some (r1, r2) := h
 clear h
 have H' := Aside0.mk H
 clear H
 go_enter Tryz.func105, Tryz.ntmps105
 go_wp2
 go_loopg [4, 5] k (fun kq v4 v5 w' => ∃ (x4_1 : List ByteArray) (x5_1 : Int), v5 = .int .i64 x5_1 ∧ Aside0 (exequaturref13_Split.l0 kq a0 x4_1 x5_1 = some (r1, r2)) ∧ Aside0 (kq ≤ k) ∧ Aside0 (Kd.R Kd.string 9 w' w.heap.size (fun _ => True) v4 x4_1) ∧ Aside0 (Below w.heap.size w w'))
 case atStart => exact ⟨(([] : List ByteArray)), (0), (by first | rfl | (simp; done) | (simp [*]; done)), H', ⟨Nat.le_refl _⟩, ⟨by first | exact Kd.R_nil _ _ _ _ _ | exact Kd.N_nil _ _ _ _ _ | exact Kd.V_nil _ _ _ _ _ | exact Kd.Q_nil _ _ _ _ _ | exact Kd.S_nil _ _ _ _ _⟩, ⟨by repeat (first | (with_reducible first | exact HB.out | apply below_alloc | apply pw_below_drewN | apply below_drew1) | exact HB.out)⟩⟩
 case round =>
  clear H'
  try clear c1
  obtain ⟨x4_1, x5_1, rfl, HA, HK1, HO_4, HB⟩ := hrel
  cases gk with
  | zero => exact absurd HA.out (by simp [exequaturref13_Split.l0])
  | succ k1 =>
   have H := HA.out
   clear HA
   simp only [exequaturref13_Split.l0] at H
   by_cases c2 : x5_1 < (a0.size : Int)
   ·
    rw [if_pos c2] at H
    have c2b0 : decide (x5_1 < (a0.size : Int)) = true := decide_eq_true c2
    clear c2
    have H' := Aside0.mk H
    clear H
    go_wp2
    go_loopg [6, 7] k1 (fun kq v6 v7 w' => ∃ (x6_2 : Int) (x7_2 : Int), v6 = .int .i64 x6_2 ∧ v7 = .int .i64 x7_2 ∧ Aside0 (exequaturref13_Split.l1 kq a0 x4_1 x5_1 x6_2 x7_2 = some (r1, r2)) ∧ Aside0 (kq ≤ k1) ∧ Aside0 (Kd.R Kd.string 9 w' w.heap.size (fun _ => True) u4 x4_1) ∧ Aside0 (Below w.heap.size w w'))
    case atStart => exact ⟨(0), (x5_1), (by first | rfl | (simp; done) | (simp [*]; done)), (by first | rfl | (simp; done) | (simp [*]; done)), H', ⟨Nat.le_refl _⟩, ⟨by (with_reducible repeat (first | apply Kd.R_alloc | apply Kd.R_drewN | apply Kd.R_drew)); exact HO_4.out⟩, ⟨by repeat (first | (with_reducible first | exact HB.out | apply below_alloc | apply pw_below_drewN | apply below_drew1) | exact HB.out)⟩⟩
    case round =>
     clear H'
     try clear c1
     try clear c2
     try clear c2b0
     try clear p2
     obtain ⟨x6_2, x7_2, rfl, rfl, HA, HK2, HO_4, HB⟩ := hrel
     cases gk with
     | zero => exact absurd HA.out (by simp [exequaturref13_Split.l1])
     | succ k2 =>
      have H := HA.out
      clear HA
      simp only [exequaturref13_Split.l1] at H
      by_cases c3 : x7_2 < (a0.size : Int)
      ·
       rw [if_pos c3] at H
       have c3b0 : decide (x7_2 < (a0.size : Int)) = true := decide_eq_true c3
       clear c3
       by_cases c4 : 0 ≤ x7_2
       ·
        rw [if_pos c4] at H
        have c4b0 : decide (0 ≤ x7_2) = true := decide_eq_true c4
        clear c4
        by_cases c6 : (bt a0 x7_2) ≥ 48
        ·
         rw [if_pos c6] at H
         have c6b0 : decide (48 ≤ (bt a0 x7_2)) = true := decide_eq_true c6
         clear c6
         by_cases c8 : (bt a0 x7_2) ≤ 57
         ·
          rw [if_pos c8] at H
          have c8b0 : decide ((bt a0 x7_2) ≤ 57) = true := decide_eq_true c8
          clear c8
          by_cases c9 : x6_2 < 1099511627776
          ·
           rw [if_pos c9] at H
           have c9b0 : decide (x6_2 < 1099511627776) = true := decide_eq_true c9
           clear c9
           have H' := Aside0.mk H
           clear H
           have p5 : 0 ≤ (x7_2 : Int) := of_decide_eq_true (by first | (with_reducible assumption) | assumption)
           have q5 : x7_2 < (a0.size : Int) := of_decide_eq_true (by first | (with_reducible assumption) | assumption)
           have hx5 := bt_at a0 x7_2
           replace p5 := eq_true p5
           replace q5 := eq_true q5
           have p7 : 0 ≤ (x7_2 : Int) := of_decide_eq_true (by first | (with_reducible assumption) | assumption)
           have q7 : x7_2 < (a0.size : Int) := of_decide_eq_true (by first | (with_reducible assumption) | assumption)
           have hx7 := bt_at a0 x7_2
           replace p7 := eq_true p7
           replace q7 := eq_true q7
           have p10 : 0 ≤ (x7_2 : Int) := of_decide_eq_true (by first | (with_reducible assumption) | assumption)
           have q10 : x7_2 < (a0.size : Int) := of_decide_eq_true (by first | (with_reducible assumption) | assumption)
           have hx10 := bt_at a0 x7_2
           replace p10 := eq_true p10
           replace q10 := eq_true q10
           go_wp2
           go_roundg k2
           case measure => have := HK1.out; have := HK2.out; omega
           case rel => exact ⟨(wrap64 ((wrap64 (x6_2 * 10)) + (((bt a0 x7_2) - 48) % 256))), (wrap64 (x7_2 + 1)), (by first | rfl | (simp; done) | (simp [*]; done)), (by first | rfl | (simp; done) | (simp [*]; done)), H', ⟨by have := HK1.out; have := HK2.out; omega⟩, ⟨by (with_reducible repeat (first | apply Kd.R_alloc | apply Kd.R_drewN | apply Kd.R_drew)); exact HO_4.out⟩, ⟨by repeat (first | (with_reducible first | exact HB.out | apply below_alloc | apply pw_below_drewN | apply below_drew1) | exact HB.out)⟩⟩
          ·
           rw [if_neg c9] at H
           have c9b0 : decide (x6_2 < 1099511627776) = false := decide_eq_false c9
           clear c9
           by_cases c11 : x7_2 = x5_1
           ·
            rw [if_pos c11] at H
            have c11b0 : (x7_2 == x5_1) = true := beq_iff_eq.mpr c11
            have c11b1 : (x7_2 != x5_1) = false := bne_eq_false_iff_eq.mpr c11
            clear c11
            simp only [Option.some.injEq, Prod.mk.injEq] at H
            obtain ⟨rfl, rfl⟩ := H
            have p5 : 0 ≤ (x7_2 : Int) := of_decide_eq_true (by first | (with_reducible assumption) | assumption)
            have q5 : x7_2 < (a0.size : Int) := of_decide_eq_true (by first | (with_reducible assumption) | assumption)
            have hx5 := bt_at a0 x7_2
            replace p5 := eq_true p5
            replace q5 := eq_true q5
            have p7 : 0 ≤ (x7_2 : Int) := of_decide_eq_true (by first | (with_reducible assumption) | assumption)
            have q7 : x7_2 < (a0.size : Int) := of_decide_eq_true (by first | (with_reducible assumption) | assumption)
            have hx7 := bt_at a0 x7_2
            replace p7 := eq_true p7
            replace q7 := eq_true q7
            go_wp2
            go_ret2
            exact ⟨_, by first | rfl | (simp [errW_none, errW_some] <;> rfl) | (simp [*, errW_none, errW_some] <;> rfl), by first | exact Kd.R_nil _ _ _ _ _ | exact Kd.N_nil _ _ _ _ _ | exact Kd.V_nil _ _ _ _ _ | exact Kd.Q_nil _ _ _ _ _ | exact Kd.S_nil _ _ _ _ _, by repeat (first | (with_reducible first | exact HB.out | apply below_alloc | apply pw_below_drewN | apply below_drew1) | exact HB.out)⟩
           ·
            rw [if_neg c11] at H
            have c11b0 : (x7_2 == x5_1) = false := beq_eq_false_iff_ne.mpr c11
            have c11b1 : (x7_2 != x5_1) = true := bne_iff_ne.mpr c11
            by_cases c12 : x7_2 ≥ (a0.size : Int)
            ·
             rw [if_pos c12] at H
             have c12b0 : decide ((a0.size : Int) ≤ x7_2) = true := decide_eq_true c12
             clear c12
             simp only [Option.some.injEq, Prod.mk.injEq] at H
             obtain ⟨rfl, rfl⟩ := H
             have p5 : 0 ≤ (x7_2 : Int) := of_decide_eq_true (by first | (with_reducible assumption) | assumption)
             have q5 : x7_2 < (a0.size : Int) := of_decide_eq_true (by first | (with_reducible assumption) | assumption)
             have hx5 := bt_at a0 x7_2
             replace p5 := eq_true p5
             replace q5 := eq_true q5
             have p7 : 0 ≤ (x7_2 : Int) := of_decide_eq_true (by first | (with_reducible assumption) | assumption)
             have q7 : x7_2 < (a0.size : Int) := of_decide_eq_true (by first | (with_reducible assumption) | assumption)
             have hx7 := bt_at a0 x7_2
             replace p7 := eq_true p7
             replace q7 := eq_true q7
             go_wp2
             go_ret2
             exact ⟨_, by first | rfl | (simp [errW_none, errW_some] <;> rfl) | (simp [*, errW_none, errW_some] <;> rfl), by first | exact Kd.R_nil _ _ _ _ _ | exact Kd.N_nil _ _ _ _ _ | exact Kd.V_nil _ _ _ _ _ | exact Kd.Q_nil _ _ _ _ _ | exact Kd.S_nil _ _ _ _ _, by repeat (first | (with_reducible first | exact HB.out | apply below_alloc | apply pw_below_drewN | apply below_drew1) | exact HB.out)⟩
            ·
             rw [if_neg c12] at H
             have c12b0 : decide ((a0.size : Int) ≤ x7_2) = false := decide_eq_false c12
             clear c12
             by_cases c14 : (bt a0 x7_2) = 58
             ·
              rw [if_pos c14] at H
              have c14b0 : ((bt a0 x7_2) == 58) = true := beq_iff_eq.mpr c14
              have c14b1 : ((bt a0 x7_2) != 58) = false := bne_eq_false_iff_eq.mpr c14
              clear c14
              by_cases c15 : (wrap64 (x7_2 - x5_1)) > 1
              ·
               rw [if_pos c15] at H
               have c15b0 : decide (1 < (wrap64 (x7_2 - x5_1))) = true := decide_eq_true c15
               clear c15
               by_cases c16 : 0 ≤ x5_1
               ·
                rw [if_pos c16] at H
                have c16b0 : decide (0 ≤ x5_1) = true := decide_eq_true c16
                clear c16
                by_cases c17 : x5_1 < (a0.size : Int)
                ·
                 rw [if_pos c17] at H
                 have c17b0 : decide (x5_1 < (a0.size : Int)) = true := decide_eq_true c17
                 clear c17
                 by_cases c19 : (bt a0 x5_1) = 48
                 ·
                  rw [if_pos c19] at H
                  have c19b0 : ((bt a0 x5_1) == 48) = true := beq_iff_eq.mpr c19
                  have c19b1 : ((bt a0 x5_1) != 48) = false := bne_eq_false_iff_eq.mpr c19
                  clear c19
                  simp only [Option.some.injEq, Prod.mk.injEq] at H
                  obtain ⟨rfl, rfl⟩ := H
                  have p5 : 0 ≤ (x7_2 : Int) := of_decide_eq_true (by first | (with_reducible assumption) | assumption)
                  have q5 : x7_2 < (a0.size : Int) := of_decide_eq_true (by first | (with_reducible assumption) | assumption)
                  have hx5 := bt_at a0 x7_2
                  replace p5 := eq_true p5
                  replace q5 := eq_true q5
                  have p7 : 0 ≤ (x7_2 : Int) := of_decide_eq_true (by first | (with_reducible assumption) | assumption)
                  have q7 : x7_2 < (a0.size : Int) := of_decide_eq_true (by first | (with_reducible assumption) | assumption)
                  have hx7 := bt_at a0 x7_2
                  replace p7 := eq_true p7
                  replace q7 := eq_true q7
                  have p13 : 0 ≤ (x7_2 : Int) := of_decide_eq_true (by first | (with_reducible assumption) | assumption)
                  have q13 : x7_2 < (a0.size : Int) := of_decide_eq_true (by first | (with_reducible assumption) | assumption)
                  have hx13 := bt_at a0 x7_2
                  replace p13 := eq_true p13
                  replace q13 := eq_true q13
                  have p18 : 0 ≤ (x5_1 : Int) := of_decide_eq_true (by first | (with_reducible assumption) | assumption)
                  have q18 : x5_1 < (a0.size : Int) := of_decide_eq_true (by first | (with_reducible assumption) | assumption)
                  have hx18 := bt_at a0 x5_1
                  replace p18 := eq_true p18
                  replace q18 := eq_true q18
                  go_wp2
                  go_ret2
                  exact ⟨_, by first | rfl | (simp [errW_none, errW_some] <;> rfl) | (simp [*, errW_none, errW_some] <;> rfl), by first | exact Kd.R_nil _ _ _ _ _ | exact Kd.N_nil _ _ _ _ _ | exact Kd.V_nil _ _ _ _ _ | exact Kd.Q_nil _ _ _ _ _ | exact Kd.S_nil _ _ _ _ _, by repeat (first | (with_reducible first | exact HB.out | apply below_alloc | apply pw_below_drewN | apply below_drew1) | exact HB.out)⟩
                 ·
                  rw [if_neg c19] at H
                  have c19b0 : ((bt a0 x5_1) == 48) = false := beq_eq_false_iff_ne.mpr c19
                  have c19b1 : ((bt a0 x5_1) != 48) = true := bne_iff_ne.mpr c19
                  by_cases c20 : x6_2 > (wrap64 ((wrap64 ((a0.size : Int) - x7_2)) - 1))
                  ·
                   rw [if_pos c20] at H
                   have c20b0 : decide ((wrap64 ((wrap64 ((a0.size : Int) - x7_2)) - 1)) < x6_2) = true := decide_eq_true c20
                   clear c20
                   simp only [Option.some.injEq, Prod.mk.injEq] at H
                   obtain ⟨rfl, rfl⟩ := H
                   have p5 : 0 ≤ (x7_2 : Int) := of_decide_eq_true (by first | (with_reducible assumption) | assumption)
                   have q5 : x7_2 < (a0.size : Int) := of_decide_eq_true (by first | (with_reducible assumption) | assumption)
                   have hx5 := bt_at a0 x7_2
                   replace p5 := eq_true p5
                   replace q5 := eq_true q5
                   have p7 : 0 ≤ (x7_2 : Int) := of_decide_eq_true (by first | (with_reducible assumption) | assumption)
                   have q7 : x7_2 < (a0.size : Int) := of_decide_eq_true (by first | (with_reducible assumption) | assumption)
                   have hx7 := bt_at a0 x7_2
                   replace p7 := eq_true p7
                   replace q7 := eq_true q7
                   have p13 : 0 ≤ (x7_2 : Int) := of_decide_eq_true (by first | (with_reducible assumption) | assumption)
                   have q13 : x7_2 < (a0.size : Int) := of_decide_eq_true (by first | (with_reducible assumption) | assumption)
                   have hx13 := bt_at a0 x7_2
                   replace p13 := eq_true p13
                   replace q13 := eq_true q13
                   have p18 : 0 ≤ (x5_1 : Int) := of_decide_eq_true (by first | (with_reducible assumption) | assumption)
                   have q18 : x5_1 < (a0.size : Int) := of_decide_eq_true (by first | (with_reducible assumption) | assumption)
                   have hx18 := bt_at a0 x5_1
                   replace p18 := eq_true p18
                   replace q18 := eq_true q18
                   go_wp2
                   go_ret2
                   exact ⟨_, by first | rfl | (simp [errW_none, errW_some] <;> rfl) | (simp [*, errW_none, errW_some] <;> rfl), by first | exact Kd.R_nil _ _ _ _ _ | exact Kd.N_nil _ _ _ _ _ | exact Kd.V_nil _ _ _ _ _ | exact Kd.Q_nil _ _ _ _ _ | exact Kd.S_nil _ _ _ _ _, by repeat (first | (with_reducible first | exact HB.out | apply below_alloc | apply pw_below_drewN | apply below_drew1) | exact HB.out)⟩
                  ·
                   rw [if_neg c20] at H
                   have c20b0 : decide ((wrap64 ((wrap64 ((a0.size : Int) - x7_2)) - 1)) < x6_2) = false := decide_eq_false c20
                   clear c20
                   obtain ⟨ji21, hji21⟩ : ∃ j_ : Int, (wrap64 (x7_2 + 1)) = j_ := ⟨_, rfl⟩
                   replace H : (if 0 ≤ (ji21) then (if (ji21) ≤ (wrap64 ((ji21) + x6_2)) then (if (wrap64 ((ji21) + x6_2)) ≤ (a0.size : Int) then (if x4_1.length < 8796093022208 then (exequaturref13_Split.l0 k2 a0 (x4_1 ++ [a0.extract ((ji21) : Int).toNat ((wrap64 ((ji21) + x6_2)) : Int).toNat]) (wrap64 ((ji21) + x6_2))) else (none)) else (none)) else (none)) else (none)) = some (r1, r2) := by first | (rw [hji21] at H; exact H) | (simp only [hji21] at H ⊢; exact H)
                   have hji21w : (IntKind.i64.wrap (x7_2 + 1)) = ji21 := (i64_w _).trans hji21
                   by_cases c22 : 0 ≤ (ji21)
                   ·
                    rw [if_pos c22] at H
                    have c22b0 := eq_true c22
                    have c22b1 : decide (0 ≤ (ji21)) = true := decide_eq_true c22
                    clear c22
                    by_cases c23 : (ji21) ≤ (wrap64 ((ji21) + x6_2))
                    ·
                     rw [if_pos c23] at H
                     have c23b0 := eq_true c23
                     have c23b1 : decide ((ji21) ≤ (wrap64 ((ji21) + x6_2))) = true := decide_eq_true c23
                     by_cases c24 : (wrap64 ((ji21) + x6_2)) ≤ (a0.size : Int)
                     ·
                      rw [if_pos c24] at H
                      have c24b0 := eq_true c24
                      have c24b1 : decide ((wrap64 ((ji21) + x6_2)) ≤ (a0.size : Int)) = true := decide_eq_true c24
                      by_cases c25 : x4_1.length < 8796093022208
                      ·
                       rw [if_pos c25] at H
                       have LMc25 := Aside0.mk c25
                       clear c25
                       obtain ⟨y367, hy367⟩ : ∃ y_ : List ByteArray, y_ = (x4_1 ++ [a0.extract ((ji21) : Int).toNat ((wrap64 ((ji21) + x6_2)) : Int).toNat]) := ⟨_, rfl⟩
                       replace H : (exequaturref13_Split.l0 k2 a0 y367 (wrap64 ((ji21) + x6_2))) = some (r1, r2) := by first | (rw [hy367]; with_reducible exact H) | (have H2_ := (Option.bind_some _ _).symm.trans H; rw [hy367]; with_reducible exact H2_) | (have H2_ := (Option.bind_some _ _).symm.trans H; with_reducible exact H2_) | with_reducible exact H | (rw [hy367]; exact H) | exact H
                       have Ny367 := Aside0.mk hy367
                       clear hy367
                       have H' := Aside0.mk H
                       clear H
                       have p5 : 0 ≤ (x7_2 : Int) := of_decide_eq_true (by first | (with_reducible assumption) | assumption)
                       have q5 : x7_2 < (a0.size : Int) := of_decide_eq_true (by first | (with_reducible assumption) | assumption)
                       have hx5 := bt_at a0 x7_2
                       replace p5 := eq_true p5
                       replace q5 := eq_true q5
                       have p7 : 0 ≤ (x7_2 : Int) := of_decide_eq_true (by first | (with_reducible assumption) | assumption)
                       have q7 : x7_2 < (a0.size : Int) := of_decide_eq_true (by first | (with_reducible assumption) | assumption)
                       have hx7 := bt_at a0 x7_2
                       replace p7 := eq_true p7
                       replace q7 := eq_true q7
                       have p13 : 0 ≤ (x7_2 : Int) := of_decide_eq_true (by first | (with_reducible assumption) | assumption)
                       have q13 : x7_2 < (a0.size : Int) := of_decide_eq_true (by first | (with_reducible assumption) | assumption)
                       have hx13 := bt_at a0 x7_2
                       replace p13 := eq_true p13
                       replace q13 := eq_true q13
                       have p18 : 0 ≤ (x5_1 : Int) := of_decide_eq_true (by first | (with_reducible assumption) | assumption)
                       have q18 : x5_1 < (a0.size : Int) := of_decide_eq_true (by first | (with_reducible assumption) | assumption)
                       have hx18 := bt_at a0 x5_1
                       replace p18 := eq_true p18
                       replace q18 := eq_true q18
                       go_wp2_with (first | ((with_reducible refine gate_builtin (b := .append) (xs := #[.tmp 79, .tmp 88]) rfl ?_); (try (refine gate_guard (by rfl) ?_; dsimp only)); at_builtin; refine Kd.R_append Kd.string (w0 := w) w.heap.size rfl (.tmp 79) (.tmp 88) 88 9 (.string ⟨#[]⟩) 16 rfl Tryz.underlying88 info9 rfl (by decide) (by omega) u4 x4_1 (a0.extract ((ji21) : Int).toNat ((wrap64 ((ji21) + x6_2)) : Int).toNat) [.string (a0.extract ((ji21) : Int).toNat ((wrap64 ((ji21) + x6_2)) : Int).toNat)] (fun _ => True) (fun _ => False) rfl rfl ?aP (fun _ hk => hk.elim) ?aF ?aO ?aB ?aS ?aL ?_; (case aP => exact rfl); (case aB => exact (by repeat (first | (with_reducible first | exact HB.out | apply below_alloc | apply pw_below_drewN | apply below_drew1) | exact HB.out))); (case aF => exact (fun _ _ => trivial)); (case aO => exact (by (with_reducible repeat (first | apply Kd.R_alloc | apply Kd.R_drewN | apply Kd.R_drew)); exact HO_4.out)); (case aS => exact (below_size (by repeat (first | (with_reducible first | exact HB.out | apply below_alloc | apply pw_below_drewN | apply below_drew1) | exact HB.out)))); (case aL => have := LMc25.out; omega); intro v368 w26 ho hb hg hat; rw [← Ny367.out] at ho; have n0_ := Aside0.mk (hb); have n1_ := Aside0.mk (ho); clear HB; clear HO_4; have HB := n0_; have HO369 := n1_; clear n0_ n1_; clear ho hb hg hat))
                       go_roundg k2
                       case measure => have := HK1.out; have := HK2.out; omega
                       case rel => exact ⟨(y367), (wrap64 ((ji21) + x6_2)), (by first | rfl | (simp; done) | (simp only [← hji21] <;> (first | rfl | simp)) | (simp [*]; done)), H', ⟨by have := HK1.out; have := HK2.out; omega⟩, ⟨by (with_reducible repeat (first | apply Kd.R_alloc | apply Kd.R_drewN | apply Kd.R_drew)); exact HO369.out⟩, ⟨by repeat (first | (with_reducible first | exact HB.out | apply below_alloc | apply pw_below_drewN | apply below_drew1) | exact HB.out)⟩⟩
                      ·
                       rw [if_neg c25] at H
                       exact absurd H (by simp)
                     ·
                      rw [if_neg c24] at H
                      exact absurd H (by simp)
                    ·
                     rw [if_neg c23] at H
                     exact absurd H (by simp)
                   ·
                    rw [if_neg c22] at H
                    exact absurd H (by simp)
                ·
                 rw [if_neg c17] at H
                 exact absurd H (by simp)
               ·
                rw [if_neg c16] at H
                exact absurd H (by simp)
              ·
               rw [if_neg c15] at H
               have c15b0 : decide (1 < (wrap64 (x7_2 - x5_1))) = false := decide_eq_false c15
               clear c15
               by_cases c27 : x6_2 > (wrap64 ((wrap64 ((a0.size : Int) - x7_2)) - 1))
               ·
                rw [if_pos c27] at H
                have c27b0 : decide ((wrap64 ((wrap64 ((a0.size : Int) - x7_2)) - 1)) < x6_2) = true := decide_eq_true c27
                clear c27
                simp only [Option.some.injEq, Prod.mk.injEq] at H
                obtain ⟨rfl, rfl⟩ := H
                have p5 : 0 ≤ (x7_2 : Int) := of_decide_eq_true (by first | (with_reducible assumption) | assumption)
                have q5 : x7_2 < (a0.size : Int) := of_decide_eq_true (by first | (with_reducible assumption) | assumption)
                have hx5 := bt_at a0 x7_2
                replace p5 := eq_true p5
                replace q5 := eq_true q5
                have p7 : 0 ≤ (x7_2 : Int) := of_decide_eq_true (by first | (with_reducible assumption) | assumption)
                have q7 : x7_2 < (a0.size : Int) := of_decide_eq_true (by first | (with_reducible assumption) | assumption)
                have hx7 := bt_at a0 x7_2
                replace p7 := eq_true p7
                replace q7 := eq_true q7
                have p13 : 0 ≤ (x7_2 : Int) := of_decide_eq_true (by first | (with_reducible assumption) | assumption)
                have q13 : x7_2 < (a0.size : Int) := of_decide_eq_true (by first | (with_reducible assumption) | assumption)
                have hx13 := bt_at a0 x7_2
                replace p13 := eq_true p13
                replace q13 := eq_true q13
                go_wp2
                go_ret2
                exact ⟨_, by first | rfl | (simp [errW_none, errW_some] <;> rfl) | (simp [*, errW_none, errW_some] <;> rfl), by first | exact Kd.R_nil _ _ _ _ _ | exact Kd.N_nil _ _ _ _ _ | exact Kd.V_nil _ _ _ _ _ | exact Kd.Q_nil _ _ _ _ _ | exact Kd.S_nil _ _ _ _ _, by repeat (first | (with_reducible first | exact HB.out | apply below_alloc | apply pw_below_drewN | apply below_drew1) | exact HB.out)⟩
               ·
                rw [if_neg c27] at H
                have c27b0 : decide ((wrap64 ((wrap64 ((a0.size : Int) - x7_2)) - 1)) < x6_2) = false := decide_eq_false c27
                clear c27
                obtain ⟨ji28, hji28⟩ : ∃ j_ : Int, (wrap64 (x7_2 + 1)) = j_ := ⟨_, rfl⟩
                replace H : (if 0 ≤ (ji28) then (if (ji28) ≤ (wrap64 ((ji28) + x6_2)) then (if (wrap64 ((ji28) + x6_2)) ≤ (a0.size : Int) then (if x4_1.length < 8796093022208 then (exequaturref13_Split.l0 k2 a0 (x4_1 ++ [a0.extract ((ji28) : Int).toNat ((wrap64 ((ji28) + x6_2)) : Int).toNat]) (wrap64 ((ji28) + x6_2))) else (none)) else (none)) else (none)) else (none)) = some (r1, r2) := by first | (rw [hji28] at H; exact H) | (simp only [hji28] at H ⊢; exact H)
                have hji28w : (IntKind.i64.wrap (x7_2 + 1)) = ji28 := (i64_w _).trans hji28
                by_cases c29 : 0 ≤ (ji28)
                ·
                 rw [if_pos c29] at H
                 have c29b0 := eq_true c29
                 have c29b1 : decide (0 ≤ (ji28)) = true := decide_eq_true c29
                 clear c29
                 by_cases c30 : (ji28) ≤ (wrap64 ((ji28) + x6_2))
                 ·
                  rw [if_pos c30] at H
                  have c30b0 := eq_true c30
                  have c30b1 : decide ((ji28) ≤ (wrap64 ((ji28) + x6_2))) = true := decide_eq_true c30
                  by_cases c31 : (wrap64 ((ji28) + x6_2)) ≤ (a0.size : Int)
                  ·
                   rw [if_pos c31] at H
                   have c31b0 := eq_true c31
                   have c31b1 : decide ((wrap64 ((ji28) + x6_2)) ≤ (a0.size : Int)) = true := decide_eq_true c31
                   by_cases c32 : x4_1.length < 8796093022208
                   ·
                    rw [if_pos c32] at H
                    have LMc32 := Aside0.mk c32
                    clear c32
                    obtain ⟨y370, hy370⟩ : ∃ y_ : List ByteArray, y_ = (x4_1 ++ [a0.extract ((ji28) : Int).toNat ((wrap64 ((ji28) + x6_2)) : Int).toNat]) := ⟨_, rfl⟩
                    replace H : (exequaturref13_Split.l0 k2 a0 y370 (wrap64 ((ji28) + x6_2))) = some (r1, r2) := by first | (rw [hy370]; with_reducible exact H) | (have H2_ := (Option.bind_some _ _).symm.trans H; rw [hy370]; with_reducible exact H2_) | (have H2_ := (Option.bind_some _ _).symm.trans H; with_reducible exact H2_) | with_reducible exact H | (rw [hy370]; exact H) | exact H
                    have Ny370 := Aside0.mk hy370
                    clear hy370
                    have H' := Aside0.mk H
                    clear H
                    have p5 : 0 ≤ (x7_2 : Int) := of_decide_eq_true (by first | (with_reducible assumption) | assumption)
                    have q5 : x7_2 < (a0.size : Int) := of_decide_eq_true (by first | (with_reducible assumption) | assumption)
                    have hx5 := bt_at a0 x7_2
                    replace p5 := eq_true p5
                    replace q5 := eq_true q5
                    have p7 : 0 ≤ (x7_2 : Int) := of_decide_eq_true (by first | (with_reducible assumption) | assumption)
                    have q7 : x7_2 < (a0.size : Int) := of_decide_eq_true (by first | (with_reducible assumption) | assumption)
                    have hx7 := bt_at a0 x7_2
                    replace p7 := eq_true p7
                    replace q7 := eq_true q7
                    have p13 : 0 ≤ (x7_2 : Int) := of_decide_eq_true (by first | (with_reducible assumption) | assumption)
                    have q13 : x7_2 < (a0.size : Int) := of_decide_eq_true (by first | (with_reducible assumption) | assumption)
                    have hx13 := bt_at a0 x7_2
                    replace p13 := eq_true p13
                    replace q13 := eq_true q13
                    go_wp2_with (first | ((with_reducible refine gate_builtin (b := .append) (xs := #[.tmp 79, .tmp 88]) rfl ?_); (try (refine gate_guard (by rfl) ?_; dsimp only)); at_builtin; refine Kd.R_append Kd.string (w0 := w) w.heap.size rfl (.tmp 79) (.tmp 88) 88 9 (.string ⟨#[]⟩) 16 rfl Tryz.underlying88 info9 rfl (by decide) (by omega) u4 x4_1 (a0.extract ((ji28) : Int).toNat ((wrap64 ((ji28) + x6_2)) : Int).toNat) [.string (a0.extract ((ji28) : Int).toNat ((wrap64 ((ji28) + x6_2)) : Int).toNat)] (fun _ => True) (fun _ => False) rfl rfl ?aP (fun _ hk => hk.elim) ?aF ?aO ?aB ?aS ?aL ?_; (case aP => exact rfl); (case aB => exact (by repeat (first | (with_reducible first | exact HB.out | apply below_alloc | apply pw_below_drewN | apply below_drew1) | exact HB.out))); (case aF => exact (fun _ _ => trivial)); (case aO => exact (by (with_reducible repeat (first | apply Kd.R_alloc | apply Kd.R_drewN | apply Kd.R_drew)); exact HO_4.out)); (case aS => exact (below_size (by repeat (first | (with_reducible first | exact HB.out | apply below_alloc | apply pw_below_drewN | apply below_drew1) | exact HB.out)))); (case aL => have := LMc32.out; omega); intro v371 w33 ho hb hg hat; rw [← Ny370.out] at ho; have n0_ := Aside0.mk (hb); have n1_ := Aside0.mk (ho); clear HB; clear HO_4; have HB := n0_; have HO372 := n1_; clear n0_ n1_; clear ho hb hg hat))
                    go_roundg k2
                    case measure => have := HK1.out; have := HK2.out; omega
                    case rel => exact ⟨(y370), (wrap64 ((ji28) + x6_2)), (by first | rfl | (simp; done) | (simp only [← hji28] <;> (first | rfl | simp)) | (simp [*]; done)), H', ⟨by have := HK1.out; have := HK2.out; omega⟩, ⟨by (with_reducible repeat (first | apply Kd.R_alloc | apply Kd.R_drewN | apply Kd.R_drew)); exact HO372.out⟩, ⟨by repeat (first | (with_reducible first | exact HB.out | apply below_alloc | apply pw_below_drewN | apply below_drew1) | exact HB.out)⟩⟩
                   ·
                    rw [if_neg c32] at H
                    exact absurd H (by simp)
                  ·
                   rw [if_neg c31] at H
                   exact absurd H (by simp)
                 ·
                  rw [if_neg c30] at H
                  exact absurd H (by simp)
                ·
                 rw [if_neg c29] at H
                 exact absurd H (by simp)
             ·
              rw [if_neg c14] at H
              have c14b0 : ((bt a0 x7_2) == 58) = false := beq_eq_false_iff_ne.mpr c14
              have c14b1 : ((bt a0 x7_2) != 58) = true := bne_iff_ne.mpr c14
              simp only [Option.some.injEq, Prod.mk.injEq] at H
              obtain ⟨rfl, rfl⟩ := H
              have p5 : 0 ≤ (x7_2 : Int) := of_decide_eq_true (by first | (with_reducible assumption) | assumption)
              have q5 : x7_2 < (a0.size : Int) := of_decide_eq_true (by first | (with_reducible assumption) | assumption)
              have hx5 := bt_at a0 x7_2
              replace p5 := eq_true p5
              replace q5 := eq_true q5
              have p7 : 0 ≤ (x7_2 : Int) := of_decide_eq_true (by first | (with_reducible assumption) | assumption)
              have q7 : x7_2 < (a0.size : Int) := of_decide_eq_true (by first | (with_reducible assumption) | assumption)
              have hx7 := bt_at a0 x7_2
              replace p7 := eq_true p7
              replace q7 := eq_true q7
              have p13 : 0 ≤ (x7_2 : Int) := of_decide_eq_true (by first | (with_reducible assumption) | assumption)
              have q13 : x7_2 < (a0.size : Int) := of_decide_eq_true (by first | (with_reducible assumption) | assumption)
              have hx13 := bt_at a0 x7_2
              replace p13 := eq_true p13
              replace q13 := eq_true q13
              go_wp2
              go_ret2
              exact ⟨_, by first | rfl | (simp [errW_none, errW_some] <;> rfl) | (simp [*, errW_none, errW_some] <;> rfl), by first | exact Kd.R_nil _ _ _ _ _ | exact Kd.N_nil _ _ _ _ _ | exact Kd.V_nil _ _ _ _ _ | exact Kd.Q_nil _ _ _ _ _ | exact Kd.S_nil _ _ _ _ _, by repeat (first | (with_reducible first | exact HB.out | apply below_alloc | apply pw_below_drewN | apply below_drew1) | exact HB.out)⟩
         ·
          rw [if_neg c8] at H
          have c8b0 : decide ((bt a0 x7_2) ≤ 57) = false := decide_eq_false c8
          clear c8
          by_cases c34 : x7_2 = x5_1
          ·
           rw [if_pos c34] at H
           have c34b0 : (x7_2 == x5_1) = true := beq_iff_eq.mpr c34
           have c34b1 : (x7_2 != x5_1) = false := bne_eq_false_iff_eq.mpr c34
           clear c34
           simp only [Option.some.injEq, Prod.mk.injEq] at H
           obtain ⟨rfl, rfl⟩ := H
           have p5 : 0 ≤ (x7_2 : Int) := of_decide_eq_true (by first | (with_reducible assumption) | assumption)
           have q5 : x7_2 < (a0.size : Int) := of_decide_eq_true (by first | (with_reducible assumption) | assumption)
           have hx5 := bt_at a0 x7_2
           replace p5 := eq_true p5
           replace q5 := eq_true q5
           have p7 : 0 ≤ (x7_2 : Int) := of_decide_eq_true (by first | (with_reducible assumption) | assumption)
           have q7 : x7_2 < (a0.size : Int) := of_decide_eq_true (by first | (with_reducible assumption) | assumption)
           have hx7 := bt_at a0 x7_2
           replace p7 := eq_true p7
           replace q7 := eq_true q7
           go_wp2
           go_ret2
           exact ⟨_, by first | rfl | (simp [errW_none, errW_some] <;> rfl) | (simp [*, errW_none, errW_some] <;> rfl), by first | exact Kd.R_nil _ _ _ _ _ | exact Kd.N_nil _ _ _ _ _ | exact Kd.V_nil _ _ _ _ _ | exact Kd.Q_nil _ _ _ _ _ | exact Kd.S_nil _ _ _ _ _, by repeat (first | (with_reducible first | exact HB.out | apply below_alloc | apply pw_below_drewN | apply below_drew1) | exact HB.out)⟩
          ·
           rw [if_neg c34] at H
           have c34b0 : (x7_2 == x5_1) = false := beq_eq_false_iff_ne.mpr c34
           have c34b1 : (x7_2 != x5_1) = true := bne_iff_ne.mpr c34
           by_cases c35 : x7_2 ≥ (a0.size : Int)
           ·
            rw [if_pos c35] at H
            have c35b0 : decide ((a0.size : Int) ≤ x7_2) = true := decide_eq_true c35
            clear c35
            simp only [Option.some.injEq, Prod.mk.injEq] at H
            obtain ⟨rfl, rfl⟩ := H
            have p5 : 0 ≤ (x7_2 : Int) := of_decide_eq_true (by first | (with_reducible assumption) | assumption)
            have q5 : x7_2 < (a0.size : Int) := of_decide_eq_true (by first | (with_reducible assumption) | assumption)
            have hx5 := bt_at a0 x7_2
            replace p5 := eq_true p5
            replace q5 := eq_true q5
            have p7 : 0 ≤ (x7_2 : Int) := of_decide_eq_true (by first | (with_reducible assumption) | assumption)
            have q7 : x7_2 < (a0.size : Int) := of_decide_eq_true (by first | (with_reducible assumption) | assumption)
            have hx7 := bt_at a0 x7_2
            replace p7 := eq_true p7
            replace q7 := eq_true q7
            go_wp2
            go_ret2
            exact ⟨_, by first | rfl | (simp [errW_none, errW_some] <;> rfl) | (simp [*, errW_none, errW_some] <;> rfl), by first | exact Kd.R_nil _ _ _ _ _ | exact Kd.N_nil _ _ _ _ _ | exact Kd.V_nil _ _ _ _ _ | exact Kd.Q_nil _ _ _ _ _ | exact Kd.S_nil _ _ _ _ _, by repeat (first | (with_reducible first | exact HB.out | apply below_alloc | apply pw_below_drewN | apply below_drew1) | exact HB.out)⟩
           ·
            rw [if_neg c35] at H
            have c35b0 : decide ((a0.size : Int) ≤ x7_2) = false := decide_eq_false c35
            clear c35
            by_cases c37 : (bt a0 x7_2) = 58
            ·
             rw [if_pos c37] at H
             have c37b0 : ((bt a0 x7_2) == 58) = true := beq_iff_eq.mpr c37
             have c37b1 : ((bt a0 x7_2) != 58) = false := bne_eq_false_iff_eq.mpr c37
             clear c37
             by_cases c38 : (wrap64 (x7_2 - x5_1)) > 1
             ·
              rw [if_pos c38] at H
              have c38b0 : decide (1 < (wrap64 (x7_2 - x5_1))) = true := decide_eq_true c38
              clear c38
              by_cases c39 : 0 ≤ x5_1
              ·
               rw [if_pos c39] at H
               have c39b0 : decide (0 ≤ x5_1) = true := decide_eq_true c39
               clear c39
               by_cases c40 : x5_1 < (a0.size : Int)
               ·
                rw [if_pos c40] at H
                have c40b0 : decide (x5_1 < (a0.size : Int)) = true := decide_eq_true c40
                clear c40
                by_cases c42 : (bt a0 x5_1) = 48
                ·
                 rw [if_pos c42] at H
                 have c42b0 : ((bt a0 x5_1) == 48) = true := beq_iff_eq.mpr c42
                 have c42b1 : ((bt a0 x5_1) != 48) = false := bne_eq_false_iff_eq.mpr c42
                 clear c42
                 simp only [Option.some.injEq, Prod.mk.injEq] at H
                 obtain ⟨rfl, rfl⟩ := H
                 have p5 : 0 ≤ (x7_2 : Int) := of_decide_eq_true (by first | (with_reducible assumption) | assumption)
                 have q5 : x7_2 < (a0.size : Int) := of_decide_eq_true (by first | (with_reducible assumption) | assumption)
                 have hx5 := bt_at a0 x7_2
                 replace p5 := eq_true p5
                 replace q5 := eq_true q5
                 have p7 : 0 ≤ (x7_2 : Int) := of_decide_eq_true (by first | (with_reducible assumption) | assumption)
                 have q7 : x7_2 < (a0.size : Int) := of_decide_eq_true (by first | (with_reducible assumption) | assumption)
                 have hx7 := bt_at a0 x7_2
                 replace p7 := eq_true p7
                 replace q7 := eq_true q7
                 have p36 : 0 ≤ (x7_2 : Int) := of_decide_eq_true (by first | (with_reducible assumption) | assumption)
                 have q36 : x7_2 < (a0.size : Int) := of_decide_eq_true (by first | (with_reducible assumption) | assumption)
                 have hx36 := bt_at a0 x7_2
                 replace p36 := eq_true p36
                 replace q36 := eq_true q36
                 have p41 : 0 ≤ (x5_1 : Int) := of_decide_eq_true (by first | (with_reducible assumption) | assumption)
                 have q41 : x5_1 < (a0.size : Int) := of_decide_eq_true (by first | (with_reducible assumption) | assumption)
                 have hx41 := bt_at a0 x5_1
                 replace p41 := eq_true p41
                 replace q41 := eq_true q41
                 go_wp2
                 go_ret2
                 exact ⟨_, by first | rfl | (simp [errW_none, errW_some] <;> rfl) | (simp [*, errW_none, errW_some] <;> rfl), by first | exact Kd.R_nil _ _ _ _ _ | exact Kd.N_nil _ _ _ _ _ | exact Kd.V_nil _ _ _ _ _ | exact Kd.Q_nil _ _ _ _ _ | exact Kd.S_nil _ _ _ _ _, by repeat (first | (with_reducible first | exact HB.out | apply below_alloc | apply pw_below_drewN | apply below_drew1) | exact HB.out)⟩
                ·
                 rw [if_neg c42] at H
                 have c42b0 : ((bt a0 x5_1) == 48) = false := beq_eq_false_iff_ne.mpr c42
                 have c42b1 : ((bt a0 x5_1) != 48) = true := bne_iff_ne.mpr c42
                 by_cases c43 : x6_2 > (wrap64 ((wrap64 ((a0.size : Int) - x7_2)) - 1))
                 ·
                  rw [if_pos c43] at H
                  have c43b0 : decide ((wrap64 ((wrap64 ((a0.size : Int) - x7_2)) - 1)) < x6_2) = true := decide_eq_true c43
                  clear c43
                  simp only [Option.some.injEq, Prod.mk.injEq] at H
                  obtain ⟨rfl, rfl⟩ := H
                  have p5 : 0 ≤ (x7_2 : Int) := of_decide_eq_true (by first | (with_reducible assumption) | assumption)
                  have q5 : x7_2 < (a0.size : Int) := of_decide_eq_true (by first | (with_reducible assumption) | assumption)
                  have hx5 := bt_at a0 x7_2
                  replace p5 := eq_true p5
                  replace q5 := eq_true q5
                  have p7 : 0 ≤ (x7_2 : Int) := of_decide_eq_true (by first | (with_reducible assumption) | assumption)
                  have q7 : x7_2 < (a0.size : Int) := of_decide_eq_true (by first | (with_reducible assumption) | assumption)
                  have hx7 := bt_at a0 x7_2
                  replace p7 := eq_true p7
                  replace q7 := eq_true q7
                  have p36 : 0 ≤ (x7_2 : Int) := of_decide_eq_true (by first | (with_reducible assumption) | assumption)
                  have q36 : x7_2 < (a0.size : Int) := of_decide_eq_true (by first | (with_reducible assumption) | assumption)
                  have hx36 := bt_at a0 x7_2
                  replace p36 := eq_true p36
                  replace q36 := eq_true q36
                  have p41 : 0 ≤ (x5_1 : Int) := of_decide_eq_true (by first | (with_reducible assumption) | assumption)
                  have q41 : x5_1 < (a0.size : Int) := of_decide_eq_true (by first | (with_reducible assumption) | assumption)
                  have hx41 := bt_at a0 x5_1
                  replace p41 := eq_true p41
                  replace q41 := eq_true q41
                  go_wp2
                  go_ret2
                  exact ⟨_, by first | rfl | (simp [errW_none, errW_some] <;> rfl) | (simp [*, errW_none, errW_some] <;> rfl), by first | exact Kd.R_nil _ _ _ _ _ | exact Kd.N_nil _ _ _ _ _ | exact Kd.V_nil _ _ _ _ _ | exact Kd.Q_nil _ _ _ _ _ | exact Kd.S_nil _ _ _ _ _, by repeat (first | (with_reducible first | exact HB.out | apply below_alloc | apply pw_below_drewN | apply below_drew1) | exact HB.out)⟩
                 ·
                  rw [if_neg c43] at H
                  have c43b0 : decide ((wrap64 ((wrap64 ((a0.size : Int) - x7_2)) - 1)) < x6_2) = false := decide_eq_false c43
                  clear c43
                  obtain ⟨ji44, hji44⟩ : ∃ j_ : Int, (wrap64 (x7_2 + 1)) = j_ := ⟨_, rfl⟩
                  replace H : (if 0 ≤ (ji44) then (if (ji44) ≤ (wrap64 ((ji44) + x6_2)) then (if (wrap64 ((ji44) + x6_2)) ≤ (a0.size : Int) then (if x4_1.length < 8796093022208 then (exequaturref13_Split.l0 k2 a0 (x4_1 ++ [a0.extract ((ji44) : Int).toNat ((wrap64 ((ji44) + x6_2)) : Int).toNat]) (wrap64 ((ji44) + x6_2))) else (none)) else (none)) else (none)) else (none)) = some (r1, r2) := by first | (rw [hji44] at H; exact H) | (simp only [hji44] at H ⊢; exact H)
                  have hji44w : (IntKind.i64.wrap (x7_2 + 1)) = ji44 := (i64_w _).trans hji44
                  by_cases c45 : 0 ≤ (ji44)
                  ·
                   rw [if_pos c45] at H
                   have c45b0 := eq_true c45
                   have c45b1 : decide (0 ≤ (ji44)) = true := decide_eq_true c45
                   clear c45
                   by_cases c46 : (ji44) ≤ (wrap64 ((ji44) + x6_2))
                   ·
                    rw [if_pos c46] at H
                    have c46b0 := eq_true c46
                    have c46b1 : decide ((ji44) ≤ (wrap64 ((ji44) + x6_2))) = true := decide_eq_true c46
                    by_cases c47 : (wrap64 ((ji44) + x6_2)) ≤ (a0.size : Int)
                    ·
                     rw [if_pos c47] at H
                     have c47b0 := eq_true c47
                     have c47b1 : decide ((wrap64 ((ji44) + x6_2)) ≤ (a0.size : Int)) = true := decide_eq_true c47
                     by_cases c48 : x4_1.length < 8796093022208
                     ·
                      rw [if_pos c48] at H
                      have LMc48 := Aside0.mk c48
                      clear c48
                      obtain ⟨y373, hy373⟩ : ∃ y_ : List ByteArray, y_ = (x4_1 ++ [a0.extract ((ji44) : Int).toNat ((wrap64 ((ji44) + x6_2)) : Int).toNat]) := ⟨_, rfl⟩
                      replace H : (exequaturref13_Split.l0 k2 a0 y373 (wrap64 ((ji44) + x6_2))) = some (r1, r2) := by first | (rw [hy373]; with_reducible exact H) | (have H2_ := (Option.bind_some _ _).symm.trans H; rw [hy373]; with_reducible exact H2_) | (have H2_ := (Option.bind_some _ _).symm.trans H; with_reducible exact H2_) | with_reducible exact H | (rw [hy373]; exact H) | exact H
                      have Ny373 := Aside0.mk hy373
                      clear hy373
                      have H' := Aside0.mk H
                      clear H
                      have p5 : 0 ≤ (x7_2 : Int) := of_decide_eq_true (by first | (with_reducible assumption) | assumption)
                      have q5 : x7_2 < (a0.size : Int) := of_decide_eq_true (by first | (with_reducible assumption) | assumption)
                      have hx5 := bt_at a0 x7_2
                      replace p5 := eq_true p5
                      replace q5 := eq_true q5
                      have p7 : 0 ≤ (x7_2 : Int) := of_decide_eq_true (by first | (with_reducible assumption) | assumption)
                      have q7 : x7_2 < (a0.size : Int) := of_decide_eq_true (by first | (with_reducible assumption) | assumption)
                      have hx7 := bt_at a0 x7_2
                      replace p7 := eq_true p7
                      replace q7 := eq_true q7
                      have p36 : 0 ≤ (x7_2 : Int) := of_decide_eq_true (by first | (with_reducible assumption) | assumption)
                      have q36 : x7_2 < (a0.size : Int) := of_decide_eq_true (by first | (with_reducible assumption) | assumption)
                      have hx36 := bt_at a0 x7_2
                      replace p36 := eq_true p36
                      replace q36 := eq_true q36
                      have p41 : 0 ≤ (x5_1 : Int) := of_decide_eq_true (by first | (with_reducible assumption) | assumption)
                      have q41 : x5_1 < (a0.size : Int) := of_decide_eq_true (by first | (with_reducible assumption) | assumption)
                      have hx41 := bt_at a0 x5_1
                      replace p41 := eq_true p41
                      replace q41 := eq_true q41
                      go_wp2_with (first | ((with_reducible refine gate_builtin (b := .append) (xs := #[.tmp 79, .tmp 88]) rfl ?_); (try (refine gate_guard (by rfl) ?_; dsimp only)); at_builtin; refine Kd.R_append Kd.string (w0 := w) w.heap.size rfl (.tmp 79) (.tmp 88) 88 9 (.string ⟨#[]⟩) 16 rfl Tryz.underlying88 info9 rfl (by decide) (by omega) u4 x4_1 (a0.extract ((ji44) : Int).toNat ((wrap64 ((ji44) + x6_2)) : Int).toNat) [.string (a0.extract ((ji44) : Int).toNat ((wrap64 ((ji44) + x6_2)) : Int).toNat)] (fun _ => True) (fun _ => False) rfl rfl ?aP (fun _ hk => hk.elim) ?aF ?aO ?aB ?aS ?aL ?_; (case aP => exact rfl); (case aB => exact (by repeat (first | (with_reducible first | exact HB.out | apply below_alloc | apply pw_below_drewN | apply below_drew1) | exact HB.out))); (case aF => exact (fun _ _ => trivial)); (case aO => exact (by (with_reducible repeat (first | apply Kd.R_alloc | apply Kd.R_drewN | apply Kd.R_drew)); exact HO_4.out)); (case aS => exact (below_size (by repeat (first | (with_reducible first | exact HB.out | apply below_alloc | apply pw_below_drewN | apply below_drew1) | exact HB.out)))); (case aL => have := LMc48.out; omega); intro v374 w49 ho hb hg hat; rw [← Ny373.out] at ho; have n0_ := Aside0.mk (hb); have n1_ := Aside0.mk (ho); clear HB; clear HO_4; have HB := n0_; have HO375 := n1_; clear n0_ n1_; clear ho hb hg hat))
                      go_roundg k2
                      case measure => have := HK1.out; have := HK2.out; omega
                      case rel => exact ⟨(y373), (wrap64 ((ji44) + x6_2)), (by first | rfl | (simp; done) | (simp only [← hji44] <;> (first | rfl | simp)) | (simp [*]; done)), H', ⟨by have := HK1.out; have := HK2.out; omega⟩, ⟨by (with_reducible repeat (first | apply Kd.R_alloc | apply Kd.R_drewN | apply Kd.R_drew)); exact HO375.out⟩, ⟨by repeat (first | (with_reducible first | exact HB.out | apply below_alloc | apply pw_below_drewN | apply below_drew1) | exact HB.out)⟩⟩
                     ·
                      rw [if_neg c48] at H
                      exact absurd H (by simp)
                    ·
                     rw [if_neg c47] at H
                     exact absurd H (by simp)
                   ·
                    rw [if_neg c46] at H
                    exact absurd H (by simp)
                  ·
                   rw [if_neg c45] at H
                   exact absurd H (by simp)
               ·
                rw [if_neg c40] at H
                exact absurd H (by simp)
              ·
               rw [if_neg c39] at H
               exact absurd H (by simp)
             ·
              rw [if_neg c38] at H
              have c38b0 : decide (1 < (wrap64 (x7_2 - x5_1))) = false := decide_eq_false c38
              clear c38
              by_cases c50 : x6_2 > (wrap64 ((wrap64 ((a0.size : Int) - x7_2)) - 1))
              ·
               rw [if_pos c50] at H
               have c50b0 : decide ((wrap64 ((wrap64 ((a0.size : Int) - x7_2)) - 1)) < x6_2) = true := decide_eq_true c50
               clear c50
               simp only [Option.some.injEq, Prod.mk.injEq] at H
               obtain ⟨rfl, rfl⟩ := H
               have p5 : 0 ≤ (x7_2 : Int) := of_decide_eq_true (by first | (with_reducible assumption) | assumption)
               have q5 : x7_2 < (a0.size : Int) := of_decide_eq_true (by first | (with_reducible assumption) | assumption)
               have hx5 := bt_at a0 x7_2
               replace p5 := eq_true p5
               replace q5 := eq_true q5
               have p7 : 0 ≤ (x7_2 : Int) := of_decide_eq_true (by first | (with_reducible assumption) | assumption)
               have q7 : x7_2 < (a0.size : Int) := of_decide_eq_true (by first | (with_reducible assumption) | assumption)
               have hx7 := bt_at a0 x7_2
               replace p7 := eq_true p7
               replace q7 := eq_true q7
               have p36 : 0 ≤ (x7_2 : Int) := of_decide_eq_true (by first | (with_reducible assumption) | assumption)
               have q36 : x7_2 < (a0.size : Int) := of_decide_eq_true (by first | (with_reducible assumption) | assumption)
               have hx36 := bt_at a0 x7_2
               replace p36 := eq_true p36
               replace q36 := eq_true q36
               go_wp2
               go_ret2
               exact ⟨_, by first | rfl | (simp [errW_none, errW_some] <;> rfl) | (simp [*, errW_none, errW_some] <;> rfl), by first | exact Kd.R_nil _ _ _ _ _ | exact Kd.N_nil _ _ _ _ _ | exact Kd.V_nil _ _ _ _ _ | exact Kd.Q_nil _ _ _ _ _ | exact Kd.S_nil _ _ _ _ _, by repeat (first | (with_reducible first | exact HB.out | apply below_alloc | apply pw_below_drewN | apply below_drew1) | exact HB.out)⟩
              ·
               rw [if_neg c50] at H
               have c50b0 : decide ((wrap64 ((wrap64 ((a0.size : Int) - x7_2)) - 1)) < x6_2) = false := decide_eq_false c50
               clear c50
               obtain ⟨ji51, hji51⟩ : ∃ j_ : Int, (wrap64 (x7_2 + 1)) = j_ := ⟨_, rfl⟩
               replace H : (if 0 ≤ (ji51) then (if (ji51) ≤ (wrap64 ((ji51) + x6_2)) then (if (wrap64 ((ji51) + x6_2)) ≤ (a0.size : Int) then (if x4_1.length < 8796093022208 then (exequaturref13_Split.l0 k2 a0 (x4_1 ++ [a0.extract ((ji51) : Int).toNat ((wrap64 ((ji51) + x6_2)) : Int).toNat]) (wrap64 ((ji51) + x6_2))) else (none)) else (none)) else (none)) else (none)) = some (r1, r2) := by first | (rw [hji51] at H; exact H) | (simp only [hji51] at H ⊢; exact H)
               have hji51w : (IntKind.i64.wrap (x7_2 + 1)) = ji51 := (i64_w _).trans hji51
               by_cases c52 : 0 ≤ (ji51)
               ·
                rw [if_pos c52] at H
                have c52b0 := eq_true c52
                have c52b1 : decide (0 ≤ (ji51)) = true := decide_eq_true c52
                clear c52
                by_cases c53 : (ji51) ≤ (wrap64 ((ji51) + x6_2))
                ·
                 rw [if_pos c53] at H
                 have c53b0 := eq_true c53
                 have c53b1 : decide ((ji51) ≤ (wrap64 ((ji51) + x6_2))) = true := decide_eq_true c53
                 by_cases c54 : (wrap64 ((ji51) + x6_2)) ≤ (a0.size : Int)
                 ·
                  rw [if_pos c54] at H
                  have c54b0 := eq_true c54
                  have c54b1 : decide ((wrap64 ((ji51) + x6_2)) ≤ (a0.size : Int)) = true := decide_eq_true c54
                  by_cases c55 : x4_1.length < 8796093022208
                  ·
                   rw [if_pos c55] at H
                   have LMc55 := Aside0.mk c55
                   clear c55
                   obtain ⟨y376, hy376⟩ : ∃ y_ : List ByteArray, y_ = (x4_1 ++ [a0.extract ((ji51) : Int).toNat ((wrap64 ((ji51) + x6_2)) : Int).toNat]) := ⟨_, rfl⟩
                   replace H : (exequaturref13_Split.l0 k2 a0 y376 (wrap64 ((ji51) + x6_2))) = some (r1, r2) := by first | (rw [hy376]; with_reducible exact H) | (have H2_ := (Option.bind_some _ _).symm.trans H; rw [hy376]; with_reducible exact H2_) | (have H2_ := (Option.bind_some _ _).symm.trans H; with_reducible exact H2_) | with_reducible exact H | (rw [hy376]; exact H) | exact H
                   have Ny376 := Aside0.mk hy376
                   clear hy376
                   have H' := Aside0.mk H
                   clear H
                   have p5 : 0 ≤ (x7_2 : Int) := of_decide_eq_true (by first | (with_reducible assumption) | assumption)
                   have q5 : x7_2 < (a0.size : Int) := of_decide_eq_true (by first | (with_reducible assumption) | assumption)
                   have hx5 := bt_at a0 x7_2
                   replace p5 := eq_true p5
                   replace q5 := eq_true q5
                   have p7 : 0 ≤ (x7_2 : Int) := of_decide_eq_true (by first | (with_reducible assumption) | assumption)
                   have q7 : x7_2 < (a0.size : Int) := of_decide_eq_true (by first | (with_reducible assumption) | assumption)
                   have hx7 := bt_at a0 x7_2
                   replace p7 := eq_true p7
                   replace q7 := eq_true q7
                   have p36 : 0 ≤ (x7_2 : Int) := of_decide_eq_true (by first | (with_reducible assumption) | assumption)
                   have q36 : x7_2 < (a0.size : Int) := of_decide_eq_true (by first | (with_reducible assumption) | assumption)
                   have hx36 := bt_at a0 x7_2
                   replace p36 := eq_true p36
                   replace q36 := eq_true q36
                   go_wp2_with (first | ((with_reducible refine gate_builtin (b := .append) (xs := #[.tmp 79, .tmp 88]) rfl ?_); (try (refine gate_guard (by rfl) ?_; dsimp only)); at_builtin; refine Kd.R_append Kd.string (w0 := w) w.heap.size rfl (.tmp 79) (.tmp 88) 88 9 (.string ⟨#[]⟩) 16 rfl Tryz.underlying88 info9 rfl (by decide) (by omega) u4 x4_1 (a0.extract ((ji51) : Int).toNat ((wrap64 ((ji51) + x6_2)) : Int).toNat) [.string (a0.extract ((ji51) : Int).toNat ((wrap64 ((ji51) + x6_2)) : Int).toNat)] (fun _ => True) (fun _ => False) rfl rfl ?aP (fun _ hk => hk.elim) ?aF ?aO ?aB ?aS ?aL ?_; (case aP => exact rfl); (case aB => exact (by repeat (first | (with_reducible first | exact HB.out | apply below_alloc | apply pw_below_drewN | apply below_drew1) | exact HB.out))); (case aF => exact (fun _ _ => trivial)); (case aO => exact (by (with_reducible repeat (first | apply Kd.R_alloc | apply Kd.R_drewN | apply Kd.R_drew)); exact HO_4.out)); (case aS => exact (below_size (by repeat (first | (with_reducible first | exact HB.out | apply below_alloc | apply pw_below_drewN | apply below_drew1) | exact HB.out)))); (case aL => have := LMc55.out; omega); intro v377 w56 ho hb hg hat; rw [← Ny376.out] at ho; have n0_ := Aside0.mk (hb); have n1_ := Aside0.mk (ho); clear HB; clear HO_4; have HB := n0_; have HO378 := n1_; clear n0_ n1_; clear ho hb hg hat))
                   go_roundg k2
                   case measure => have := HK1.out; have := HK2.out; omega
                   case rel => exact ⟨(y376), (wrap64 ((ji51) + x6_2)), (by first | rfl | (simp; done) | (simp only [← hji51] <;> (first | rfl | simp)) | (simp [*]; done)), H', ⟨by have := HK1.out; have := HK2.out; omega⟩, ⟨by (with_reducible repeat (first | apply Kd.R_alloc | apply Kd.R_drewN | apply Kd.R_drew)); exact HO378.out⟩, ⟨by repeat (first | (with_reducible first | exact HB.out | apply below_alloc | apply pw_below_drewN | apply below_drew1) | exact HB.out)⟩⟩
                  ·
                   rw [if_neg c55] at H
                   exact absurd H (by simp)
                 ·
                  rw [if_neg c54] at H
                  exact absurd H (by simp)
                ·
                 rw [if_neg c53] at H
                 exact absurd H (by simp)
               ·
                rw [if_neg c52] at H
                exact absurd H (by simp)
            ·
             rw [if_neg c37] at H
             have c37b0 : ((bt a0 x7_2) == 58) = false := beq_eq_false_iff_ne.mpr c37
             have c37b1 : ((bt a0 x7_2) != 58) = true := bne_iff_ne.mpr c37
             simp only [Option.some.injEq, Prod.mk.injEq] at H
             obtain ⟨rfl, rfl⟩ := H
             have p5 : 0 ≤ (x7_2 : Int) := of_decide_eq_true (by first | (with_reducible assumption) | assumption)
             have q5 : x7_2 < (a0.size : Int) := of_decide_eq_true (by first | (with_reducible assumption) | assumption)
             have hx5 := bt_at a0 x7_2
             replace p5 := eq_true p5
             replace q5 := eq_true q5
             have p7 : 0 ≤ (x7_2 : Int) := of_decide_eq_true (by first | (with_reducible assumption) | assumption)
             have q7 : x7_2 < (a0.size : Int) := of_decide_eq_true (by first | (with_reducible assumption) | assumption)
             have hx7 := bt_at a0 x7_2
             replace p7 := eq_true p7
             replace q7 := eq_true q7
             have p36 : 0 ≤ (x7_2 : Int) := of_decide_eq_true (by first | (with_reducible assumption) | assumption)
             have q36 : x7_2 < (a0.size : Int) := of_decide_eq_true (by first | (with_reducible assumption) | assumption)
             have hx36 := bt_at a0 x7_2
             replace p36 := eq_true p36
             replace q36 := eq_true q36
             go_wp2
             go_ret2
             exact ⟨_, by first | rfl | (simp [errW_none, errW_some] <;> rfl) | (simp [*, errW_none, errW_some] <;> rfl), by first | exact Kd.R_nil _ _ _ _ _ | exact Kd.N_nil _ _ _ _ _ | exact Kd.V_nil _ _ _ _ _ | exact Kd.Q_nil _ _ _ _ _ | exact Kd.S_nil _ _ _ _ _, by repeat (first | (with_reducible first | exact HB.out | apply below_alloc | apply pw_below_drewN | apply below_drew1) | exact HB.out)⟩
        ·
         rw [if_neg c6] at H
         have c6b0 : decide (48 ≤ (bt a0 x7_2)) = false := decide_eq_false c6
         clear c6
         by_cases c57 : x7_2 = x5_1
         ·
          rw [if_pos c57] at H
          have c57b0 : (x7_2 == x5_1) = true := beq_iff_eq.mpr c57
          have c57b1 : (x7_2 != x5_1) = false := bne_eq_false_iff_eq.mpr c57
          clear c57
          simp only [Option.some.injEq, Prod.mk.injEq] at H
          obtain ⟨rfl, rfl⟩ := H
          have p5 : 0 ≤ (x7_2 : Int) := of_decide_eq_true (by first | (with_reducible assumption) | assumption)
          have q5 : x7_2 < (a0.size : Int) := of_decide_eq_true (by first | (with_reducible assumption) | assumption)
          have hx5 := bt_at a0 x7_2
          replace p5 := eq_true p5
          replace q5 := eq_true q5
          go_wp2
          go_ret2
          exact ⟨_, by first | rfl | (simp [errW_none, errW_some] <;> rfl) | (simp [*, errW_none, errW_some] <;> rfl), by first | exact Kd.R_nil _ _ _ _ _ | exact Kd.N_nil _ _ _ _ _ | exact Kd.V_nil _ _ _ _ _ | exact Kd.Q_nil _ _ _ _ _ | exact Kd.S_nil _ _ _ _ _, by repeat (first | (with_reducible first | exact HB.out | apply below_alloc | apply pw_below_drewN | apply below_drew1) | exact HB.out)⟩
         ·
          rw [if_neg c57] at H
          have c57b0 : (x7_2 == x5_1) = false := beq_eq_false_iff_ne.mpr c57
          have c57b1 : (x7_2 != x5_1) = true := bne_iff_ne.mpr c57
          by_cases c58 : x7_2 ≥ (a0.size : Int)
          ·
           rw [if_pos c58] at H
           have c58b0 : decide ((a0.size : Int) ≤ x7_2) = true := decide_eq_true c58
           clear c58
           simp only [Option.some.injEq, Prod.mk.injEq] at H
           obtain ⟨rfl, rfl⟩ := H
           have p5 : 0 ≤ (x7_2 : Int) := of_decide_eq_true (by first | (with_reducible assumption) | assumption)
           have q5 : x7_2 < (a0.size : Int) := of_decide_eq_true (by first | (with_reducible assumption) | assumption)
           have hx5 := bt_at a0 x7_2
           replace p5 := eq_true p5
           replace q5 := eq_true q5
           go_wp2
           go_ret2
           exact ⟨_, by first | rfl | (simp [errW_none, errW_some] <;> rfl) | (simp [*, errW_none, errW_some] <;> rfl), by first | exact Kd.R_nil _ _ _ _ _ | exact Kd.N_nil _ _ _ _ _ | exact Kd.V_nil _ _ _ _ _ | exact Kd.Q_nil _ _ _ _ _ | exact Kd.S_nil _ _ _ _ _, by repeat (first | (with_reducible first | exact HB.out | apply below_alloc | apply pw_below_drewN | apply below_drew1) | exact HB.out)⟩
          ·
           rw [if_neg c58] at H
           have c58b0 : decide ((a0.size : Int) ≤ x7_2) = false := decide_eq_false c58
           clear c58
           by_cases c60 : (bt a0 x7_2) = 58
           ·
            rw [if_pos c60] at H
            have c60b0 : ((bt a0 x7_2) == 58) = true := beq_iff_eq.mpr c60
            have c60b1 : ((bt a0 x7_2) != 58) = false := bne_eq_false_iff_eq.mpr c60
            clear c60
            by_cases c61 : (wrap64 (x7_2 - x5_1)) > 1
            ·
             rw [if_pos c61] at H
             have c61b0 : decide (1 < (wrap64 (x7_2 - x5_1))) = true := decide_eq_true c61
             clear c61
             by_cases c62 : 0 ≤ x5_1
             ·
              rw [if_pos c62] at H
              have c62b0 : decide (0 ≤ x5_1) = true := decide_eq_true c62
              clear c62
              by_cases c63 : x5_1 < (a0.size : Int)
              ·
               rw [if_pos c63] at H
               have c63b0 : decide (x5_1 < (a0.size : Int)) = true := decide_eq_true c63
               clear c63
               by_cases c65 : (bt a0 x5_1) = 48
               ·
                rw [if_pos c65] at H
                have c65b0 : ((bt a0 x5_1) == 48) = true := beq_iff_eq.mpr c65
                have c65b1 : ((bt a0 x5_1) != 48) = false := bne_eq_false_iff_eq.mpr c65
                clear c65
                simp only [Option.some.injEq, Prod.mk.injEq] at H
                obtain ⟨rfl, rfl⟩ := H
                have p5 : 0 ≤ (x7_2 : Int) := of_decide_eq_true (by first | (with_reducible assumption) | assumption)
                have q5 : x7_2 < (a0.size : Int) := of_decide_eq_true (by first | (with_reducible assumption) | assumption)
                have hx5 := bt_at a0 x7_2
                replace p5 := eq_true p5
                replace q5 := eq_true q5
                have p59 : 0 ≤ (x7_2 : Int) := of_decide_eq_true (by first | (with_reducible assumption) | assumption)
                have q59 : x7_2 < (a0.size : Int) := of_decide_eq_true (by first | (with_reducible assumption) | assumption)
                have hx59 := bt_at a0 x7_2
                replace p59 := eq_true p59
                replace q59 := eq_true q59
                have p64 : 0 ≤ (x5_1 : Int) := of_decide_eq_true (by first | (with_reducible assumption) | assumption)
                have q64 : x5_1 < (a0.size : Int) := of_decide_eq_true (by first | (with_reducible assumption) | assumption)
                have hx64 := bt_at a0 x5_1
                replace p64 := eq_true p64
                replace q64 := eq_true q64
                go_wp2
                go_ret2
                exact ⟨_, by first | rfl | (simp [errW_none, errW_some] <;> rfl) | (simp [*, errW_none, errW_some] <;> rfl), by first | exact Kd.R_nil _ _ _ _ _ | exact Kd.N_nil _ _ _ _ _ | exact Kd.V_nil _ _ _ _ _ | exact Kd.Q_nil _ _ _ _ _ | exact Kd.S_nil _ _ _ _ _, by repeat (first | (with_reducible first | exact HB.out | apply below_alloc | apply pw_below_drewN | apply below_drew1) | exact HB.out)⟩
               ·
                rw [if_neg c65] at H
                have c65b0 : ((bt a0 x5_1) == 48) = false := beq_eq_false_iff_ne.mpr c65
                have c65b1 : ((bt a0 x5_1) != 48) = true := bne_iff_ne.mpr c65
                by_cases c66 : x6_2 > (wrap64 ((wrap64 ((a0.size : Int) - x7_2)) - 1))
                ·
                 rw [if_pos c66] at H
                 have c66b0 : decide ((wrap64 ((wrap64 ((a0.size : Int) - x7_2)) - 1)) < x6_2) = true := decide_eq_true c66
                 clear c66
                 simp only [Option.some.injEq, Prod.mk.injEq] at H
                 obtain ⟨rfl, rfl⟩ := H
                 have p5 : 0 ≤ (x7_2 : Int) := of_decide_eq_true (by first | (with_reducible assumption) | assumption)
                 have q5 : x7_2 < (a0.size : Int) := of_decide_eq_true (by first | (with_reducible assumption) | assumption)
                 have hx5 := bt_at a0 x7_2
                 replace p5 := eq_true p5
                 replace q5 := eq_true q5
                 have p59 : 0 ≤ (x7_2 : Int) := of_decide_eq_true (by first | (with_reducible assumption) | assumption)
                 have q59 : x7_2 < (a0.size : Int) := of_decide_eq_true (by first | (with_reducible assumption) | assumption)
                 have hx59 := bt_at a0 x7_2
                 replace p59 := eq_true p59
                 replace q59 := eq_true q59
                 have p64 : 0 ≤ (x5_1 : Int) := of_decide_eq_true (by first | (with_reducible assumption) | assumption)
                 have q64 : x5_1 < (a0.size : Int) := of_decide_eq_true (by first | (with_reducible assumption) | assumption)
                 have hx64 := bt_at a0 x5_1
                 replace p64 := eq_true p64
                 replace q64 := eq_true q64
                 go_wp2
                 go_ret2
                 exact ⟨_, by first | rfl | (simp [errW_none, errW_some] <;> rfl) | (simp [*, errW_none, errW_some] <;> rfl), by first | exact Kd.R_nil _ _ _ _ _ | exact Kd.N_nil _ _ _ _ _ | exact Kd.V_nil _ _ _ _ _ | exact Kd.Q_nil _ _ _ _ _ | exact Kd.S_nil _ _ _ _ _, by repeat (first | (with_reducible first | exact HB.out | apply below_alloc | apply pw_below_drewN | apply below_drew1) | exact HB.out)⟩
                ·
                 rw [if_neg c66] at H
                 have c66b0 : decide ((wrap64 ((wrap64 ((a0.size : Int) - x7_2)) - 1)) < x6_2) = false := decide_eq_false c66
                 clear c66
                 obtain ⟨ji67, hji67⟩ : ∃ j_ : Int, (wrap64 (x7_2 + 1)) = j_ := ⟨_, rfl⟩
                 replace H : (if 0 ≤ (ji67) then (if (ji67) ≤ (wrap64 ((ji67) + x6_2)) then (if (wrap64 ((ji67) + x6_2)) ≤ (a0.size : Int) then (if x4_1.length < 8796093022208 then (exequaturref13_Split.l0 k2 a0 (x4_1 ++ [a0.extract ((ji67) : Int).toNat ((wrap64 ((ji67) + x6_2)) : Int).toNat]) (wrap64 ((ji67) + x6_2))) else (none)) else (none)) else (none)) else (none)) = some (r1, r2) := by first | (rw [hji67] at H; exact H) | (simp only [hji67] at H ⊢; exact H)
                 have hji67w : (IntKind.i64.wrap (x7_2 + 1)) = ji67 := (i64_w _).trans hji67
                 by_cases c68 : 0 ≤ (ji67)
                 ·
                  rw [if_pos c68] at H
                  have c68b0 := eq_true c68
                  have c68b1 : decide (0 ≤ (ji67)) = true := decide_eq_true c68
                  clear c68
                  by_cases c69 : (ji67) ≤ (wrap64 ((ji67) + x6_2))
                  ·
                   rw [if_pos c69] at H
                   have c69b0 := eq_true c69
                   have c69b1 : decide ((ji67) ≤ (wrap64 ((ji67) + x6_2))) = true := decide_eq_true c69
                   by_cases c70 : (wrap64 ((ji67) + x6_2)) ≤ (a0.size : Int)
                   ·
                    rw [if_pos c70] at H
                    have c70b0 := eq_true c70
                    have c70b1 : decide ((wrap64 ((ji67) + x6_2)) ≤ (a0.size : Int)) = true := decide_eq_true c70
                    by_cases c71 : x4_1.length < 8796093022208
                    ·
                     rw [if_pos c71] at H
                     have LMc71 := Aside0.mk c71
                     clear c71
                     obtain ⟨y379, hy379⟩ : ∃ y_ : List ByteArray, y_ = (x4_1 ++ [a0.extract ((ji67) : Int).toNat ((wrap64 ((ji67) + x6_2)) : Int).toNat]) := ⟨_, rfl⟩
                     replace H : (exequaturref13_Split.l0 k2 a0 y379 (wrap64 ((ji67) + x6_2))) = some (r1, r2) := by first | (rw [hy379]; with_reducible exact H) | (have H2_ := (Option.bind_some _ _).symm.trans H; rw [hy379]; with_reducible exact H2_) | (have H2_ := (Option.bind_some _ _).symm.trans H; with_reducible exact H2_) | with_reducible exact H | (rw [hy379]; exact H) | exact H
                     have Ny379 := Aside0.mk hy379
                     clear hy379
                     have H' := Aside0.mk H
                     clear H
                     have p5 : 0 ≤ (x7_2 : Int) := of_decide_eq_true (by first | (with_reducible assumption) | assumption)
                     have q5 : x7_2 < (a0.size : Int) := of_decide_eq_true (by first | (with_reducible assumption) | assumption)
                     have hx5 := bt_at a0 x7_2
                     replace p5 := eq_true p5
                     replace q5 := eq_true q5
                     have p59 : 0 ≤ (x7_2 : Int) := of_decide_eq_true (by first | (with_reducible assumption) | assumption)
                     have q59 : x7_2 < (a0.size : Int) := of_decide_eq_true (by first | (with_reducible assumption) | assumption)
                     have hx59 := bt_at a0 x7_2
                     replace p59 := eq_true p59
                     replace q59 := eq_true q59
                     have p64 : 0 ≤ (x5_1 : Int) := of_decide_eq_true (by first | (with_reducible assumption) | assumption)
                     have q64 : x5_1 < (a0.size : Int) := of_decide_eq_true (by first | (with_reducible assumption) | assumption)
                     have hx64 := bt_at a0 x5_1
                     replace p64 := eq_true p64
                     replace q64 := eq_true q64
                     go_wp2_with (first | ((with_reducible refine gate_builtin (b := .append) (xs := #[.tmp 79, .tmp 88]) rfl ?_); (try (refine gate_guard (by rfl) ?_; dsimp only)); at_builtin; refine Kd.R_append Kd.string (w0 := w) w.heap.size rfl (.tmp 79) (.tmp 88) 88 9 (.string ⟨#[]⟩) 16 rfl Tryz.underlying88 info9 rfl (by decide) (by omega) u4 x4_1 (a0.extract ((ji67) : Int).toNat ((wrap64 ((ji67) + x6_2)) : Int).toNat) [.string (a0.extract ((ji67) : Int).toNat ((wrap64 ((ji67) + x6_2)) : Int).toNat)] (fun _ => True) (fun _ => False) rfl rfl ?aP (fun _ hk => hk.elim) ?aF ?aO ?aB ?aS ?aL ?_; (case aP => exact rfl); (case aB => exact (by repeat (first | (with_reducible first | exact HB.out | apply below_alloc | apply pw_below_drewN | apply below_drew1) | exact HB.out))); (case aF => exact (fun _ _ => trivial)); (case aO => exact (by (with_reducible repeat (first | apply Kd.R_alloc | apply Kd.R_drewN | apply Kd.R_drew)); exact HO_4.out)); (case aS => exact (below_size (by repeat (first | (with_reducible first | exact HB.out | apply below_alloc | apply pw_below_drewN | apply below_drew1) | exact HB.out)))); (case aL => have := LMc71.out; omega); intro v380 w72 ho hb hg hat; rw [← Ny379.out] at ho; have n0_ := Aside0.mk (hb); have n1_ := Aside0.mk (ho); clear HB; clear HO_4; have HB := n0_; have HO381 := n1_; clear n0_ n1_; clear ho hb hg hat))
                     go_roundg k2
                     case measure => have := HK1.out; have := HK2.out; omega
                     case rel => exact ⟨(y379), (wrap64 ((ji67) + x6_2)), (by first | rfl | (simp; done) | (simp only [← hji67] <;> (first | rfl | simp)) | (simp [*]; done)), H', ⟨by have := HK1.out; have := HK2.out; omega⟩, ⟨by (with_reducible repeat (first | apply Kd.R_alloc | apply Kd.R_drewN | apply Kd.R_drew)); exact HO381.out⟩, ⟨by repeat (first | (with_reducible first | exact HB.out | apply below_alloc | apply pw_below_drewN | apply below_drew1) | exact HB.out)⟩⟩
                    ·
                     rw [if_neg c71] at H
                     exact absurd H (by simp)
                   ·
                    rw [if_neg c70] at H
                    exact absurd H (by simp)
                  ·
                   rw [if_neg c69] at H
                   exact absurd H (by simp)
                 ·
                  rw [if_neg c68] at H
                  exact absurd H (by simp)
              ·
               rw [if_neg c63] at H
               exact absurd H (by simp)
             ·
              rw [if_neg c62] at H
              exact absurd H (by simp)
            ·
             rw [if_neg c61] at H
             have c61b0 : decide (1 < (wrap64 (x7_2 - x5_1))) = false := decide_eq_false c61
             clear c61
             by_cases c73 : x6_2 > (wrap64 ((wrap64 ((a0.size : Int) - x7_2)) - 1))
             ·
              rw [if_pos c73] at H
              have c73b0 : decide ((wrap64 ((wrap64 ((a0.size : Int) - x7_2)) - 1)) < x6_2) = true := decide_eq_true c73
              clear c73
              simp only [Option.some.injEq, Prod.mk.injEq] at H
              obtain ⟨rfl, rfl⟩ := H
              have p5 : 0 ≤ (x7_2 : Int) := of_decide_eq_true (by first | (with_reducible assumption) | assumption)
              have q5 : x7_2 < (a0.size : Int) := of_decide_eq_true (by first | (with_reducible assumption) | assumption)
              have hx5 := bt_at a0 x7_2
              replace p5 := eq_true p5
              replace q5 := eq_true q5
              have p59 : 0 ≤ (x7_2 : Int) := of_decide_eq_true (by first | (with_reducible assumption) | assumption)
              have q59 : x7_2 < (a0.size : Int) := of_decide_eq_true (by first | (with_reducible assumption) | assumption)
              have hx59 := bt_at a0 x7_2
              replace p59 := eq_true p59
              replace q59 := eq_true q59
              go_wp2
              go_ret2
              exact ⟨_, by first | rfl | (simp [errW_none, errW_some] <;> rfl) | (simp [*, errW_none, errW_some] <;> rfl), by first | exact Kd.R_nil _ _ _ _ _ | exact Kd.N_nil _ _ _ _ _ | exact Kd.V_nil _ _ _ _ _ | exact Kd.Q_nil _ _ _ _ _ | exact Kd.S_nil _ _ _ _ _, by repeat (first | (with_reducible first | exact HB.out | apply below_alloc | apply pw_below_drewN | apply below_drew1) | exact HB.out)⟩
             ·
              rw [if_neg c73] at H
              have c73b0 : decide ((wrap64 ((wrap64 ((a0.size : Int) - x7_2)) - 1)) < x6_2) = false := decide_eq_false c73
              clear c73
              obtain ⟨ji74, hji74⟩ : ∃ j_ : Int, (wrap64 (x7_2 + 1)) = j_ := ⟨_, rfl⟩
              replace H : (if 0 ≤ (ji74) then (if (ji74) ≤ (wrap64 ((ji74) + x6_2)) then (if (wrap64 ((ji74) + x6_2)) ≤ (a0.size : Int) then (if x4_1.length < 8796093022208 then (exequaturref13_Split.l0 k2 a0 (x4_1 ++ [a0.extract ((ji74) : Int).toNat ((wrap64 ((ji74) + x6_2)) : Int).toNat]) (wrap64 ((ji74) + x6_2))) else (none)) else (none)) else (none)) else (none)) = some (r1, r2) := by first | (rw [hji74] at H; exact H) | (simp only [hji74] at H ⊢; exact H)
              have hji74w : (IntKind.i64.wrap (x7_2 + 1)) = ji74 := (i64_w _).trans hji74
              by_cases c75 : 0 ≤ (ji74)
              ·
               rw [if_pos c75] at H
               have c75b0 := eq_true c75
               have c75b1 : decide (0 ≤ (ji74)) = true := decide_eq_true c75
               clear c75
               by_cases c76 : (ji74) ≤ (wrap64 ((ji74) + x6_2))
               ·
                rw [if_pos c76] at H
                have c76b0 := eq_true c76
                have c76b1 : decide ((ji74) ≤ (wrap64 ((ji74) + x6_2))) = true := decide_eq_true c76
                by_cases c77 : (wrap64 ((ji74) + x6_2)) ≤ (a0.size : Int)
                ·
                 rw [if_pos c77] at H
                 have c77b0 := eq_true c77
                 have c77b1 : decide ((wrap64 ((ji74) + x6_2)) ≤ (a0.size : Int)) = true := decide_eq_true c77
                 by_cases c78 : x4_1.length < 8796093022208
                 ·
                  rw [if_pos c78] at H
                  have LMc78 := Aside0.mk c78
                  clear c78
                  obtain ⟨y382, hy382⟩ : ∃ y_ : List ByteArray, y_ = (x4_1 ++ [a0.extract ((ji74) : Int).toNat ((wrap64 ((ji74) + x6_2)) : Int).toNat]) := ⟨_, rfl⟩
                  replace H : (exequaturref13_Split.l0 k2 a0 y382 (wrap64 ((ji74) + x6_2))) = some (r1, r2) := by first | (rw [hy382]; with_reducible exact H) | (have H2_ := (Option.bind_some _ _).symm.trans H; rw [hy382]; with_reducible exact H2_) | (have H2_ := (Option.bind_some _ _).symm.trans H; with_reducible exact H2_) | with_reducible exact H | (rw [hy382]; exact H) | exact H
                  have Ny382 := Aside0.mk hy382
                  clear hy382
                  have H' := Aside0.mk H
                  clear H
                  have p5 : 0 ≤ (x7_2 : Int) := of_decide_eq_true (by first | (with_reducible assumption) | assumption)
                  have q5 : x7_2 < (a0.size : Int) := of_decide_eq_true (by first | (with_reducible assumption) | assumption)
                  have hx5 := bt_at a0 x7_2
                  replace p5 := eq_true p5
                  replace q5 := eq_true q5
                  have p59 : 0 ≤ (x7_2 : Int) := of_decide_eq_true (by first | (with_reducible assumption) | assumption)
                  have q59 : x7_2 < (a0.size : Int) := of_decide_eq_true (by first | (with_reducible assumption) | assumption)
                  have hx59 := bt_at a0 x7_2
                  replace p59 := eq_true p59
                  replace q59 := eq_true q59
                  go_wp2_with (first | ((with_reducible refine gate_builtin (b := .append) (xs := #[.tmp 79, .tmp 88]) rfl ?_); (try (refine gate_guard (by rfl) ?_; dsimp only)); at_builtin; refine Kd.R_append Kd.string (w0 := w) w.heap.size rfl (.tmp 79) (.tmp 88) 88 9 (.string ⟨#[]⟩) 16 rfl Tryz.underlying88 info9 rfl (by decide) (by omega) u4 x4_1 (a0.extract ((ji74) : Int).toNat ((wrap64 ((ji74) + x6_2)) : Int).toNat) [.string (a0.extract ((ji74) : Int).toNat ((wrap64 ((ji74) + x6_2)) : Int).toNat)] (fun _ => True) (fun _ => False) rfl rfl ?aP (fun _ hk => hk.elim) ?aF ?aO ?aB ?aS ?aL ?_; (case aP => exact rfl); (case aB => exact (by repeat (first | (with_reducible first | exact HB.out | apply below_alloc | apply pw_below_drewN | apply below_drew1) | exact HB.out))); (case aF => exact (fun _ _ => trivial)); (case aO => exact (by (with_reducible repeat (first | apply Kd.R_alloc | apply Kd.R_drewN | apply Kd.R_drew)); exact HO_4.out)); (case aS => exact (below_size (by repeat (first | (with_reducible first | exact HB.out | apply below_alloc | apply pw_below_drewN | apply below_drew1) | exact HB.out)))); (case aL => have := LMc78.out; omega); intro v383 w79 ho hb hg hat; rw [← Ny382.out] at ho; have n0_ := Aside0.mk (hb); have n1_ := Aside0.mk (ho); clear HB; clear HO_4; have HB := n0_; have HO384 := n1_; clear n0_ n1_; clear ho hb hg hat))
                  go_roundg k2
                  case measure => have := HK1.out; have := HK2.out; omega
                  case rel => exact ⟨(y382), (wrap64 ((ji74) + x6_2)), (by first | rfl | (simp; done) | (simp only [← hji74] <;> (first | rfl | simp)) | (simp [*]; done)), H', ⟨by have := HK1.out; have := HK2.out; omega⟩, ⟨by (with_reducible repeat (first | apply Kd.R_alloc | apply Kd.R_drewN | apply Kd.R_drew)); exact HO384.out⟩, ⟨by repeat (first | (with_reducible first | exact HB.out | apply below_alloc | apply pw_below_drewN | apply below_drew1) | exact HB.out)⟩⟩
                 ·
                  rw [if_neg c78] at H
                  exact absurd H (by simp)
                ·
                 rw [if_neg c77] at H
                 exact absurd H (by simp)
               ·
                rw [if_neg c76] at H
                exact absurd H (by simp)
              ·
               rw [if_neg c75] at H
               exact absurd H (by simp)
           ·
            rw [if_neg c60] at H
            have c60b0 : ((bt a0 x7_2) == 58) = false := beq_eq_false_iff_ne.mpr c60
            have c60b1 : ((bt a0 x7_2) != 58) = true := bne_iff_ne.mpr c60
            simp only [Option.some.injEq, Prod.mk.injEq] at H
            obtain ⟨rfl, rfl⟩ := H
            have p5 : 0 ≤ (x7_2 : Int) := of_decide_eq_true (by first | (with_reducible assumption) | assumption)
            have q5 : x7_2 < (a0.size : Int) := of_decide_eq_true (by first | (with_reducible assumption) | assumption)
            have hx5 := bt_at a0 x7_2
            replace p5 := eq_true p5
            replace q5 := eq_true q5
            have p59 : 0 ≤ (x7_2 : Int) := of_decide_eq_true (by first | (with_reducible assumption) | assumption)
            have q59 : x7_2 < (a0.size : Int) := of_decide_eq_true (by first | (with_reducible assumption) | assumption)
            have hx59 := bt_at a0 x7_2
            replace p59 := eq_true p59
            replace q59 := eq_true q59
            go_wp2
            go_ret2
            exact ⟨_, by first | rfl | (simp [errW_none, errW_some] <;> rfl) | (simp [*, errW_none, errW_some] <;> rfl), by first | exact Kd.R_nil _ _ _ _ _ | exact Kd.N_nil _ _ _ _ _ | exact Kd.V_nil _ _ _ _ _ | exact Kd.Q_nil _ _ _ _ _ | exact Kd.S_nil _ _ _ _ _, by repeat (first | (with_reducible first | exact HB.out | apply below_alloc | apply pw_below_drewN | apply below_drew1) | exact HB.out)⟩
       ·
        rw [if_neg c4] at H
        exact absurd H (by simp)
      ·
       rw [if_neg c3] at H
       have c3b0 : decide (x7_2 < (a0.size : Int)) = false := decide_eq_false c3
       clear c3
       by_cases c80 : x7_2 = x5_1
       ·
        rw [if_pos c80] at H
        have c80b0 : (x7_2 == x5_1) = true := beq_iff_eq.mpr c80
        have c80b1 : (x7_2 != x5_1) = false := bne_eq_false_iff_eq.mpr c80
        clear c80
        simp only [Option.some.injEq, Prod.mk.injEq] at H
        obtain ⟨rfl, rfl⟩ := H
        go_wp2
        go_ret2
        exact ⟨_, by first | rfl | (simp [errW_none, errW_some] <;> rfl) | (simp [*, errW_none, errW_some] <;> rfl), by first | exact Kd.R_nil _ _ _ _ _ | exact Kd.N_nil _ _ _ _ _ | exact Kd.V_nil _ _ _ _ _ | exact Kd.Q_nil _ _ _ _ _ | exact Kd.S_nil _ _ _ _ _, by repeat (first | (with_reducible first | exact HB.out | apply below_alloc | apply pw_below_drewN | apply below_drew1) | exact HB.out)⟩
       ·
        rw [if_neg c80] at H
        have c80b0 : (x7_2 == x5_1) = false := beq_eq_false_iff_ne.mpr c80
        have c80b1 : (x7_2 != x5_1) = true := bne_iff_ne.mpr c80
        by_cases c81 : x7_2 ≥ (a0.size : Int)
        ·
         rw [if_pos c81] at H
         have c81b0 : decide ((a0.size : Int) ≤ x7_2) = true := decide_eq_true c81
         clear c81
         simp only [Option.some.injEq, Prod.mk.injEq] at H
         obtain ⟨rfl, rfl⟩ := H
         go_wp2
         go_ret2
         exact ⟨_, by first | rfl | (simp [errW_none, errW_some] <;> rfl) | (simp [*, errW_none, errW_some] <;> rfl), by first | exact Kd.R_nil _ _ _ _ _ | exact Kd.N_nil _ _ _ _ _ | exact Kd.V_nil _ _ _ _ _ | exact Kd.Q_nil _ _ _ _ _ | exact Kd.S_nil _ _ _ _ _, by repeat (first | (with_reducible first | exact HB.out | apply below_alloc | apply pw_below_drewN | apply below_drew1) | exact HB.out)⟩
        ·
         rw [if_neg c81] at H
         have c81b0 : decide ((a0.size : Int) ≤ x7_2) = false := decide_eq_false c81
         clear c81
         by_cases c82 : 0 ≤ x7_2
         ·
          rw [if_pos c82] at H
          exact absurd H (by simp)
         ·
          rw [if_neg c82] at H
          exact absurd H (by simp)
   ·
    rw [if_neg c2] at H
    have c2b0 : decide (x5_1 < (a0.size : Int)) = false := decide_eq_false c2
    clear c2
    simp only [Option.some.injEq, Prod.mk.injEq] at H
    obtain ⟨rfl, rfl⟩ := H
    go_wp2
    go_ret2
    exact ⟨_, by first | rfl | (simp [errW_none, errW_some] <;> rfl) | (simp [*, errW_none, errW_some] <;> rfl), by (with_reducible repeat (first | apply Kd.R_alloc | apply Kd.R_drewN | apply Kd.R_drew)); exact HO_4.out, by repeat (first | (with_reducible first | exact HB.out | apply below_alloc | apply pw_below_drewN | apply below_drew1) | exact HB.out)⟩

end Go.Proofs.YtpoblffgclmmlaaGreatDoor.Q
end
