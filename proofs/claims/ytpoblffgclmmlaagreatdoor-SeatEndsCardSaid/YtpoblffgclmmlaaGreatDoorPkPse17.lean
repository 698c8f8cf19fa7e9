/- SeatEnds: the tied card: whatever the input the law answers true and leaves it alone, the listed tables being as the program's text lays them; conditions: as the row's cells say ('laid') (part 18 of 28). -/
import Derived.Shelf.SlSorted.Search
import Derived.Test.YtpoblffgclmmlaaGreatDoorPkPse11
section
namespace Go.Proofs.YtpoblffgclmmlaaGreatDoor.Q
open Go.RowKit Go.Proofs.YtpoblffgclmmlaaGreatDoorW.PrintWords Go.Proofs.YtpoblffgclmmlaaGreatDoorW.PrintLast Go.Proofs.YtpoblffgclmmlaaGreatDoorW.PrintMore
attribute [local go_sem] max2_int min2_int max_two min_two max_three min_three max_four min_four   -- for this text's walks alone
open Go.Proofs.YtpoblffgclmmlaaGreatDoor.X
set_option linter.unusedVariables false
set_option linter.unusedSimpArgs false

def exequaturref10_Rows_Keys.l0 : Nat → List (S82) → ByteArray → List ByteArray → Int → Option (List ByteArray)
  | 0, _, _, _, _ => none
  | k + 1, x0, x1, x5, x6 => if x6 < (x0.length : Int) then (if 0 ≤ x6 then (if (((rd_T82 x0 x6).f0).size : Int) ≥ (x1.size : Int) then (if 0 ≤ (x1.size : Int) then (if (x1.size : Int) ≤ (((rd_T82 x0 x6).f0).size : Int) then (if (((rd_T82 x0 x6).f0).extract 0 x1.size).toList = x1.toList then (if x5.length < 8796093022208 then (exequaturref10_Rows_Keys.l0 k x0 x1 (x5 ++ [(rd_T82 x0 x6).f0]) (wrap64 (x6 + 1))) else (none)) else (exequaturref10_Rows_Keys.l0 k x0 x1 x5 (wrap64 (x6 + 1)))) else (none)) else (none)) else (exequaturref10_Rows_Keys.l0 k x0 x1 x5 (wrap64 (x6 + 1)))) else (none)) else (some x5)
def exequaturref10_Rows_Keys.f (k : Nat) (l0 : List (S82)) (a1 : ByteArray) : Option (List ByteArray) := exequaturref10_Rows_Keys.l0 k l0 a1 ([] : List ByteArray) 0
theorem exequaturref10_Rows_Keys.mono_l : ∀ k, (∀ y0 y1 y2 y3, LeO (exequaturref10_Rows_Keys.l0 k y0 y1 y2 y3) (exequaturref10_Rows_Keys.l0 (k + 1) y0 y1 y2 y3))
  | 0 => fun _ _ _ _ r h => by simp [exequaturref10_Rows_Keys.l0] at h
  | k + 1 => by
    have ih0 := exequaturref10_Rows_Keys.mono_l k
    · intro y0 y1 y2 y3
      unfold exequaturref10_Rows_Keys.l0
      repeat' first
      | (with_reducible exact ih0 _ _ _ _)
      | (with_reducible exact LeO.refl _)
      | (with_reducible exact LeO.none _)
      | (with_reducible refine LeO.ite ?_ ?_)
      | (with_reducible refine LeO.bind ?_ (fun _ => ?_))
      | exact ih0 _ _ _ _
      | exact LeO.none _
      | refine LeO.ite ?_ ?_
      | refine LeO.bind ?_ (fun _ => ?_)
theorem exequaturref10_Rows_Keys.mono : ∀ a0 a1 k, LeO (exequaturref10_Rows_Keys.f k a0 a1) (exequaturref10_Rows_Keys.f (k + 1) a0 a1) := by
  intro a0 a1 k
  have ih0 := exequaturref10_Rows_Keys.mono_l k
  unfold exequaturref10_Rows_Keys.f
  repeat' first
      | (with_reducible exact ih0 _ _ _ _)
      | (with_reducible exact LeO.refl _)
      | (with_reducible exact LeO.none _)
      | (with_reducible refine LeO.ite ?_ ?_)
      | (with_reducible refine LeO.bind ?_ (fun _ => ?_))
      | exact ih0 _ _ _ _
      | exact LeO.none _
      | refine LeO.ite ?_ ?_
      | refine LeO.bind ?_ (fun _ => ?_)
set_option maxHeartbeats 8000000 in
set_option maxRecDepth 100000 in
theorem exequaturref10_Rows_Keys.calls (k : Nat) (A0 : Option Addr) (c0 : Nat) (l0 : List (S82)) (a1 : ByteArray) (r : List ByteArray) (w : World) (hr0 : Kd.C k82 w A0 l0.length l0) (hc0 : l0.length ≤ c0) (h : exequaturref10_Rows_Keys.f k l0 a1 = some r) :
    Calls Tryz.prog 52 #[.slice A0 l0.length c0, .string a1] w fun e w' => ∃ v0_ : Value, e = .returned (v0_) ∧ Kd.R Kd.string 9 w' w.heap.size (fun _ => True) v0_ r ∧ Below w.heap.size w w' := by
  have HR0 := Aside0.mk hr0
  have HC0 := Aside0.mk hc0
  clear hr0 hc0
  have HB := Aside0.mk (Below.refl w.heap.size w)
  have H : (exequaturref10_Rows_Keys.l0 k l0 a1 ([] : List ByteArray) 0) = some r := h
  clear h
  have H' := Aside0.mk H
  clear H
  go_enter Tryz.func52, Tryz.ntmps52
  go_wp2
  go_loopg [5, 6] k (fun kq v5 v6 w' => ∃ (x5_1 : List ByteArray) (x6_1 : Int), v6 = .int .i64 x6_1 ∧ Aside0 (exequaturref10_Rows_Keys.l0 kq l0 a1 x5_1 x6_1 = some r) ∧ Aside0 (kq ≤ k) ∧ Aside0 (Kd.R Kd.string 9 w' w.heap.size (fun _ => True) v5 x5_1) ∧ Aside0 (Below w.heap.size w w'))
  case atStart => exact ⟨(([] : List ByteArray)), (0), (by first | rfl | (simp; done) | (simp [*]; done)), H', ⟨Nat.le_refl _⟩, ⟨by first | exact Kd.R_nil _ _ _ _ _ | exact Kd.N_nil _ _ _ _ _ | exact Kd.V_nil _ _ _ _ _ | exact Kd.Q_nil _ _ _ _ _ | exact Kd.S_nil _ _ _ _ _⟩, ⟨by repeat (first | (with_reducible first | exact HB.out | apply below_alloc | apply pw_below_drewN | apply below_drew1) | exact HB.out)⟩⟩
  case round =>
    clear H'
    try clear p2
    obtain ⟨x5_1, x6_1, rfl, HA, HK1, HO_5, HB⟩ := hrel
    cases gk with
    | zero => exact absurd HA.out (by simp [exequaturref10_Rows_Keys.l0])
    | succ k1 =>
      have H := HA.out
      clear HA
      simp only [exequaturref10_Rows_Keys.l0] at H
      by_cases c3 : x6_1 < (l0.length : Int)
      · rw [if_pos c3] at H
        have c3b0 : decide (x6_1 < (l0.length : Int)) = true := decide_eq_true c3
        clear c3
        by_cases c4 : 0 ≤ x6_1
        · rw [if_pos c4] at H
          have c4b0 : decide (0 ≤ x6_1) = true := decide_eq_true c4
          clear c4
          by_cases c5 : (((rd_T82 l0 x6_1).f0).size : Int) ≥ (a1.size : Int)
          · rw [if_pos c5] at H
            have c5b0 : decide ((a1.size : Int) ≤ (((rd_T82 l0 x6_1).f0).size : Int)) = true := decide_eq_true c5
            have c5b1 : decide (a1.size ≤ ((rd_T82 l0 x6_1).f0).size) = true := decide_eq_true (Int.ofNat_le.mp c5)
            clear c5
            by_cases c6 : 0 ≤ (a1.size : Int)
            · rw [if_pos c6] at H
              have c6b0 := eq_true c6
              have c6b1 : decide (0 ≤ (a1.size : Int)) = true := decide_eq_true c6
              clear c6
              by_cases c7 : (a1.size : Int) ≤ (((rd_T82 l0 x6_1).f0).size : Int)
              · rw [if_pos c7] at H
                have c7b0 := eq_true c7
                have c7b1 : decide ((a1.size : Int) ≤ (((rd_T82 l0 x6_1).f0).size : Int)) = true := decide_eq_true c7
                clear c7
                by_cases c8 : (((rd_T82 l0 x6_1).f0).extract 0 a1.size).toList = a1.toList
                · rw [if_pos c8] at H
                  have c8b0 : ((((rd_T82 l0 x6_1).f0).extract 0 a1.size).toList == a1.toList) = true := beq_iff_eq.mpr c8
                  have c8b1 : ((((rd_T82 l0 x6_1).f0).extract 0 a1.size).toList != a1.toList) = false := bne_eq_false_iff_eq.mpr c8
                  clear c8
                  by_cases c9 : x5_1.length < 8796093022208
                  · rw [if_pos c9] at H
                    have LMc9 := Aside0.mk c9
                    clear c9
                    obtain ⟨y306, hy306⟩ : ∃ y_ : List ByteArray, y_ = (x5_1 ++ [(rd_T82 l0 x6_1).f0]) := ⟨_, rfl⟩
                    replace H : (exequaturref10_Rows_Keys.l0 k1 l0 a1 y306 (wrap64 (x6_1 + 1))) = some r := by first | (rw [hy306]; with_reducible exact H) | (have H2_ := (Option.bind_some _ _).symm.trans H; rw [hy306]; with_reducible exact H2_) | (have H2_ := (Option.bind_some _ _).symm.trans H; with_reducible exact H2_) | with_reducible exact H | (rw [hy306]; exact H) | exact H
                    have Ny306 := Aside0.mk hy306
                    clear hy306
                    have H' := Aside0.mk H
                    clear H
                    have p303 : 0 ≤ (x6_1 : Int) := of_decide_eq_true (by first | (with_reducible assumption) | assumption)
                    have q303 : x6_1 < (l0.length : Int) := of_decide_eq_true (by first | (with_reducible assumption) | assumption)
                    obtain ⟨ad303, e303, hx303_0, hx303_1⟩ := at_T82 HR0.out x6_1 p303 q303
                    cases e303
                    replace hx303_0 := (HB.out.cell (World.block_lt_of_cell? w _ hx303_0)).trans hx303_0
                    replace hx303_1 := (HB.out.cell (World.block_lt_of_cell? w _ hx303_1)).trans hx303_1
                    replace p303 := eq_true p303
                    replace q303 := eq_true q303
                    have p304 : 0 ≤ (x6_1 : Int) := of_decide_eq_true (by first | (with_reducible assumption) | assumption)
                    have q304 : x6_1 < (l0.length : Int) := of_decide_eq_true (by first | (with_reducible assumption) | assumption)
                    obtain ⟨ad304, e304, hx304_0, hx304_1⟩ := at_T82 HR0.out x6_1 p304 q304
                    obtain rfl : ad303 = ad304 := (by injection e304)
                    replace hx304_0 := (HB.out.cell (World.block_lt_of_cell? w _ hx304_0)).trans hx304_0
                    replace hx304_1 := (HB.out.cell (World.block_lt_of_cell? w _ hx304_1)).trans hx304_1
                    replace p304 := eq_true p304
                    replace q304 := eq_true q304
                    have p305 : 0 ≤ (x6_1 : Int) := of_decide_eq_true (by first | (with_reducible assumption) | assumption)
                    have q305 : x6_1 < (l0.length : Int) := of_decide_eq_true (by first | (with_reducible assumption) | assumption)
                    obtain ⟨ad305, e305, hx305_0, hx305_1⟩ := at_T82 HR0.out x6_1 p305 q305
                    obtain rfl : ad303 = ad305 := (by injection e305)
                    replace hx305_0 := (HB.out.cell (World.block_lt_of_cell? w _ hx305_0)).trans hx305_0
                    replace hx305_1 := (HB.out.cell (World.block_lt_of_cell? w _ hx305_1)).trans hx305_1
                    replace p305 := eq_true p305
                    replace q305 := eq_true q305
                    go_wp2_with (first | ((with_reducible refine gate_builtin (b := .append) (xs := #[.tmp 34, .tmp 40]) rfl ?_); (try (refine gate_guard (by rfl) ?_; dsimp only)); at_builtin; refine Kd.R_append Kd.string (w0 := w) w.heap.size rfl (.tmp 34) (.tmp 40) 88 9 (.string ⟨#[]⟩) 16 rfl Tryz.underlying88 info9 rfl (by decide) (by omega) u5 x5_1 ((rd_T82 l0 x6_1).f0) [.string ((rd_T82 l0 x6_1).f0)] (fun _ => True) (fun _ => False) rfl rfl ?aP (fun _ hk => hk.elim) ?aF ?aO ?aB ?aS ?aL ?_; (case aP => exact rfl); (case aB => exact (by repeat (first | (with_reducible first | exact HB.out | apply below_alloc | apply pw_below_drewN | apply below_drew1) | exact HB.out))); (case aF => exact (fun _ _ => trivial)); (case aO => exact (by (with_reducible repeat (first | apply Kd.R_alloc | apply Kd.R_drewN | apply Kd.R_drew)); exact HO_5.out)); (case aS => exact (below_size (by repeat (first | (with_reducible first | exact HB.out | apply below_alloc | apply pw_below_drewN | apply below_drew1) | exact HB.out)))); (case aL => have := LMc9.out; omega); intro v307 w10 ho hb hg hat; rw [← Ny306.out] at ho; have n0_ := Aside0.mk (hb); have n1_ := Aside0.mk (ho); clear HB; clear HO_5; have HB := n0_; have HO308 := n1_; clear n0_ n1_; clear ho hb hg hat))
                    go_roundg k1
                    case measure => have := HK1.out; omega
                    case rel => exact ⟨(y306), (wrap64 (x6_1 + 1)), (by first | rfl | (simp; done) | (simp [*]; done)), H', ⟨by have := HK1.out; omega⟩, ⟨by (with_reducible repeat (first | apply Kd.R_alloc | apply Kd.R_drewN | apply Kd.R_drew)); exact HO308.out⟩, ⟨by repeat (first | (with_reducible first | exact HB.out | apply below_alloc | apply pw_below_drewN | apply below_drew1) | exact HB.out)⟩⟩
                  · rw [if_neg c9] at H
                    exact absurd H (by simp)
                · rw [if_neg c8] at H
                  have c8b0 : ((((rd_T82 l0 x6_1).f0).extract 0 a1.size).toList == a1.toList) = false := beq_eq_false_iff_ne.mpr c8
                  have c8b1 : ((((rd_T82 l0 x6_1).f0).extract 0 a1.size).toList != a1.toList) = true := bne_iff_ne.mpr c8
                  have H' := Aside0.mk H
                  clear H
                  have p303 : 0 ≤ (x6_1 : Int) := of_decide_eq_true (by first | (with_reducible assumption) | assumption)
                  have q303 : x6_1 < (l0.length : Int) := of_decide_eq_true (by first | (with_reducible assumption) | assumption)
                  obtain ⟨ad303, e303, hx303_0, hx303_1⟩ := at_T82 HR0.out x6_1 p303 q303
                  cases e303
                  replace hx303_0 := (HB.out.cell (World.block_lt_of_cell? w _ hx303_0)).trans hx303_0
                  replace hx303_1 := (HB.out.cell (World.block_lt_of_cell? w _ hx303_1)).trans hx303_1
                  replace p303 := eq_true p303
                  replace q303 := eq_true q303
                  have p304 : 0 ≤ (x6_1 : Int) := of_decide_eq_true (by first | (with_reducible assumption) | assumption)
                  have q304 : x6_1 < (l0.length : Int) := of_decide_eq_true (by first | (with_reducible assumption) | assumption)
                  obtain ⟨ad304, e304, hx304_0, hx304_1⟩ := at_T82 HR0.out x6_1 p304 q304
                  obtain rfl : ad303 = ad304 := (by injection e304)
                  replace hx304_0 := (HB.out.cell (World.block_lt_of_cell? w _ hx304_0)).trans hx304_0
                  replace hx304_1 := (HB.out.cell (World.block_lt_of_cell? w _ hx304_1)).trans hx304_1
                  replace p304 := eq_true p304
                  replace q304 := eq_true q304
                  go_wp2
                  go_roundg k1
                  case measure => have := HK1.out; omega
                  case rel => exact ⟨(x5_1), (wrap64 (x6_1 + 1)), (by first | rfl | (simp; done) | (simp [*]; done)), H', ⟨by have := HK1.out; omega⟩, ⟨by (with_reducible repeat (first | apply Kd.R_alloc | apply Kd.R_drewN | apply Kd.R_drew)); exact HO_5.out⟩, ⟨by repeat (first | (with_reducible first | exact HB.out | apply below_alloc | apply pw_below_drewN | apply below_drew1) | exact HB.out)⟩⟩
              · rw [if_neg c7] at H
                exact absurd H (by simp)
            · rw [if_neg c6] at H
              exact absurd H (by simp)
          · rw [if_neg c5] at H
            have c5b0 : decide ((a1.size : Int) ≤ (((rd_T82 l0 x6_1).f0).size : Int)) = false := decide_eq_false c5
            have c5b1 : decide (a1.size ≤ ((rd_T82 l0 x6_1).f0).size) = false := decide_eq_false (fun h => c5 (Int.ofNat_le.mpr h))
            clear c5
            have H' := Aside0.mk H
            clear H
            have p303 : 0 ≤ (x6_1 : Int) := of_decide_eq_true (by first | (with_reducible assumption) | assumption)
            have q303 : x6_1 < (l0.length : Int) := of_decide_eq_true (by first | (with_reducible assumption) | assumption)
            obtain ⟨ad303, e303, hx303_0, hx303_1⟩ := at_T82 HR0.out x6_1 p303 q303
            cases e303
            replace hx303_0 := (HB.out.cell (World.block_lt_of_cell? w _ hx303_0)).trans hx303_0
            replace hx303_1 := (HB.out.cell (World.block_lt_of_cell? w _ hx303_1)).trans hx303_1
            replace p303 := eq_true p303
            replace q303 := eq_true q303
            go_wp2
            go_roundg k1
            case measure => have := HK1.out; omega
            case rel => exact ⟨(x5_1), (wrap64 (x6_1 + 1)), (by first | rfl | (simp; done) | (simp [*]; done)), H', ⟨by have := HK1.out; omega⟩, ⟨by (with_reducible repeat (first | apply Kd.R_alloc | apply Kd.R_drewN | apply Kd.R_drew)); exact HO_5.out⟩, ⟨by repeat (first | (with_reducible first | exact HB.out | apply below_alloc | apply pw_below_drewN | apply below_drew1) | exact HB.out)⟩⟩
        · rw [if_neg c4] at H
          exact absurd H (by simp)
      · rw [if_neg c3] at H
        have c3b0 : decide (x6_1 < (l0.length : Int)) = false := decide_eq_false c3
        clear c3
        obtain rfl := Option.some.inj H
        go_wp2
        go_ret
        exact ⟨_, by first | rfl | (simp [errW_none, errW_some] <;> rfl) | (simp [*, errW_none, errW_some] <;> rfl), by (with_reducible repeat (first | apply Kd.R_alloc | apply Kd.R_drewN | apply Kd.R_drew)); exact HO_5.out, by repeat (first | (with_reducible first | exact HB.out | apply below_alloc | apply pw_below_drewN | apply below_drew1) | exact HB.out)⟩

def exequaturref10_Texts.l0 : Nat → List ByteArray → List ByteArray → Int → Option (Bool)
  | 0, _, _, _ => none
  | k + 1, x0, x1, x5 => if x5 < (x0.length : Int) then (if 0 ≤ x5 then (if x5 < (x1.length : Int) then (if (rdOf ByteArray.empty x0 x5).toList = (rdOf ByteArray.empty x1 x5).toList then (exequaturref10_Texts.l0 k x0 x1 (wrap64 (x5 + 1))) else (some false)) else (none)) else (none)) else (some true)
def exequaturref10_Texts.f (k : Nat) (l0 : List ByteArray) (l1 : List ByteArray) : Option (Bool) := if (l0.length : Int) = (l1.length : Int) then (exequaturref10_Texts.l0 k l0 l1 0) else (some false)
theorem exequaturref10_Texts.mono_l : ∀ k, (∀ y0 y1 y2, LeO (exequaturref10_Texts.l0 k y0 y1 y2) (exequaturref10_Texts.l0 (k + 1) y0 y1 y2))
  | 0 => fun _ _ _ r h => by simp [exequaturref10_Texts.l0] at h
  | k + 1 => by
    have ih0 := exequaturref10_Texts.mono_l k
    · intro y0 y1 y2
      unfold exequaturref10_Texts.l0
      repeat' first
      | (with_reducible exact ih0 _ _ _)
      | (with_reducible exact LeO.refl _)
      | (with_reducible exact LeO.none _)
      | (with_reducible refine LeO.ite ?_ ?_)
      | (with_reducible refine LeO.bind ?_ (fun _ => ?_))
      | exact ih0 _ _ _
      | exact LeO.none _
      | refine LeO.ite ?_ ?_
      | refine LeO.bind ?_ (fun _ => ?_)
theorem exequaturref10_Texts.mono : ∀ a0 a1 k, LeO (exequaturref10_Texts.f k a0 a1) (exequaturref10_Texts.f (k + 1) a0 a1) := by
  intro a0 a1 k
  have ih0 := exequaturref10_Texts.mono_l k
  unfold exequaturref10_Texts.f
  repeat' first
      | (with_reducible exact ih0 _ _ _)
      | (with_reducible exact LeO.refl _)
      | (with_reducible exact LeO.none _)
      | (with_reducible refine LeO.ite ?_ ?_)
      | (with_reducible refine LeO.bind ?_ (fun _ => ?_))
      | exact ih0 _ _ _
      | exact LeO.none _
      | refine LeO.ite ?_ ?_
      | refine LeO.bind ?_ (fun _ => ?_)
set_option maxHeartbeats 8000000 in
set_option maxRecDepth 100000 in
theorem exequaturref10_Texts.calls (k : Nat) (A0 : Option Addr) (c0 : Nat) (l0 : List ByteArray) (A1 : Option Addr) (c1 : Nat) (l1 : List ByteArray) (r : Bool) (w : World) (hr0 : Kd.C Kd.string w A0 l0.length l0) (hc0 : l0.length ≤ c0) (hr1 : Kd.C Kd.string w A1 l1.length l1) (hc1 : l1.length ≤ c1) (h : exequaturref10_Texts.f k l0 l1 = some r) :
    Calls Tryz.prog 97 #[.slice A0 l0.length c0, .slice A1 l1.length c1] w fun e w' => e = .returned (.bool r) ∧ Drawn0 w w' := by
  have HR0 := Aside0.mk hr0
  have HC0 := Aside0.mk hc0
  clear hr0 hc0
  have HR1 := Aside0.mk hr1
  have HC1 := Aside0.mk hc1
  clear hr1 hc1
  have H : (if (l0.length : Int) = (l1.length : Int) then (exequaturref10_Texts.l0 k l0 l1 0) else (some false)) = some r := h
  clear h
  by_cases c3 : (l0.length : Int) = (l1.length : Int)
  · rw [if_pos c3] at H
    have c3b0 : ((l0.length : Int) == (l1.length : Int)) = true := beq_iff_eq.mpr c3
    have c3b1 : ((l0.length : Int) != (l1.length : Int)) = false := bne_eq_false_iff_eq.mpr c3
    have c3b2 : (l0.length == l1.length) = true := by first | simpa using c3 | (simp at c3 ⊢; omega)
    clear c3
    have H' := Aside0.mk H
    clear H
    go_enter Tryz.func97, Tryz.ntmps97
    go_wp2
    repeat (go_quiet (fail); try go_wp2)
    go_loopg [5] k (fun kq v5 w' => ∃ (x5_1 : Int), v5 = .int .i64 x5_1 ∧ Aside0 (exequaturref10_Texts.l0 kq l0 l1 x5_1 = some r) ∧ Aside0 (kq ≤ k) ∧ Drawn0 w w')
    case atStart => exact ⟨(0), (by first | rfl | (simp; done) | (simp [*]; done)), H', ⟨Nat.le_refl _⟩, by repeat (first | exact Drawn0.refl _ | apply Drawn0.step)⟩
    case round =>
      clear H'
      try clear c1
      try clear p2
      try clear c3
      try clear c3b0
      try clear c3b1
      try clear c3b2
      obtain ⟨x5_1, rfl, HA, HK1, ⟨m1, rfl⟩⟩ := hrel
      cases gk with
      | zero => exact absurd HA.out (by simp [exequaturref10_Texts.l0])
      | succ k1 =>
        have H := HA.out
        clear HA
        simp only [exequaturref10_Texts.l0] at H
        by_cases c4 : x5_1 < (l0.length : Int)
        · rw [if_pos c4] at H
          have c4b0 : decide (x5_1 < (l0.length : Int)) = true := decide_eq_true c4
          clear c4
          by_cases c5 : 0 ≤ x5_1
          · rw [if_pos c5] at H
            have c5b0 : decide (0 ≤ x5_1) = true := decide_eq_true c5
            clear c5
            by_cases c6 : x5_1 < (l1.length : Int)
            · rw [if_pos c6] at H
              have c6b0 : decide (x5_1 < (l1.length : Int)) = true := decide_eq_true c6
              clear c6
              by_cases c7 : (rdOf ByteArray.empty l0 x5_1).toList = (rdOf ByteArray.empty l1 x5_1).toList
              · rw [if_pos c7] at H
                have c7b0 : ((rdOf ByteArray.empty l0 x5_1).toList == (rdOf ByteArray.empty l1 x5_1).toList) = true := beq_iff_eq.mpr c7
                have c7b1 : ((rdOf ByteArray.empty l0 x5_1).toList != (rdOf ByteArray.empty l1 x5_1).toList) = false := bne_eq_false_iff_eq.mpr c7
                clear c7
                have H' := Aside0.mk H
                clear H
                have p309 : 0 ≤ (x5_1 : Int) := of_decide_eq_true (by first | (with_reducible assumption) | assumption)
                have q309 : x5_1 < (l0.length : Int) := of_decide_eq_true (by first | (with_reducible assumption) | assumption)
                obtain ⟨ad309, e309, hx309_0⟩ := Kd.at_string HR0.out x5_1 p309 q309
                cases e309
                replace p309 := eq_true p309
                replace q309 := eq_true q309
                have p310 : 0 ≤ (x5_1 : Int) := of_decide_eq_true (by first | (with_reducible assumption) | assumption)
                have q310 : x5_1 < (l1.length : Int) := of_decide_eq_true (by first | (with_reducible assumption) | assumption)
                obtain ⟨ad310, e310, hx310_0⟩ := Kd.at_string HR1.out x5_1 p310 q310
                cases e310
                replace p310 := eq_true p310
                replace q310 := eq_true q310
                go_wp2
                repeat (go_quiet (fail); try go_wp2)
                go_roundg k1
                case measure => have := HK1.out; omega
                case rel => exact ⟨(wrap64 (x5_1 + 1)), (by first | rfl | (simp; done) | (simp [*]; done)), H', ⟨by have := HK1.out; omega⟩, by repeat (first | exact Drawn0.refl _ | apply Drawn0.step)⟩
              · rw [if_neg c7] at H
                have c7b0 : ((rdOf ByteArray.empty l0 x5_1).toList == (rdOf ByteArray.empty l1 x5_1).toList) = false := beq_eq_false_iff_ne.mpr c7
                have c7b1 : ((rdOf ByteArray.empty l0 x5_1).toList != (rdOf ByteArray.empty l1 x5_1).toList) = true := bne_iff_ne.mpr c7
                obtain rfl := Option.some.inj H
                have p309 : 0 ≤ (x5_1 : Int) := of_decide_eq_true (by first | (with_reducible assumption) | assumption)
                have q309 : x5_1 < (l0.length : Int) := of_decide_eq_true (by first | (with_reducible assumption) | assumption)
                obtain ⟨ad309, e309, hx309_0⟩ := Kd.at_string HR0.out x5_1 p309 q309
                cases e309
                replace p309 := eq_true p309
                replace q309 := eq_true q309
                have p310 : 0 ≤ (x5_1 : Int) := of_decide_eq_true (by first | (with_reducible assumption) | assumption)
                have q310 : x5_1 < (l1.length : Int) := of_decide_eq_true (by first | (with_reducible assumption) | assumption)
                obtain ⟨ad310, e310, hx310_0⟩ := Kd.at_string HR1.out x5_1 p310 q310
                cases e310
                replace p310 := eq_true p310
                replace q310 := eq_true q310
                go_wp2
                repeat (go_quiet (fail); try go_wp2)
                go_ret
                exact ⟨by first | rfl | (simp; done) | (simp [*]; done), by repeat (first | exact Drawn0.refl _ | apply Drawn0.step)⟩
            · rw [if_neg c6] at H
              exact absurd H (by simp)
          · rw [if_neg c5] at H
            exact absurd H (by simp)
        · rw [if_neg c4] at H
          have c4b0 : decide (x5_1 < (l0.length : Int)) = false := decide_eq_false c4
          clear c4
          obtain rfl := Option.some.inj H
          go_wp2
          repeat (go_quiet (fail); try go_wp2)
          go_ret
          exact ⟨by first | rfl | (simp; done) | (simp [*]; done), by repeat (first | exact Drawn0.refl _ | apply Drawn0.step)⟩
  · rw [if_neg c3] at H
    have c3b0 : ((l0.length : Int) == (l1.length : Int)) = false := beq_eq_false_iff_ne.mpr c3
    have c3b1 : ((l0.length : Int) != (l1.length : Int)) = true := bne_iff_ne.mpr c3
    have c3b2 : (l0.length == l1.length) = false := by first | simpa using c3 | (simp at c3 ⊢; omega)
    obtain rfl := Option.some.inj H
    go_enter Tryz.func97, Tryz.ntmps97
    go_wp2
    repeat (go_quiet (fail); try go_wp2)
    go_ret
    exact ⟨by first | rfl | (simp; done) | (simp [*]; done), by repeat (first | exact Drawn0.refl _ | apply Drawn0.step)⟩

-- NOT PRINTED: function 27 (exequaturlaw12_same)

-- NOT PRINTED: function 29 (tape_Tape_Sure)

-- NOT PRINTED: function 3 (exequaturlaw12_StorePlays)

-- NOT PRINTED: function 30 (exequaturlaw15_stored)

-- NOT PRINTED: function 201 (strconv_small)

-- NOT PRINTED: function 221 (strconv_log10Pow2)

-- NOT PRINTED: function 222 (strconv_bool2_int)

-- NOT PRINTED: function 202 (strconv_numDigits)

-- NOT PRINTED: function 203 (strconv_formatBase10)

-- NOT PRINTED: function 223 (strconv_isPowerOfTwo)

-- NOT PRINTED: function 234 (bits_TrailingZeros32)

-- NOT PRINTED: function 235 (bits_TrailingZeros64)

-- NOT PRINTED: function 224 (bits_TrailingZeros)

-- NOT PRINTED: function 204 (strconv_formatBits)

-- NOT PRINTED: function 179 (strconv_FormatInt)

-- NOT PRINTED: function 165 (strconv_Itoa_165)

def strconv_Itoa_143.f (a0 : Int) : Option (ByteArray) := if -9223372036854775808 ≤ a0 ∧ a0 ≤ 9223372036854775807 then some ⟨(Lib.itoa a0).toArray⟩ else none
theorem strconv_Itoa_143.calls (a0 : Int) (r : ByteArray) (w : World) (h : strconv_Itoa_143.f a0 = some r) (hGP : GP w) :
    Calls Tryz.prog 143 #[.int .i64 a0] w fun e w' => e = .returned (.string r) ∧ Below w.heap.size w w' := by
  unfold strconv_Itoa_143.f at h
  split at h
  case isTrue hs =>
    obtain rfl := Option.some.inj h
    refine (Tryz.strconv_Itoa a0 hs.1 hs.2 w hGP).mono ?_
    rintro e w' ⟨rfl, k, os, rfl⟩
    exact ⟨rfl, below_grown_sl _ w k os (Nat.le_refl _)⟩
  case isFalse hs => exact absurd h (by simp)

theorem txs_take (l : List ByteArray) (k : Nat) (h : k < l.length) : txs (l.take (k + 1)) = txs (l.take k) ++ tx (l.getD k ByteArray.empty) := by
  rw [List.take_add_one, List.getElem?_eq_getElem h, Option.toList_some, txs_snoc]
  simp [List.getD_eq_getElem?_getD, List.getElem?_eq_getElem h]
theorem txs_take_le (l : List ByteArray) (k : Nat) : (txs (l.take k)).length ≤ (txs l).length := by
  conv => rhs; rw [← List.take_append_drop k l, txs_append, List.length_append]
  omega
set_option maxHeartbeats 2000000 in
theorem row_Texts.says (A0 : Option Addr) (c0 : Nat) (l0 : List ByteArray) (w : World) (hr0 : Kd.C Kd.string w A0 l0.length l0) (hlen : (txs l0).length ≤ 140737488355328) (hGP : GP w) :
    Calls Tryz.prog 101 #[.slice A0 l0.length c0] w fun e w' => e = .returned (.string ⟨(txs l0).toArray⟩) ∧ Below w.heap.size w w' := by
  have hll := txs_long l0
  go_enter Tryz.func101, Tryz.ntmps101
  go_wp2
  go_loopw [8] (fun v8 wr => ∃ (k : Nat), k ≤ l0.length ∧ v8 = .int .i64 k ∧ w.heap.size ≤ wr.heap.size ∧ Lib.IsBuilderF 185 5 w.heap.size w.heap.size (Lib.byteCells (txs (l0.take k))) wr ∧ Below w.heap.size w wr) (fun v8 _ => l0.length - (intOf v8).toNat)
  case atStart =>
    exact ⟨0, by omega, rfl, by simp, Lib.IsBuilderF.of (Lib.fresh_isBuilder 185 5 w), (Below.refl _ _).alloc (Nat.le_refl _) _⟩
  case round =>
    obtain ⟨k, hk, rfl, hBw, hB, hb⟩ := hrel
    by_cases hlt : k < l0.length
    · have d1 : decide ((k : Int) < (l0.length : Int)) = true := decide_eq_true (by omega)
      have HT := Lib.hid (txs_take l0 k hlt)
      have hle := txs_take_le l0 (k + 1)
      rw [txs_take l0 k hlt, List.length_append] at hle
      obtain ⟨ad, e0, hx⟩ := Kd.at_string hr0 (k : Int) (by omega) (by omega)
      cases e0
      replace hx := (hb.cell (World.block_lt_of_cell? w _ hx)).trans hx
      have hrd : rdOf ByteArray.empty l0 (k : Int) = l0.getD k ByteArray.empty := by unfold rdOf; rw [Int.toNat_natCast]
      rw [hrd] at hx
      simp only [Int.toNat_natCast] at hx
      obtain ⟨s, hs⟩ : ∃ s, s = l0.getD k ByteArray.empty := ⟨_, rfl⟩
      rw [← hs] at hx hle HT
      clear hs hrd
      have hsz : s.data.toList.length = s.size := by rw [Array.length_toList, ByteArray.size_data]
      have htx : (tx s).length = (dd s.size).length + (1 + s.size) := by unfold tx; rw [List.length_append, List.length_cons]; omega
      have hit := Lib.itoa_nonneg s.size
      have hGPr := GP.below hGP hb
      have hIt := Tryz.strconv_Itoa (s.size : Int) (by omega) (by omega) wr hGPr
      rw [hit] at hIt
      obtain ⟨t, ht⟩ : ∃ t : ByteArray, t = ⟨(Lib.decDigits s.size).toArray⟩ := ⟨_, rfl⟩
      have hts : t.size = (dd s.size).length := by rw [ht]; show (List.toArray _).size = _; simp
      rw [← ht] at hIt
      have Ht := Lib.hid ht
      have i0 : (0 ≤ (k : Int)) = True := eq_true (by omega)
      have i3 : ((k : Int) < (l0.length : Int)) = True := eq_true (by omega)
      have s1 : t.size + 1 ≤ 9223372036854775807 := by omega
      have s2 : (t ++ (⟨#[58]⟩ : ByteArray)).size + s.size ≤ 9223372036854775807 := by rw [ByteArray.size_append]; show t.size + 1 + s.size ≤ _; omega
      have s3 : ((t ++ (⟨#[58]⟩ : ByteArray)) ++ s).size = (tx s).length := by rw [ByteArray.size_append, ByteArray.size_append, htx, hts]; show _ + 1 + s.size = _; omega
      have Hl := Lib.hid hle
      have Hs3 := Lib.hid s3
      clear hle hts htx ht hit s3 hsz
      go_wp2_with fail
      refine hIt.mono ?_
      rintro e w1 ⟨rfl, q, os, rfl⟩
      have hb1 := below_grown_sl wr.heap.size wr q os (Nat.le_refl _)
      have hB0 := bldF_below hB hb1
      have hb0 := below_then hb hb.size hb1
      have hBw0 := Nat.le_trans hBw hb1.size
      clear hB hb hBw hx
      generalize Sort.grow (wr.drewN q) os = w1 at hB0 hb0 hBw0 hb1 ⊢
      go_wp2_with fail
      refine (bld_string w.heap.size w.heap.size _ _ w1 hB0 ?_ hBw0).mono ?_
      · have h1 := Hl.out; have h3 := Hs3.out
        rw [Lib.byteCells_length, h3]; omega
      rintro e w2 ⟨rfl, hB1, hb2, -⟩
      go_wp2
      go_roundw
      case measure => simp [intOf]; omega
      case rel =>
        refine ⟨k + 1, by omega, by go_num, Nat.le_trans hBw0 hb2.size, .inr ?_, hb0.trans hb2⟩
        rw [HT.out]
        have e1 : Lib.byteCells (txs (l0.take k) ++ tx s) = Lib.byteCells (txs (l0.take k)) ++ Lib.strCells ((t ++ (⟨#[58]⟩ : ByteArray)) ++ s) := by
          have e2 : ((t ++ (⟨#[58]⟩ : ByteArray)) ++ s).data.toList = tx s := by
            rw [ByteArray.data_append, ByteArray.data_append, Ht.out]
            simp [tx]
          rw [Lib.strCells, e2]; simp [Lib.byteCells]
        rw [e1]
        exact hB1
    · obtain rfl : k = l0.length := by omega
      have d1 : decide (((l0.length : Nat) : Int) < (l0.length : Int)) = false := decide_eq_false (by omega)
      rw [List.take_length] at hB
      go_wp2_with fail
      refine (Tryz.Builder_String_any_k w.heap.size w.heap.size _ _ hB hBw).mono ?_
      rintro e w1 ⟨rfl, -, hb1, -⟩
      go_wp2
      go_ret
      exact ⟨rfl, hb.trans hb1⟩
def row_Texts.f (l0 : List ByteArray) : Option (ByteArray) := if (txs l0).length ≤ 140737488355328 then some ⟨(txs l0).toArray⟩ else none
theorem row_Texts.calls (A0 : Option Addr) (c0 : Nat) (l0 : List ByteArray) (r : ByteArray) (w : World) (hr0 : Kd.C Kd.string w A0 l0.length l0) (hc0 : l0.length ≤ c0) (h : row_Texts.f l0 = some r) (hGP : GP w) :
    Calls Tryz.prog 101 #[.slice A0 l0.length c0] w fun e w' => e = .returned (.string r) ∧ Below w.heap.size w w' := by
  unfold row_Texts.f at h
  split at h
  case isTrue hs =>
    obtain rfl := Option.some.inj h
    exact row_Texts.says A0 c0 l0 w hr0 hs hGP
  case isFalse hs => exact absurd h (by simp)

def link_Key.f (a0 : ByteArray) (a1 : ByteArray) : Option (ByteArray) := (row_Texts.f (([a0, a1] : List ByteArray))).bind fun t314 => (if 1 + t314.size ≤ 9223372036854775807 then (some ((⟨#[108]⟩ : ByteArray) ++ t314)) else (none))
set_option maxHeartbeats 8000000 in
set_option maxRecDepth 100000 in
theorem link_Key.calls (a0 : ByteArray) (a1 : ByteArray) (r : ByteArray) (w : World) (h : link_Key.f a0 a1 = some r) (hGP : GP w) :
    Calls Tryz.prog 39 #[.string a0, .string a1] w fun e w' => e = .returned (.string r) ∧ Below w.heap.size w w' := by
  have HGP := Aside0.mk hGP
  clear hGP
  have HB := Aside0.mk (Below.refl w.heap.size w)
  have H : ((row_Texts.f (([a0, a1] : List ByteArray))).bind fun t314 => (if 1 + t314.size ≤ 9223372036854775807 then (some ((⟨#[108]⟩ : ByteArray) ++ t314)) else (none))) = some r := h
  clear h
  obtain ⟨y311, hy311⟩ : ∃ y_ : List ByteArray, y_ = (([a0, a1] : List ByteArray)) := ⟨_, rfl⟩
  replace H : ((row_Texts.f y311).bind fun t314 => (if 1 + t314.size ≤ 9223372036854775807 then (some ((⟨#[108]⟩ : ByteArray) ++ t314)) else (none))) = some r := by first | (rw [hy311]; with_reducible exact H) | (have H2_ := (Option.bind_some _ _).symm.trans H; rw [hy311]; with_reducible exact H2_) | (have H2_ := (Option.bind_some _ _).symm.trans H; with_reducible exact H2_) | with_reducible exact H | (rw [hy311]; exact H) | exact H
  have Ny311 := Aside0.mk hy311
  clear hy311
  replace H := Option.bind_eq_some_iff.mp H
  obtain ⟨t314, A30, H⟩ := H
  replace H : (if 1 + t314.size ≤ 9223372036854775807 then (some ((⟨#[108]⟩ : ByteArray) ++ t314)) else (none)) = some r := H
  have A3 := Aside0.mk A30
  clear A30
  by_cases c4 : 1 + t314.size ≤ 9223372036854775807
  · rw [if_pos c4] at H
    have c4b0 := eq_true c4
    have c4b1 : decide (1 + t314.size ≤ 9223372036854775807) = true := decide_eq_true c4
    try have c4b2 : (9223372036854775807 < 1 + t314.size) = False := eq_false (Nat.not_lt.2 c4)
    obtain rfl := Option.some.inj H
    go_enter Tryz.func39, Tryz.ntmps39
    go_wp2_with (first | ((with_reducible refine gate_dst (N := 7) rfl ?_); refine Kd.R_lit Kd.string _ 9 ?hg (N := 7) ?hd (xs := ([a0, a1] : List ByteArray)) (inner := [.string a0, .string a1]) (ok := fun _ => True) (okp := fun _ => True) ?hr ?hp (fun _ hk => hk) trivial (Below.refl _ _) (Nat.le_refl _) (by simp) ?_; (case hd => rfl); (case hg => rfl); (case hr => first | (go_simp; done) | (go_simp; rfl)); (case hp => exact (Reps.one (show Kd.M Kd.string _ _ _ a0 [.string a0] from rfl) (Reps.one (show Kd.M Kd.string _ _ _ a1 [.string a1] from rfl) (Reps.none _ _)))); intro v312 w5 ho6 hb hg_ hnew_; clear hg_ hnew_; (first | rw [← Ny311.out] at ho6 | (simp only [Int.reduceToNat] at ho6; rw [← Ny311.out] at ho6)); have n0_ := Aside0.mk (Kd.R_lower ho6 (below_size (by repeat (first | (with_reducible first | exact HB.out | apply below_alloc | apply pw_below_drewN | apply below_drew1) | exact HB.out)))); have n1_ := Aside0.mk (below_step (by repeat (first | (with_reducible first | exact HB.out | apply below_alloc | apply pw_below_drewN | apply below_drew1) | exact HB.out)) hb); clear HB; have HO313 := n0_; have HB := n1_; clear n0_ n1_; clear hb ho6; obtain ⟨Ao7, co7, eo7⟩ := Kd.R_slice HO313.out; subst eo7) | ((with_reducible refine gate_callee (f := 101) rfl ?_); refine goesL_ (some 8) rfl rfl Tryz.func101 (by kernel_rfl) rfl #[.slice Ao7 y311.length co7] rfl (by (try simp only [List.map_toArray, List.map_cons, List.map_nil]); first | done | rfl | (simp only [List.length_drop, List.length_take]; rfl)) ?_; (with_reducible refine (row_Texts.calls _ _ y311 t314 _ ?side1 ?side2 A3.out (GP.below HGP.out (by repeat (first | (with_reducible first | exact HB.out | apply below_alloc | apply pw_below_drewN | apply below_drew1) | exact HB.out)))).mono ?_); (case side1 => repeat (first | exact (Kd.R_reads' HO313.out).2.2 | (with_reducible refine Kd.C_alloc ?_ _) | (with_reducible refine Kd.C_drewN ?_ _) | (with_reducible refine Kd.C_drew ?_))); (case side2 => exact (Kd.R_reads' HO313.out).2.1); rintro e w8 ⟨rfl, hb⟩; refine ⟨_, rfl, ?_⟩; have n0_ := Aside0.mk (Kd.R_below (by (with_reducible repeat (first | apply Kd.R_alloc | apply Kd.R_drewN | apply Kd.R_drew)); exact HO313.out) hb); have n1_ := Aside0.mk (below_step (by repeat (first | (with_reducible first | exact HB.out | apply below_alloc | apply pw_below_drewN | apply below_drew1) | exact HB.out)) hb); clear HO313; clear HB; have HO313 := n0_; have HB := n1_; clear n0_ n1_; (try clear hb); (try clear hb2); (try clear hk); (try clear hi)))
    go_ret
    exact ⟨by first | rfl | (simp [errW_none, errW_some] <;> rfl) | (simp [*, errW_none, errW_some] <;> rfl), by repeat (first | (with_reducible first | exact HB.out | apply below_alloc | apply pw_below_drewN | apply below_drew1) | exact HB.out)⟩
  · rw [if_neg c4] at H
    exact absurd H (by simp)

-- NOT PRINTED: function 35 (link_Find)

-- NOT PRINTED: function 32 (link_Resolve)

-- NOT PRINTED: function 31 (exequaturlaw15_answers)

def exequaturref10_Rows_Get.l0 : Nat → List (S82) → ByteArray → Int → Option (Int × Bool)
  | 0, _, _, _ => none
  | k + 1, x0, x1, x6 => if x6 < (x0.length : Int) then (if 0 ≤ x6 then (if ((rd_T82 x0 x6).f0).toList = x1.toList then (some (x6, true)) else (exequaturref10_Rows_Get.l0 k x0 x1 (wrap64 (x6 + 1)))) else (none)) else (some (0, false))
def exequaturref10_Rows_Get.f (k : Nat) (l0 : List (S82)) (a1 : ByteArray) : Option (Int × Bool) := exequaturref10_Rows_Get.l0 k l0 a1 0
theorem exequaturref10_Rows_Get.mono_l : ∀ k, (∀ y0 y1 y2, LeO (exequaturref10_Rows_Get.l0 k y0 y1 y2) (exequaturref10_Rows_Get.l0 (k + 1) y0 y1 y2))
  | 0 => fun _ _ _ r h => by simp [exequaturref10_Rows_Get.l0] at h
  | k + 1 => by
    have ih0 := exequaturref10_Rows_Get.mono_l k
    · intro y0 y1 y2
      unfold exequaturref10_Rows_Get.l0
      repeat' first
      | (with_reducible exact ih0 _ _ _)
      | (with_reducible exact LeO.refl _)
      | (with_reducible exact LeO.none _)
      | (with_reducible refine LeO.ite ?_ ?_)
      | (with_reducible refine LeO.bind ?_ (fun _ => ?_))
      | exact ih0 _ _ _
      | exact LeO.none _
      | refine LeO.ite ?_ ?_
      | refine LeO.bind ?_ (fun _ => ?_)
theorem exequaturref10_Rows_Get.mono : ∀ a0 a1 k, LeO (exequaturref10_Rows_Get.f k a0 a1) (exequaturref10_Rows_Get.f (k + 1) a0 a1) := by
  intro a0 a1 k
  have ih0 := exequaturref10_Rows_Get.mono_l k
  unfold exequaturref10_Rows_Get.f
  repeat' first
      | (with_reducible exact ih0 _ _ _)
      | (with_reducible exact LeO.refl _)
      | (with_reducible exact LeO.none _)
      | (with_reducible refine LeO.ite ?_ ?_)
      | (with_reducible refine LeO.bind ?_ (fun _ => ?_))
      | exact ih0 _ _ _
      | exact LeO.none _
      | refine LeO.ite ?_ ?_
      | refine LeO.bind ?_ (fun _ => ?_)
set_option maxHeartbeats 8000000 in
set_option maxRecDepth 100000 in
theorem exequaturref10_Rows_Get.calls (k : Nat) (A0 : Option Addr) (c0 : Nat) (l0 : List (S82)) (a1 : ByteArray) (r1 : Int) (r2 : Bool) (w : World) (hr0 : Kd.C k82 w A0 l0.length l0) (hc0 : l0.length ≤ c0) (h : exequaturref10_Rows_Get.f k l0 a1 = some (r1, r2)) :
    Calls Tryz.prog 99 #[.slice A0 l0.length c0, .string a1] w fun e w' => e = .returned (.tuple #[.int .i64 r1, .bool r2]) ∧ Drawn0 w w' := by
  have HR0 := Aside0.mk hr0
  have HC0 := Aside0.mk hc0
  clear hr0 hc0
  have H : (exequaturref10_Rows_Get.l0 k l0 a1 0) = some (r1, r2) := h
  clear h
  have H' := Aside0.mk H
  clear H
  go_enter Tryz.func99, Tryz.ntmps99
  go_wp2
  go_loopg [6] k (fun kq v6 w' => ∃ (x6_1 : Int), v6 = .int .i64 x6_1 ∧ Aside0 (exequaturref10_Rows_Get.l0 kq l0 a1 x6_1 = some (r1, r2)) ∧ Aside0 (kq ≤ k) ∧ Drawn0 w w')
  case atStart => exact ⟨(0), (by first | rfl | (simp; done) | (simp [*]; done)), H', ⟨Nat.le_refl _⟩, by repeat (first | exact Drawn0.refl _ | apply Drawn0.step)⟩
  case round =>
    clear H'
    try clear p2
    obtain ⟨x6_1, rfl, HA, HK1, ⟨m1, rfl⟩⟩ := hrel
    cases gk with
    | zero => exact absurd HA.out (by simp [exequaturref10_Rows_Get.l0])
    | succ k1 =>
      have H := HA.out
      clear HA
      simp only [exequaturref10_Rows_Get.l0] at H
      by_cases c3 : x6_1 < (l0.length : Int)
      · rw [if_pos c3] at H
        have c3b0 : decide (x6_1 < (l0.length : Int)) = true := decide_eq_true c3
        clear c3
        by_cases c4 : 0 ≤ x6_1
        · rw [if_pos c4] at H
          have c4b0 : decide (0 ≤ x6_1) = true := decide_eq_true c4
          clear c4
          by_cases c5 : ((rd_T82 l0 x6_1).f0).toList = a1.toList
          · rw [if_pos c5] at H
            have c5b0 : (((rd_T82 l0 x6_1).f0).toList == a1.toList) = true := beq_iff_eq.mpr c5
            have c5b1 : (((rd_T82 l0 x6_1).f0).toList != a1.toList) = false := bne_eq_false_iff_eq.mpr c5
            clear c5
            simp only [Option.some.injEq, Prod.mk.injEq] at H
            obtain ⟨rfl, rfl⟩ := H
            have p315 : 0 ≤ (x6_1 : Int) := of_decide_eq_true (by first | (with_reducible assumption) | assumption)
            have q315 : x6_1 < (l0.length : Int) := of_decide_eq_true (by first | (with_reducible assumption) | assumption)
            obtain ⟨ad315, e315, hx315_0, hx315_1⟩ := at_T82 HR0.out x6_1 p315 q315
            cases e315
            replace p315 := eq_true p315
            replace q315 := eq_true q315
            go_wp2
            go_ret2
            exact ⟨by first | rfl | (simp; done) | (simp [*]; done), by repeat (first | exact Drawn0.refl _ | apply Drawn0.step)⟩
          · rw [if_neg c5] at H
            have c5b0 : (((rd_T82 l0 x6_1).f0).toList == a1.toList) = false := beq_eq_false_iff_ne.mpr c5
            have c5b1 : (((rd_T82 l0 x6_1).f0).toList != a1.toList) = true := bne_iff_ne.mpr c5
            have H' := Aside0.mk H
            clear H
            have p315 : 0 ≤ (x6_1 : Int) := of_decide_eq_true (by first | (with_reducible assumption) | assumption)
            have q315 : x6_1 < (l0.length : Int) := of_decide_eq_true (by first | (with_reducible assumption) | assumption)
            obtain ⟨ad315, e315, hx315_0, hx315_1⟩ := at_T82 HR0.out x6_1 p315 q315
            cases e315
            replace p315 := eq_true p315
            replace q315 := eq_true q315
            go_wp2
            go_roundg k1
            case measure => have := HK1.out; omega
            case rel => exact ⟨(wrap64 (x6_1 + 1)), (by first | rfl | (simp; done) | (simp [*]; done)), H', ⟨by have := HK1.out; omega⟩, by repeat (first | exact Drawn0.refl _ | apply Drawn0.step)⟩
        · rw [if_neg c4] at H
          exact absurd H (by simp)
      · rw [if_neg c3] at H
        have c3b0 : decide (x6_1 < (l0.length : Int)) = false := decide_eq_false c3
        clear c3
        simp only [Option.some.injEq, Prod.mk.injEq] at H
        obtain ⟨rfl, rfl⟩ := H
        go_wp2
        go_ret2
        exact ⟨by first | rfl | (simp; done) | (simp [*]; done), by repeat (first | exact Drawn0.refl _ | apply Drawn0.step)⟩

def exequaturref10_Rows_Value.f (k : Nat) (l0 : List (S82)) (a1 : ByteArray) : Option (ByteArray × Bool) := (exequaturref10_Rows_Get.f k l0 a1).bind fun bt316 => (if bt316.2 = true then (if 0 ≤ bt316.1 then (if bt316.1 < (l0.length : Int) then (some ((rd_T82 l0 bt316.1).f1, true)) else (none)) else (none)) else (some ((⟨#[]⟩ : ByteArray), false)))
theorem exequaturref10_Rows_Value.mono : ∀ a0 a1 k, LeO (exequaturref10_Rows_Value.f k a0 a1) (exequaturref10_Rows_Value.f (k + 1) a0 a1) := by
  intro a0 a1 k
  unfold exequaturref10_Rows_Value.f
  repeat' first
      | (with_reducible exact exequaturref10_Rows_Get.mono _ _ _)
      | (with_reducible exact LeO.refl _)
      | (with_reducible exact LeO.none _)
      | (with_reducible refine LeO.ite ?_ ?_)
      | (with_reducible refine LeO.bind ?_ (fun _ => ?_))
      | exact exequaturref10_Rows_Get.mono _ _ _
      | exact LeO.none _
      | refine LeO.ite ?_ ?_
      | refine LeO.bind ?_ (fun _ => ?_)
set_option maxHeartbeats 8000000 in
set_option maxRecDepth 100000 in
theorem exequaturref10_Rows_Value.calls (k : Nat) (A0 : Option Addr) (c0 : Nat) (l0 : List (S82)) (a1 : ByteArray) (r1 : ByteArray) (r2 : Bool) (w : World) (hr0 : Kd.C k82 w A0 l0.length l0) (hc0 : l0.length ≤ c0) (h : exequaturref10_Rows_Value.f k l0 a1 = some (r1, r2)) :
    Calls Tryz.prog 36 #[.slice A0 l0.length c0, .string a1] w fun e w' => e = .returned (.tuple #[.string r1, .bool r2]) ∧ Drawn0 w w' := by
  have HR0 := Aside0.mk hr0
  have HC0 := Aside0.mk hc0
  clear hr0 hc0
  have H : ((exequaturref10_Rows_Get.f k l0 a1).bind fun bt316 => (if bt316.2 = true then (if 0 ≤ bt316.1 then (if bt316.1 < (l0.length : Int) then (some ((rd_T82 l0 bt316.1).f1, true)) else (none)) else (none)) else (some ((⟨#[]⟩ : ByteArray), false)))) = some (r1, r2) := h
  clear h
  replace H := Option.bind_eq_some_iff.mp H
  obtain ⟨⟨t316, t317⟩, A30, H⟩ := H
  replace H : (if t317 = true then (if 0 ≤ t316 then (if t316 < (l0.length : Int) then (some ((rd_T82 l0 t316).f1, true)) else (none)) else (none)) else (some ((⟨#[]⟩ : ByteArray), false))) = some (r1, r2) := H
  have A3 := Aside0.mk A30
  clear A30
  by_cases c4 : t317 = true
  · subst c4
    have H1 : (if 0 ≤ t316 then (if t316 < (l0.length : Int) then (some ((rd_T82 l0 t316).f1, true)) else (none)) else (none)) = some (r1, r2) := by rw [if_pos rfl] at H; exact H
    clear H
    have H := H1
    clear H1
    by_cases c5 : 0 ≤ t316
    · rw [if_pos c5] at H
      have c5b0 : decide (0 ≤ t316) = true := decide_eq_true c5
      clear c5
      by_cases c6 : t316 < (l0.length : Int)
      · rw [if_pos c6] at H
        have c6b0 : decide (t316 < (l0.length : Int)) = true := decide_eq_true c6
        clear c6
        simp only [Option.some.injEq, Prod.mk.injEq] at H
        obtain ⟨rfl, rfl⟩ := H
        go_enter Tryz.func36, Tryz.ntmps36
        go_wp2_with (first | ((with_reducible refine gate_callee (f := 99) rfl ?_); refine goesL_ (some 11) rfl rfl Tryz.func99 (by kernel_rfl) rfl #[.slice A0 l0.length c0, .string a1] rfl (by (try simp only [List.map_toArray, List.map_cons, List.map_nil]); first | done | rfl | (simp only [List.length_drop, List.length_take]; rfl)) ?_; (with_reducible refine (exequaturref10_Rows_Get.calls k _ _ l0 a1 t316 true _ ?side1 ?side2 A3.out).mono ?_); (case side1 => repeat (first | exact HR0.out | (with_reducible refine Kd.C_alloc ?_ _) | (with_reducible refine Kd.C_drewN ?_ _) | (with_reducible refine Kd.C_drew ?_))); (case side2 => exact HC0.out); rintro e w' ⟨rfl, ⟨nd, rfl⟩⟩; refine ⟨_, rfl, ?_⟩; have p318 : 0 ≤ (t316 : Int) := of_decide_eq_true (by first | (with_reducible assumption) | assumption); have q318 : t316 < (l0.length : Int) := of_decide_eq_true (by first | (with_reducible assumption) | assumption); obtain ⟨ad318, e318, hx318_0, hx318_1⟩ := at_T82 HR0.out t316 p318 q318; cases e318; replace p318 := eq_true p318; replace q318 := eq_true q318))
        go_ret2
        exact ⟨by first | rfl | (simp; done) | (simp [*]; done), by repeat (first | exact Drawn0.refl _ | apply Drawn0.step)⟩
      · rw [if_neg c6] at H
        exact absurd H (by simp)
    · rw [if_neg c5] at H
      exact absurd H (by simp)
  · replace c4 := Bool.eq_false_iff.mpr c4
    subst c4
    have H1 : (some ((⟨#[]⟩ : ByteArray), false)) = some (r1, r2) := by rw [if_neg (show ¬ (false = true) by decide)] at H; exact H
    clear H
    have H := H1
    clear H1
    simp only [Option.some.injEq, Prod.mk.injEq] at H
    obtain ⟨rfl, rfl⟩ := H
    go_enter Tryz.func36, Tryz.ntmps36
    go_wp2_with (first | ((with_reducible refine gate_callee (f := 99) rfl ?_); refine goesL_ (some 11) rfl rfl Tryz.func99 (by kernel_rfl) rfl #[.slice A0 l0.length c0, .string a1] rfl (by (try simp only [List.map_toArray, List.map_cons, List.map_nil]); first | done | rfl | (simp only [List.length_drop, List.length_take]; rfl)) ?_; (with_reducible refine (exequaturref10_Rows_Get.calls k _ _ l0 a1 t316 false _ ?side1 ?side2 A3.out).mono ?_); (case side1 => repeat (first | exact HR0.out | (with_reducible refine Kd.C_alloc ?_ _) | (with_reducible refine Kd.C_drewN ?_ _) | (with_reducible refine Kd.C_drew ?_))); (case side2 => exact HC0.out); rintro e w' ⟨rfl, ⟨nd, rfl⟩⟩; refine ⟨_, rfl, ?_⟩))
    go_ret2
    exact ⟨by first | rfl | (simp; done) | (simp [*]; done), by repeat (first | exact Drawn0.refl _ | apply Drawn0.step)⟩

end Go.Proofs.YtpoblffgclmmlaaGreatDoor.Q
end
