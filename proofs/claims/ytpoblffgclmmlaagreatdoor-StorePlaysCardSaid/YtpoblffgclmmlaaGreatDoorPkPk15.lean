/- A part of the proof of a card: what some functions of the program come to, each under the conditions that its theorem names. -/
import Derived.Shelf.SlSorted.Search
import Derived.Test.YtpoblffgclmmlaaGreatDoorPkPk9
section
namespace Go.Proofs.YtpoblffgclmmlaaGreatDoor.Q
open Go.RowKit Go.Proofs.YtpoblffgclmmlaaGreatDoorW.PrintWords Go.Proofs.YtpoblffgclmmlaaGreatDoorW.PrintLast Go.Proofs.YtpoblffgclmmlaaGreatDoorW.PrintMore
attribute [local go_sem] max2_int min2_int max_two min_two max_three min_three max_four min_four   -- for this text's walks alone
open Go.Proofs.YtpoblffgclmmlaaGreatDoor.X
set_option linter.unusedVariables false
set_option linter.unusedSimpArgs false

def exequaturref10_Rows_Keys.l0 : Nat → List (S82) → ByteArray → List ByteArray → Int → Option (List ByteArray)
 | 0, _, _, _, _ => none
 | k + 1, x0, x1, x5, x6 => if x6 < (x0.length : Int) then (if 0 ≤ x6 then (if (((rd_T82 x0 x6).f0).size : Int) ≥ (x1.size : Int) then (if 0 ≤ (x1.size : Int) then (if (x1.size : Int) ≤ (((rd_T82 x0 x6).f0).size : Int) then (if (((rd_T82 x0 x6).f0).extract 0 x1.size).toList = x1.toList then (if x5.length < 8796093022208 then (exequaturref10_Rows_Keys.l0 k x0 x1 (x5 ++ [(rd_T82 x0 x6).f0]) (wrap64 (x6 + 1))) else (none)) else (exequaturref10_Rows_Keys.l0 k x0 x1 x5 (wrap64 (x6 + 1)))) else (none)) else (none)) else (exequaturref10_Rows_Keys.l0 k x0 x1 x5 (wrap64 (x6 + 1)))) else (none)) else (some x5)
def exequaturref10_Rows_Keys.f (k : Nat) (l0 : List (S82)) (a1 : ByteArray) : Option (List ByteArray) := exequaturref10_Rows_Keys.l0 k l0 a1 ([] : List ByteArray) 0
theorem exequaturref10_Rows_Keys.mono_l : ∀ k, (∀ y0 y1 y2 y3, LeO (exequaturref10_Rows_Keys.l0 k y0 y1 y2 y3) (exequaturref10_Rows_Keys.l0 (k + 1) y0 y1 y2 y3))
 | 0 => fun _ _ _ _ r h => by simp [exequaturref10_Rows_Keys.l0] at h
 | k + 1 => by
  have ih0 := exequaturref10_Rows_Keys.mono_l k
  ·
   intro y0 y1 y2 y3
   unfold exequaturref10_Rows_Keys.l0
   repeat' first
   | (with_reducible exact ih0 _ _ _ _)
   | (with_reducible exact LeO.refl _)
   | (with_reducible exact LeO.none _)
   | (with_reducible refine LeO.ite ?_ ?_)
   | (with_reducible refine LeO.bind ?_ (fun _ => ?_))
   | exact ih0 _ _ _ _
   | exact LeO.none _
   | refine LeO.ite ?_ ?_
   | refine LeO.bind ?_ (fun _ => ?_)
theorem exequaturref10_Rows_Keys.mono : ∀ a0 a1 k, LeO (exequaturref10_Rows_Keys.f k a0 a1) (exequaturref10_Rows_Keys.f (k + 1) a0 a1) := by
 intro a0 a1 k
 have ih0 := exequaturref10_Rows_Keys.mono_l k
 unfold exequaturref10_Rows_Keys.f
 repeat' first
   | (with_reducible exact ih0 _ _ _ _)
   | (with_reducible exact LeO.refl _)
   | (with_reducible exact LeO.none _)
   | (with_reducible refine LeO.ite ?_ ?_)
   | (with_reducible refine LeO.bind ?_ (fun _ => ?_))
   | exact ih0 _ _ _ _
   | exact LeO.none _
   | refine LeO.ite ?_ ?_
   | refine LeO.bind ?_ (fun _ => ?_)
set_option maxHeartbeats 8000000 in
set_option maxRecDepth 100000 in
theorem exequaturref10_Rows_Keys.calls (k : Nat) (A0 : Option Addr) (c0 : Nat) (l0 : List (S82)) (a1 : ByteArray) (r : List ByteArray) (w : World) (hr0 : Kd.C k82 w A0 l0.length l0) (hc0 : l0.length ≤ c0) (h : exequaturref10_Rows_Keys.f k l0 a1 = some r) :
  Calls Tryz.prog 52 #[.slice A0 l0.length c0, .string a1] w fun e w' => ∃ v0_ : Value, e = .returned (v0_) ∧ Kd.R Kd.string 9 w' w.heap.size (fun _ => True) v0_ r ∧ Below w.heap.size w w' := by
 have HR0 := Aside0.mk hr0
 have HC0 := Aside0.mk hc0
 clear hr0 hc0
 have HB := Aside0.mk (Below.refl w.heap.size w)
 have H : (exequaturref10_Rows_Keys.l0 k l0 a1 ([] : List ByteArray) 0) = some r := h
 clear h
 have H' := Aside0.mk H
 clear H
 go_enter Tryz.func52, Tryz.ntmps52
 go_wp2
 go_loopg [5, 6] k (fun kq v5 v6 w' => ∃ (x5_1 : List ByteArray) (x6_1 : Int), v6 = .int .i64 x6_1 ∧ Aside0 (exequaturref10_Rows_Keys.l0 kq l0 a1 x5_1 x6_1 = some r) ∧ Aside0 (kq ≤ k) ∧ Aside0 (Kd.R Kd.string 9 w' w.heap.size (fun _ => True) v5 x5_1) ∧ Aside0 (Below w.heap.size w w'))
 case atStart => exact ⟨(([] : List ByteArray)), (0), (by first | rfl | (simp; done) | (simp [*]; done)), H', ⟨Nat.le_refl _⟩, ⟨by first | exact Kd.R_nil _ _ _ _ _ | exact Kd.N_nil _ _ _ _ _ | exact Kd.V_nil _ _ _ _ _ | exact Kd.Q_nil _ _ _ _ _ | exact Kd.S_nil _ _ _ _ _⟩, ⟨by repeat (first | (with_reducible first | exact HB.out | apply below_alloc | apply pw_below_drewN | apply below_drew1) | exact HB.out)⟩⟩
 case round =>
  clear H'
  try clear p2
  obtain ⟨x5_1, x6_1, rfl, HA, HK1, HO_5, HB⟩ := hrel
  cases gk with
  | zero => exact absurd HA.out (by simp [exequaturref10_Rows_Keys.l0])
  | succ k1 =>
   have H := HA.out
   clear HA
   simp only [exequaturref10_Rows_Keys.l0] at H
   by_cases c3 : x6_1 < (l0.length : Int)
   ·
    rw [if_pos c3] at H
    have c3b0 : decide (x6_1 < (l0.length : Int)) = true := decide_eq_true c3
    clear c3
    by_cases c4 : 0 ≤ x6_1
    ·
     rw [if_pos c4] at H
     have c4b0 : decide (0 ≤ x6_1) = true := decide_eq_true c4
     clear c4
     by_cases c5 : (((rd_T82 l0 x6_1).f0).size : Int) ≥ (a1.size : Int)
     ·
      rw [if_pos c5] at H
      have c5b0 : decide ((a1.size : Int) ≤ (((rd_T82 l0 x6_1).f0).size : Int)) = true := decide_eq_true c5
      have c5b1 : decide (a1.size ≤ ((rd_T82 l0 x6_1).f0).size) = true := decide_eq_true (Int.ofNat_le.mp c5)
      clear c5
      by_cases c6 : 0 ≤ (a1.size : Int)
      ·
       rw [if_pos c6] at H
       have c6b0 := eq_true c6
       have c6b1 : decide (0 ≤ (a1.size : Int)) = true := decide_eq_true c6
       clear c6
       by_cases c7 : (a1.size : Int) ≤ (((rd_T82 l0 x6_1).f0).size : Int)
       ·
        rw [if_pos c7] at H
        have c7b0 := eq_true c7
        have c7b1 : decide ((a1.size : Int) ≤ (((rd_T82 l0 x6_1).f0).size : Int)) = true := decide_eq_true c7
        clear c7
        by_cases c8 : (((rd_T82 l0 x6_1).f0).extract 0 a1.size).toList = a1.toList
        ·
         rw [if_pos c8] at H
         have c8b0 : ((((rd_T82 l0 x6_1).f0).extract 0 a1.size).toList == a1.toList) = true := beq_iff_eq.mpr c8
         have c8b1 : ((((rd_T82 l0 x6_1).f0).extract 0 a1.size).toList != a1.toList) = false := bne_eq_false_iff_eq.mpr c8
         clear c8
         by_cases c9 : x5_1.length < 8796093022208
         ·
          rw [if_pos c9] at H
          have LMc9 := Aside0.mk c9
          clear c9
          obtain ⟨y306, hy306⟩ : ∃ y_ : List ByteArray, y_ = (x5_1 ++ [(rd_T82 l0 x6_1).f0]) := ⟨_, rfl⟩
          replace H : (exequaturref10_Rows_Keys.l0 k1 l0 a1 y306 (wrap64 (x6_1 + 1))) = some r := by first | (rw [hy306]; with_reducible exact H) | (have H2_ := (Option.bind_some _ _).symm.trans H; rw [hy306]; with_reducible exact H2_) | (have H2_ := (Option.bind_some _ _).symm.trans H; with_reducible exact H2_) | with_reducible exact H | (rw [hy306]; exact H) | exact H
          have Ny306 := Aside0.mk hy306
          clear hy306
          have H' := Aside0.mk H
          clear H
          have p303 : 0 ≤ (x6_1 : Int) := of_decide_eq_true (by first | (with_reducible assumption) | assumption)
          have q303 : x6_1 < (l0.length : Int) := of_decide_eq_true (by first | (with_reducible assumption) | assumption)
          obtain ⟨ad303, e303, hx303_0, hx303_1⟩ := at_T82 HR0.out x6_1 p303 q303
          cases e303
          replace hx303_0 := (HB.out.cell (World.block_lt_of_cell? w _ hx303_0)).trans hx303_0
          replace hx303_1 := (HB.out.cell (World.block_lt_of_cell? w _ hx303_1)).trans hx303_1
          replace p303 := eq_true p303
          replace q303 := eq_true q303
          have p304 : 0 ≤ (x6_1 : Int) := of_decide_eq_true (by first | (with_reducible assumption) | assumption)
          have q304 : x6_1 < (l0.length : Int) := of_decide_eq_true (by first | (with_reducible assumption) | assumption)
          obtain ⟨ad304, e304, hx304_0, hx304_1⟩ := at_T82 HR0.out x6_1 p304 q304
          obtain rfl : ad303 = ad304 := (by injection e304)
          replace hx304_0 := (HB.out.cell (World.block_lt_of_cell? w _ hx304_0)).trans hx304_0
          replace hx304_1 := (HB.out.cell (World.block_lt_of_cell? w _ hx304_1)).trans hx304_1
          replace p304 := eq_true p304
          replace q304 := eq_true q304
          have p305 : 0 ≤ (x6_1 : Int) := of_decide_eq_true (by first | (with_reducible assumption) | assumption)
          have q305 : x6_1 < (l0.length : Int) := of_decide_eq_true (by first | (with_reducible assumption) | assumption)
          obtain ⟨ad305, e305, hx305_0, hx305_1⟩ := at_T82 HR0.out x6_1 p305 q305
          obtain rfl : ad303 = ad305 := (by injection e305)
          replace hx305_0 := (HB.out.cell (World.block_lt_of_cell? w _ hx305_0)).trans hx305_0
          replace hx305_1 := (HB.out.cell (World.block_lt_of_cell? w _ hx305_1)).trans hx305_1
          replace p305 := eq_true p305
          replace q305 := eq_true q305
          go_wp2_with (first | ((with_reducible refine gate_builtin (b := .append) (xs := #[.tmp 34, .tmp 40]) rfl ?_); (try (refine gate_guard (by rfl) ?_; dsimp only)); at_builtin; refine Kd.R_append Kd.string (w0 := w) w.heap.size rfl (.tmp 34) (.tmp 40) 88 9 (.string ⟨#[]⟩) 16 rfl Tryz.underlying88 info9 rfl (by decide) (by omega) u5 x5_1 ((rd_T82 l0 x6_1).f0) [.string ((rd_T82 l0 x6_1).f0)] (fun _ => True) (fun _ => False) rfl rfl ?aP (fun _ hk => hk.elim) ?aF ?aO ?aB ?aS ?aL ?_; (case aP => exact rfl); (case aB => exact (by repeat (first | (with_reducible first | exact HB.out | apply below_alloc | apply pw_below_drewN | apply below_drew1) | exact HB.out))); (case aF => exact (fun _ _ => trivial)); (case aO => exact (by (with_reducible repeat (first | apply Kd.R_alloc | apply Kd.R_drewN | apply Kd.R_drew)); exact HO_5.out)); (case aS => exact (below_size (by repeat (first | (with_reducible first | exact HB.out | apply below_alloc | apply pw_below_drewN | apply below_drew1) | exact HB.out)))); (case aL => have := LMc9.out; omega); intro v307 w10 ho hb hg hat; rw [← Ny306.out] at ho; have n0_ := Aside0.mk (hb); have n1_ := Aside0.mk (ho); clear HB; clear HO_5; have HB := n0_; have HO308 := n1_; clear n0_ n1_; clear ho hb hg hat))
          go_roundg k1
          case measure => have := HK1.out; omega
          case rel => exact ⟨(y306), (wrap64 (x6_1 + 1)), (by first | rfl | (simp; done) | (simp [*]; done)), H', ⟨by have := HK1.out; omega⟩, ⟨by (with_reducible repeat (first | apply Kd.R_alloc | apply Kd.R_drewN | apply Kd.R_drew)); exact HO308.out⟩, ⟨by repeat (first | (with_reducible first | exact HB.out | apply below_alloc | apply pw_below_drewN | apply below_drew1) | exact HB.out)⟩⟩
         ·
          rw [if_neg c9] at H
          exact absurd H (by simp)
        ·
         rw [if_neg c8] at H
         have c8b0 : ((((rd_T82 l0 x6_1).f0).extract 0 a1.size).toList == a1.toList) = false := beq_eq_false_iff_ne.mpr c8
         have c8b1 : ((((rd_T82 l0 x6_1).f0).extract 0 a1.size).toList != a1.toList) = true := bne_iff_ne.mpr c8
         have H' := Aside0.mk H
         clear H
         have p303 : 0 ≤ (x6_1 : Int) := of_decide_eq_true (by first | (with_reducible assumption) | assumption)
         have q303 : x6_1 < (l0.length : Int) := of_decide_eq_true (by first | (with_reducible assumption) | assumption)
         obtain ⟨ad303, e303, hx303_0, hx303_1⟩ := at_T82 HR0.out x6_1 p303 q303
         cases e303
         replace hx303_0 := (HB.out.cell (World.block_lt_of_cell? w _ hx303_0)).trans hx303_0
         replace hx303_1 := (HB.out.cell (World.block_lt_of_cell? w _ hx303_1)).trans hx303_1
         replace p303 := eq_true p303
         replace q303 := eq_true q303
         have p304 : 0 ≤ (x6_1 : Int) := of_decide_eq_true (by first | (with_reducible assumption) | assumption)
         have q304 : x6_1 < (l0.length : Int) := of_decide_eq_true (by first | (with_reducible assumption) | assumption)
         obtain ⟨ad304, e304, hx304_0, hx304_1⟩ := at_T82 HR0.out x6_1 p304 q304
         obtain rfl : ad303 = ad304 := (by injection e304)
         replace hx304_0 := (HB.out.cell (World.block_lt_of_cell? w _ hx304_0)).trans hx304_0
         replace hx304_1 := (HB.out.cell (World.block_lt_of_cell? w _ hx304_1)).trans hx304_1
         replace p304 := eq_true p304
         replace q304 := eq_true q304
         go_wp2
         go_roundg k1
         case measure => have := HK1.out; omega
         case rel => exact ⟨(x5_1), (wrap64 (x6_1 + 1)), (by first | rfl | (simp; done) | (simp [*]; done)), H', ⟨by have := HK1.out; omega⟩, ⟨by (with_reducible repeat (first | apply Kd.R_alloc | apply Kd.R_drewN | apply Kd.R_drew)); exact HO_5.out⟩, ⟨by repeat (first | (with_reducible first | exact HB.out | apply below_alloc | apply pw_below_drewN | apply below_drew1) | exact HB.out)⟩⟩
       ·
        rw [if_neg c7] at H
        exact absurd H (by simp)
      ·
       rw [if_neg c6] at H
       exact absurd H (by simp)
     ·
      rw [if_neg c5] at H
      have c5b0 : decide ((a1.size : Int) ≤ (((rd_T82 l0 x6_1).f0).size : Int)) = false := decide_eq_false c5
      have c5b1 : decide (a1.size ≤ ((rd_T82 l0 x6_1).f0).size) = false := decide_eq_false (fun h => c5 (Int.ofNat_le.mpr h))
      clear c5
      have H' := Aside0.mk H
      clear H
      have p303 : 0 ≤ (x6_1 : Int) := of_decide_eq_true (by first | (with_reducible assumption) | assumption)
      have q303 : x6_1 < (l0.length : Int) := of_decide_eq_true (by first | (with_reducible assumption) | assumption)
      obtain ⟨ad303, e303, hx303_0, hx303_1⟩ := at_T82 HR0.out x6_1 p303 q303
      cases e303
      replace hx303_0 := (HB.out.cell (World.block_lt_of_cell? w _ hx303_0)).trans hx303_0
      replace hx303_1 := (HB.out.cell (World.block_lt_of_cell? w _ hx303_1)).trans hx303_1
      replace p303 := eq_true p303
      replace q303 := eq_true q303
      go_wp2
      go_roundg k1
      case measure => have := HK1.out; omega
      case rel => exact ⟨(x5_1), (wrap64 (x6_1 + 1)), (by first | rfl | (simp; done) | (simp [*]; done)), H', ⟨by have := HK1.out; omega⟩, ⟨by (with_reducible repeat (first | apply Kd.R_alloc | apply Kd.R_drewN | apply Kd.R_drew)); exact HO_5.out⟩, ⟨by repeat (first | (with_reducible first | exact HB.out | apply below_alloc | apply pw_below_drewN | apply below_drew1) | exact HB.out)⟩⟩
    ·
     rw [if_neg c4] at H
     exact absurd H (by simp)
   ·
    rw [if_neg c3] at H
    have c3b0 : decide (x6_1 < (l0.length : Int)) = false := decide_eq_false c3
    clear c3
    obtain rfl := Option.some.inj H
    go_wp2
    go_ret
    exact ⟨_, by first | rfl | (simp [errW_none, errW_some] <;> rfl) | (simp [*, errW_none, errW_some] <;> rfl), by (with_reducible repeat (first | apply Kd.R_alloc | apply Kd.R_drewN | apply Kd.R_drew)); exact HO_5.out, by repeat (first | (with_reducible first | exact HB.out | apply below_alloc | apply pw_below_drewN | apply below_drew1) | exact HB.out)⟩

def exequaturref10_Texts.l0 : Nat → List ByteArray → List ByteArray → Int → Option (Bool)
 | 0, _, _, _ => none
 | k + 1, x0, x1, x5 => if x5 < (x0.length : Int) then (if 0 ≤ x5 then (if x5 < (x1.length : Int) then (if (rdOf ByteArray.empty x0 x5).toList = (rdOf ByteArray.empty x1 x5).toList then (exequaturref10_Texts.l0 k x0 x1 (wrap64 (x5 + 1))) else (some false)) else (none)) else (none)) else (some true)
def exequaturref10_Texts.f (k : Nat) (l0 : List ByteArray) (l1 : List ByteArray) : Option (Bool) := if (l0.length : Int) = (l1.length : Int) then (exequaturref10_Texts.l0 k l0 l1 0) else (some false)
theorem exequaturref10_Texts.mono_l : ∀ k, (∀ y0 y1 y2, LeO (exequaturref10_Texts.l0 k y0 y1 y2) (exequaturref10_Texts.l0 (k + 1) y0 y1 y2))
 | 0 => fun _ _ _ r h => by simp [exequaturref10_Texts.l0] at h
 | k + 1 => by
  have ih0 := exequaturref10_Texts.mono_l k
  ·
   intro y0 y1 y2
   unfold exequaturref10_Texts.l0
   repeat' first
   | (with_reducible exact ih0 _ _ _)
   | (with_reducible exact LeO.refl _)
   | (with_reducible exact LeO.none _)
   | (with_reducible refine LeO.ite ?_ ?_)
   | (with_reducible refine LeO.bind ?_ (fun _ => ?_))
   | exact ih0 _ _ _
   | exact LeO.none _
   | refine LeO.ite ?_ ?_
   | refine LeO.bind ?_ (fun _ => ?_)
theorem exequaturref10_Texts.mono : ∀ a0 a1 k, LeO (exequaturref10_Texts.f k a0 a1) (exequaturref10_Texts.f (k + 1) a0 a1) := by
 intro a0 a1 k
 have ih0 := exequaturref10_Texts.mono_l k
 unfold exequaturref10_Texts.f
 repeat' first
   | (with_reducible exact ih0 _ _ _)
   | (with_reducible exact LeO.refl _)
   | (with_reducible exact LeO.none _)
   | (with_reducible refine LeO.ite ?_ ?_)
   | (with_reducible refine LeO.bind ?_ (fun _ => ?_))
   | exact ih0 _ _ _
   | exact LeO.none _
   | refine LeO.ite ?_ ?_
   | refine LeO.bind ?_ (fun _ => ?_)
set_option maxHeartbeats 8000000 in
set_option maxRecDepth 100000 in
theorem exequaturref10_Texts.calls (k : Nat) (A0 : Option Addr) (c0 : Nat) (l0 : List ByteArray) (A1 : Option Addr) (c1 : Nat) (l1 : List ByteArray) (r : Bool) (w : World) (hr0 : Kd.C Kd.string w A0 l0.length l0) (hc0 : l0.length ≤ c0) (hr1 : Kd.C Kd.string w A1 l1.length l1) (hc1 : l1.length ≤ c1) (h : exequaturref10_Texts.f k l0 l1 = some r) :
  Calls Tryz.prog 97 #[.slice A0 l0.length c0, .slice A1 l1.length c1] w fun e w' => e = .returned (.bool r) ∧ Drawn0 w w' := by
 have HR0 := Aside0.mk hr0
 have HC0 := Aside0.mk hc0
 clear hr0 hc0
 have HR1 := Aside0.mk hr1
 have HC1 := Aside0.mk hc1
 clear hr1 hc1
 have H : (if (l0.length : Int) = (l1.length : Int) then (exequaturref10_Texts.l0 k l0 l1 0) else (some false)) = some r := h
 clear h
 by_cases c3 : (l0.length : Int) = (l1.length : Int)
 ·
  rw [if_pos c3] at H
  have c3b0 : ((l0.length : Int) == (l1.length : Int)) = true := beq_iff_eq.mpr c3
  have c3b1 : ((l0.length : Int) != (l1.length : Int)) = false := bne_eq_false_iff_eq.mpr c3
  have c3b2 : (l0.length == l1.length) = true := by first | simpa using c3 | (simp at c3 ⊢; omega)
  clear c3
  have H' := Aside0.mk H
  clear H
  go_enter Tryz.func97, Tryz.ntmps97
  go_wp2
  repeat (go_quiet (fail); try go_wp2)
  go_loopg [5] k (fun kq v5 w' => ∃ (x5_1 : Int), v5 = .int .i64 x5_1 ∧ Aside0 (exequaturref10_Texts.l0 kq l0 l1 x5_1 = some r) ∧ Aside0 (kq ≤ k) ∧ Drawn0 w w')
  case atStart => exact ⟨(0), (by first | rfl | (simp; done) | (simp [*]; done)), H', ⟨Nat.le_refl _⟩, by repeat (first | exact Drawn0.refl _ | apply Drawn0.step)⟩
  case round =>
   clear H'
   try clear c1
   try clear p2
   try clear c3
   try clear c3b0
   try clear c3b1
   try clear c3b2
   obtain ⟨x5_1, rfl, HA, HK1, ⟨m1, rfl⟩⟩ := hrel
   cases gk with
   | zero => exact absurd HA.out (by simp [exequaturref10_Texts.l0])
   | succ k1 =>
    have H := HA.out
    clear HA
    simp only [exequaturref10_Texts.l0] at H
    by_cases c4 : x5_1 < (l0.length : Int)
    ·
     rw [if_pos c4] at H
     have c4b0 : decide (x5_1 < (l0.length : Int)) = true := decide_eq_true c4
     clear c4
     by_cases c5 : 0 ≤ x5_1
     ·
      rw [if_pos c5] at H
      have c5b0 : decide (0 ≤ x5_1) = true := decide_eq_true c5
      clear c5
      by_cases c6 : x5_1 < (l1.length : Int)
      ·
       rw [if_pos c6] at H
       have c6b0 : decide (x5_1 < (l1.length : Int)) = true := decide_eq_true c6
       clear c6
       by_cases c7 : (rdOf ByteArray.empty l0 x5_1).toList = (rdOf ByteArray.empty l1 x5_1).toList
       ·
        rw [if_pos c7] at H
        have c7b0 : ((rdOf ByteArray.empty l0 x5_1).toList == (rdOf ByteArray.empty l1 x5_1).toList) = true := beq_iff_eq.mpr c7
        have c7b1 : ((rdOf ByteArray.empty l0 x5_1).toList != (rdOf ByteArray.empty l1 x5_1).toList) = false := bne_eq_false_iff_eq.mpr c7
        clear c7
        have H' := Aside0.mk H
        clear H
        have p309 : 0 ≤ (x5_1 : Int) := of_decide_eq_true (by first | (with_reducible assumption) | assumption)
        have q309 : x5_1 < (l0.length : Int) := of_decide_eq_true (by first | (with_reducible assumption) | assumption)
        obtain ⟨ad309, e309, hx309_0⟩ := Kd.at_string HR0.out x5_1 p309 q309
        cases e309
        replace p309 := eq_true p309
        replace q309 := eq_true q309
        have p310 : 0 ≤ (x5_1 : Int) := of_decide_eq_true (by first | (with_reducible assumption) | assumption)
        have q310 : x5_1 < (l1.length : Int) := of_decide_eq_true (by first | (with_reducible assumption) | assumption)
        obtain ⟨ad310, e310, hx310_0⟩ := Kd.at_string HR1.out x5_1 p310 q310
        cases e310
        replace p310 := eq_true p310
        replace q310 := eq_true q310
        go_wp2
        repeat (go_quiet (fail); try go_wp2)
        go_roundg k1
        case measure => have := HK1.out; omega
        case rel => exact ⟨(wrap64 (x5_1 + 1)), (by first | rfl | (simp; done) | (simp [*]; done)), H', ⟨by have := HK1.out; omega⟩, by repeat (first | exact Drawn0.refl _ | apply Drawn0.step)⟩
       ·
        rw [if_neg c7] at H
        have c7b0 : ((rdOf ByteArray.empty l0 x5_1).toList == (rdOf ByteArray.empty l1 x5_1).toList) = false := beq_eq_false_iff_ne.mpr c7
        have c7b1 : ((rdOf ByteArray.empty l0 x5_1).toList != (rdOf ByteArray.empty l1 x5_1).toList) = true := bne_iff_ne.mpr c7
        obtain rfl := Option.some.inj H
        have p309 : 0 ≤ (x5_1 : Int) := of_decide_eq_true (by first | (with_reducible assumption) | assumption)
        have q309 : x5_1 < (l0.length : Int) := of_decide_eq_true (by first | (with_reducible assumption) | assumption)
        obtain ⟨ad309, e309, hx309_0⟩ := Kd.at_string HR0.out x5_1 p309 q309
        cases e309
        replace p309 := eq_true p309
        replace q309 := eq_true q309
        have p310 : 0 ≤ (x5_1 : Int) := of_decide_eq_true (by first | (with_reducible assumption) | assumption)
        have q310 : x5_1 < (l1.length : Int) := of_decide_eq_true (by first | (with_reducible assumption) | assumption)
        obtain ⟨ad310, e310, hx310_0⟩ := Kd.at_string HR1.out x5_1 p310 q310
        cases e310
        replace p310 := eq_true p310
        replace q310 := eq_true q310
        go_wp2
        repeat (go_quiet (fail); try go_wp2)
        go_ret
        exact ⟨by first | rfl | (simp; done) | (simp [*]; done), by repeat (first | exact Drawn0.refl _ | apply Drawn0.step)⟩
      ·
       rw [if_neg c6] at H
       exact absurd H (by simp)
     ·
      rw [if_neg c5] at H
      exact absurd H (by simp)
    ·
     rw [if_neg c4] at H
     have c4b0 : decide (x5_1 < (l0.length : Int)) = false := decide_eq_false c4
     clear c4
     obtain rfl := Option.some.inj H
     go_wp2
     repeat (go_quiet (fail); try go_wp2)
     go_ret
     exact ⟨by first | rfl | (simp; done) | (simp [*]; done), by repeat (first | exact Drawn0.refl _ | apply Drawn0.step)⟩
 ·
  rw [if_neg c3] at H
  have c3b0 : ((l0.length : Int) == (l1.length : Int)) = false := beq_eq_false_iff_ne.mpr c3
  have c3b1 : ((l0.length : Int) != (l1.length : Int)) = true := bne_iff_ne.mpr c3
  have c3b2 : (l0.length == l1.length) = false := by first | simpa using c3 | (simp at c3 ⊢; omega)
  obtain rfl := Option.some.inj H
  go_enter Tryz.func97, Tryz.ntmps97
  go_wp2
  repeat (go_quiet (fail); try go_wp2)
  go_ret
  exact ⟨by first | rfl | (simp; done) | (simp [*]; done), by repeat (first | exact Drawn0.refl _ | apply Drawn0.step)⟩

-- NOT PRINTED: function 27 (exequaturlaw12_same)

-- NOT PRINTED: function 29 (tape_Tape_Sure)

-- NOT PRINTED: function 3 (exequaturlaw12_StorePlays)

-- NOT PRINTED: function 30 (exequaturlaw15_stored)

-- NOT PRINTED: function 201 (strconv_small)

-- NOT PRINTED: function 221 (strconv_log10Pow2)

-- NOT PRINTED: function 222 (strconv_bool2_int)

-- NOT PRINTED: function 202 (strconv_numDigits)

-- NOT PRINTED: function 203 (strconv_formatBase10)

-- NOT PRINTED: function 223 (strconv_isPowerOfTwo)

-- NOT PRINTED: function 234 (bits_TrailingZeros32)

-- NOT PRINTED: function 235 (bits_TrailingZeros64)

-- NOT PRINTED: function 224 (bits_TrailingZeros)

-- NOT PRINTED: function 204 (strconv_formatBits)

-- NOT PRINTED: function 179 (strconv_FormatInt)

-- NOT PRINTED: function 165 (strconv_Itoa_165)

end Go.Proofs.YtpoblffgclmmlaaGreatDoor.Q
end
