/- A part of the proof of a card: what some functions of the program come to, each under the conditions that its theorem names. -/
import Derived.Shelf.SlSorted.Search
import Derived.Test.YtpoblffgclmmlaaGreatDoorPkPk11
section
namespace Go.Proofs.YtpoblffgclmmlaaGreatDoor.Q
open Go.RowKit Go.Proofs.YtpoblffgclmmlaaGreatDoorW.PrintWords Go.Proofs.YtpoblffgclmmlaaGreatDoorW.PrintLast Go.Proofs.YtpoblffgclmmlaaGreatDoorW.PrintMore
attribute [local go_sem] max2_int min2_int max_two min_two max_three min_three max_four min_four   -- for this text's walks alone
open Go.Proofs.YtpoblffgclmmlaaGreatDoor.X
set_option linter.unusedVariables false
set_option linter.unusedSimpArgs false

def exequaturref10_Rows_Keys.l0 : Nat → List (S82) → ByteArray → List ByteArray → Int → Option (List ByteArray)
 | 0, _, _, _, _ => none
 | k + 1, x0, x1, x5, x6 => if x6 < (x0.length : Int) then (if 0 ≤ x6 then (if (((rd_T82 x0 x6).f0).size : Int) ≥ (x1.size : Int) then (if 0 ≤ (x1.size : Int) then (if (x1.size : Int) ≤ (((rd_T82 x0 x6).f0).size : Int) then (if (((rd_T82 x0 x6).f0).extract 0 x1.size).toList = x1.toList then (if x5.length < 8796093022208 then (exequaturref10_Rows_Keys.l0 k x0 x1 (x5 ++ [(rd_T82 x0 x6).f0]) (wrap64 (x6 + 1))) else (none)) else (exequaturref10_Rows_Keys.l0 k x0 x1 x5 (wrap64 (x6 + 1)))) else (none)) else (none)) else (exequaturref10_Rows_Keys.l0 k x0 x1 x5 (wrap64 (x6 + 1)))) else (none)) else (some x5)
def exequaturref10_Rows_Keys.f (k : Nat) (l0 : List (S82)) (a1 : ByteArray) : Option (List ByteArray) := exequaturref10_Rows_Keys.l0 k l0 a1 ([] : List ByteArray) 0
theorem exequaturref10_Rows_Keys.mono_l : ∀ k, (∀ y0 y1 y2 y3, LeO (exequaturref10_Rows_Keys.l0 k y0 y1 y2 y3) (exequaturref10_Rows_Keys.l0 (k + 1) y0 y1 y2 y3))
 | 0 => fun _ _ _ _ r h => by simp [exequaturref10_Rows_Keys.l0] at h
 | k + 1 => by
  have ih0 := exequaturref10_Rows_Keys.mono_l k
  ·
   intro y0 y1 y2 y3
   unfold exequaturref10_Rows_Keys.l0
   repeat' first
   | (with_reducible exact ih0 _ _ _ _)
   | (with_reducible exact LeO.refl _)
   | (with_reducible exact LeO.none _)
   | (with_reducible refine LeO.ite ?_ ?_)
   | (with_reducible refine LeO.bind ?_ (fun _ => ?_))
   | exact ih0 _ _ _ _
   | exact LeO.none _
   | refine LeO.ite ?_ ?_
   | refine LeO.bind ?_ (fun _ => ?_)
theorem exequaturref10_Rows_Keys.mono : ∀ a0 a1 k, LeO (exequaturref10_Rows_Keys.f k a0 a1) (exequaturref10_Rows_Keys.f (k + 1) a0 a1) := by
 intro a0 a1 k
 have ih0 := exequaturref10_Rows_Keys.mono_l k
 unfold exequaturref10_Rows_Keys.f
 repeat' first
   | (with_reducible exact ih0 _ _ _ _)
   | (with_reducible exact LeO.refl _)
   | (with_reducible exact LeO.none _)
   | (with_reducible refine LeO.ite ?_ ?_)
   | (with_reducible refine LeO.bind ?_ (fun _ => ?_))
   | exact ih0 _ _ _ _
   | exact LeO.none _
   | refine LeO.ite ?_ ?_
   | refine LeO.bind ?_ (fun _ => ?_)
set_option maxHeartbeats 8000000 in
set_option maxRecDepth 100000 in
theorem exequaturref10_Rows_Keys.calls (k : Nat) (A0 : Option Addr) (c0 : Nat) (l0 : List (S82)) (a1 : ByteArray) (r : List ByteArray) (w : World) (hr0 : Kd.C k82 w A0 l0.length l0) (hc0 : l0.length ≤ c0) (h : exequaturref10_Rows_Keys.f k l0 a1 = some r) :
  Calls Tryz.prog 52 #[.slice A0 l0.length c0, .string a1] w fun e w' => ∃ v0_ : Value, e = .returned (v0_) ∧ Kd.R Kd.string 9 w' w.heap.size (fun _ => True) v0_ r ∧ Below w.heap.size w w' := by
 have HR0 := Aside0.mk hr0
 have HC0 := Aside0.mk hc0
 clear hr0 hc0
 have HB := Aside0.mk (Below.refl w.heap.size w)
 have H : (exequaturref10_Rows_Keys.l0 k l0 a1 ([] : List ByteArray) 0) = some r := h
 clear h
 have H' := Aside0.mk H
 clear H
 go_enter Tryz.func52, Tryz.ntmps52
 go_wp2
 go_loopg [5, 6] k (fun kq v5 v6 w' => ∃ (x5_1 : List ByteArray) (x6_1 : Int), v6 = .int .i64 x6_1 ∧ Aside0 (exequaturref10_Rows_Keys.l0 kq l0 a1 x5_1 x6_1 = some r) ∧ Aside0 (kq ≤ k) ∧ Aside0 (Kd.R Kd.string 9 w' w.heap.size (fun _ => True) v5 x5_1) ∧ Aside0 (Below w.heap.size w w'))
 case atStart => exact ⟨(([] : List ByteArray)), (0), (by first | rfl | (simp; done) | (simp [*]; done)), H', ⟨Nat.le_refl _⟩, ⟨by first | exact Kd.R_nil _ _ _ _ _ | exact Kd.N_nil _ _ _ _ _ | exact Kd.V_nil _ _ _ _ _ | exact Kd.Q_nil _ _ _ _ _ | exact Kd.S_nil _ _ _ _ _⟩, ⟨by repeat (first | (with_reducible first | exact HB.out | apply below_alloc | apply pw_below_drewN | apply below_drew1) | exact HB.out)⟩⟩
 case round =>
  clear H'
  try clear p2
  obtain ⟨x5_1, x6_1, rfl, HA, HK1, HO_5, HB⟩ := hrel
  cases gk with
  | zero => exact absurd HA.out (by simp [exequaturref10_Rows_Keys.l0])
  | succ k1 =>
   have H := HA.out
   clear HA
   simp only [exequaturref10_Rows_Keys.l0] at H
   by_cases c3 : x6_1 < (l0.length : Int)
   ·
    rw [if_pos c3] at H
    have c3b0 : decide (x6_1 < (l0.length : Int)) = true := decide_eq_true c3
    clear c3
    by_cases c4 : 0 ≤ x6_1
    ·
     rw [if_pos c4] at H
     have c4b0 : decide (0 ≤ x6_1) = true := decide_eq_true c4
     clear c4
     by_cases c5 : (((rd_T82 l0 x6_1).f0).size : Int) ≥ (a1.size : Int)
     ·
      rw [if_pos c5] at H
      have c5b0 : decide ((a1.size : Int) ≤ (((rd_T82 l0 x6_1).f0).size : Int)) = true := decide_eq_true c5
      have c5b1 : decide (a1.size ≤ ((rd_T82 l0 x6_1).f0).size) = true := decide_eq_true (Int.ofNat_le.mp c5)
      clear c5
      by_cases c6 : 0 ≤ (a1.size : Int)
      ·
       rw [if_pos c6] at H
       have c6b0 := eq_true c6
       have c6b1 : decide (0 ≤ (a1.size : Int)) = true := decide_eq_true c6
       clear c6
       by_cases c7 : (a1.size : Int) ≤ (((rd_T82 l0 x6_1).f0).size : Int)
       ·
        rw [if_pos c7] at H
        have c7b0 := eq_true c7
        have c7b1 : decide ((a1.size : Int) ≤ (((rd_T82 l0 x6_1).f0).size : Int)) = true := decide_eq_true c7
        clear c7
        by_cases c8 : (((rd_T82 l0 x6_1).f0).extract 0 a1.size).toList = a1.toList
        ·
         rw [if_pos c8] at H
         have c8b0 : ((((rd_T82 l0 x6_1).f0).extract 0 a1.size).toList == a1.toList) = true := beq_iff_eq.mpr c8
         have c8b1 : ((((rd_T82 l0 x6_1).f0).extract 0 a1.size).toList != a1.toList) = false := bne_eq_false_iff_eq.mpr c8
         clear c8
         by_cases c9 : x5_1.length < 8796093022208
         ·
          rw [if_pos c9] at H
          have LMc9 := Aside0.mk c9
          clear c9
          obtain ⟨y306, hy306⟩ : ∃ y_ : List ByteArray, y_ = (x5_1 ++ [(rd_T82 l0 x6_1).f0]) := ⟨_, rfl⟩
          replace H : (exequaturref10_Rows_Keys.l0 k1 l0 a1 y306 (wrap64 (x6_1 + 1))) = some r := by first | (rw [hy306]; with_reducible exact H) | (have H2_ := (Option.bind_some _ _).symm.trans H; rw [hy306]; with_reducible exact H2_) | (have H2_ := (Option.bind_some _ _).symm.trans H; with_reducible exact H2_) | with_reducible exact H | (rw [hy306]; exact H) | exact H
          have Ny306 := Aside0.mk hy306
          clear hy306
          have H' := Aside0.mk H
          clear H
          have p303 : 0 ≤ (x6_1 : Int) := of_decide_eq_true (by first | (with_reducible assumption) | assumption)
          have q303 : x6_1 < (l0.length : Int) := of_decide_eq_true (by first | (with_reducible assumption) | assumption)
          obtain ⟨ad303, e303, hx303_0, hx303_1⟩ := at_T82 HR0.out x6_1 p303 q303
          cases e303
          replace hx303_0 := (HB.out.cell (World.block_lt_of_cell? w _ hx303_0)).trans hx303_0
          replace hx303_1 := (HB.out.cell (World.block_lt_of_cell? w _ hx303_1)).trans hx303_1
          replace p303 := eq_true p303
          replace q303 := eq_true q303
          have p304 : 0 ≤ (x6_1 : Int) := of_decide_eq_true (by first | (with_reducible assumption) | assumption)
          have q304 : x6_1 < (l0.length : Int) := of_decide_eq_true (by first | (with_reducible assumption) | assumption)
          obtain ⟨ad304, e304, hx304_0, hx304_1⟩ := at_T82 HR0.out x6_1 p304 q304
          obtain rfl : ad303 = ad304 := (by injection e304)
          replace hx304_0 := (HB.out.cell (World.block_lt_of_cell? w _ hx304_0)).trans hx304_0
          replace hx304_1 := (HB.out.cell (World.block_lt_of_cell? w _ hx304_1)).trans hx304_1
          replace p304 := eq_true p304
          replace q304 := eq_true q304
          have p305 : 0 ≤ (x6_1 : Int) := of_decide_eq_true (by first | (with_reducible assumption) | assumption)
          have q305 : x6_1 < (l0.length : Int) := of_decide_eq_true (by first | (with_reducible assumption) | assumption)
          obtain ⟨ad305, e305, hx305_0, hx305_1⟩ := at_T82 HR0.out x6_1 p305 q305
          obtain rfl : ad303 = ad305 := (by injection e305)
          replace hx305_0 := (HB.out.cell (World.block_lt_of_cell? w _ hx305_0)).trans hx305_0
          replace hx305_1 := (HB.out.cell (World.block_lt_of_cell? w _ hx305_1)).trans hx305_1
          replace p305 := eq_true p305
          replace q305 := eq_true q305
          go_wp2_with (first | ((with_reducible refine gate_builtin (b := .append) (xs := #[.tmp 34, .tmp 40]) rfl ?_); (try (refine gate_guard (by rfl) ?_; dsimp only)); at_builtin; refine Kd.R_append Kd.string (w0 := w) w.heap.size rfl (.tmp 34) (.tmp 40) 88 9 (.string ⟨#[]⟩) 16 rfl Tryz.underlying88 info9 rfl (by decide) (by omega) u5 x5_1 ((rd_T82 l0 x6_1).f0) [.string ((rd_T82 l0 x6_1).f0)] (fun _ => True) (fun _ => False) rfl rfl ?aP (fun _ hk => hk.elim) ?aF ?aO ?aB ?aS ?aL ?_; (case aP => exact rfl); (case aB => exact (by repeat (first | (with_reducible first | exact HB.out | apply below_alloc | apply pw_below_drewN | apply below_drew1) | exact HB.out))); (case aF => exact (fun _ _ => trivial)); (case aO => exact (by (with_reducible repeat (first | apply Kd.R_alloc | apply Kd.R_drewN | apply Kd.R_drew)); exact HO_5.out)); (case aS => exact (below_size (by repeat (first | (with_reducible first | exact HB.out | apply below_alloc | apply pw_below_drewN | apply below_drew1) | exact HB.out)))); (case aL => have := LMc9.out; omega); intro v307 w10 ho hb hg hat; rw [← Ny306.out] at ho; have n0_ := Aside0.mk (hb); have n1_ := Aside0.mk (ho); clear HB; clear HO_5; have HB := n0_; have HO308 := n1_; clear n0_ n1_; clear ho hb hg hat))
          go_roundg k1
          case measure => have := HK1.out; omega
          case rel => exact ⟨(y306), (wrap64 (x6_1 + 1)), (by first | rfl | (simp; done) | (simp [*]; done)), H', ⟨by have := HK1.out; omega⟩, ⟨by (with_reducible repeat (first | apply Kd.R_alloc | apply Kd.R_drewN | apply Kd.R_drew)); exact HO308.out⟩, ⟨by repeat (first | (with_reducible first | exact HB.out | apply below_alloc | apply pw_below_drewN | apply below_drew1) | exact HB.out)⟩⟩
         ·
          rw [if_neg c9] at H
          exact absurd H (by simp)
        ·
         rw [if_neg c8] at H
         have c8b0 : ((((rd_T82 l0 x6_1).f0).extract 0 a1.size).toList == a1.toList) = false := beq_eq_false_iff_ne.mpr c8
         have c8b1 : ((((rd_T82 l0 x6_1).f0).extract 0 a1.size).toList != a1.toList) = true := bne_iff_ne.mpr c8
         have H' := Aside0.mk H
         clear H
         have p303 : 0 ≤ (x6_1 : Int) := of_decide_eq_true (by first | (with_reducible assumption) | assumption)
         have q303 : x6_1 < (l0.length : Int) := of_decide_eq_true (by first | (with_reducible assumption) | assumption)
         obtain ⟨ad303, e303, hx303_0, hx303_1⟩ := at_T82 HR0.out x6_1 p303 q303
         cases e303
         replace hx303_0 := (HB.out.cell (World.block_lt_of_cell? w _ hx303_0)).trans hx303_0
         replace hx303_1 := (HB.out.cell (World.block_lt_of_cell? w _ hx303_1)).trans hx303_1
         replace p303 := eq_true p303
         replace q303 := eq_true q303
         have p304 : 0 ≤ (x6_1 : Int) := of_decide_eq_true (by first | (with_reducible assumption) | assumption)
         have q304 : x6_1 < (l0.length : Int) := of_decide_eq_true (by first | (with_reducible assumption) | assumption)
         obtain ⟨ad304, e304, hx304_0, hx304_1⟩ := at_T82 HR0.out x6_1 p304 q304
         obtain rfl : ad303 = ad304 := (by injection e304)
         replace hx304_0 := (HB.out.cell (World.block_lt_of_cell? w _ hx304_0)).trans hx304_0
         replace hx304_1 := (HB.out.cell (World.block_lt_of_cell? w _ hx304_1)).trans hx304_1
         replace p304 := eq_true p304
         replace q304 := eq_true q304
         go_wp2
         go_roundg k1
         case measure => have := HK1.out; omega
         case rel => exact ⟨(x5_1), (wrap64 (x6_1 + 1)), (by first | rfl | (simp; done) | (simp [*]; done)), H', ⟨by have := HK1.out; omega⟩, ⟨by (with_reducible repeat (first | apply Kd.R_alloc | apply Kd.R_drewN | apply Kd.R_drew)); exact HO_5.out⟩, ⟨by repeat (first | (with_reducible first | exact HB.out | apply below_alloc | apply pw_below_drewN | apply below_drew1) | exact HB.out)⟩⟩
       ·
        rw [if_neg c7] at H
        exact absurd H (by simp)
      ·
       rw [if_neg c6] at H
       exact absurd H (by simp)
     ·
      rw [if_neg c5] at H
      have c5b0 : decide ((a1.size : Int) ≤ (((rd_T82 l0 x6_1).f0).size : Int)) = false := decide_eq_false c5
      have c5b1 : decide (a1.size ≤ ((rd_T82 l0 x6_1).f0).size) = false := decide_eq_false (fun h => c5 (Int.ofNat_le.mpr h))
      clear c5
      have H' := Aside0.mk H
      clear H
      have p303 : 0 ≤ (x6_1 : Int) := of_decide_eq_true (by first | (with_reducible assumption) | assumption)
      have q303 : x6_1 < (l0.length : Int) := of_decide_eq_true (by first | (with_reducible assumption) | assumption)
      obtain ⟨ad303, e303, hx303_0, hx303_1⟩ := at_T82 HR0.out x6_1 p303 q303
      cases e303
      replace hx303_0 := (HB.out.cell (World.block_lt_of_cell? w _ hx303_0)).trans hx303_0
      replace hx303_1 := (HB.out.cell (World.block_lt_of_cell? w _ hx303_1)).trans hx303_1
      replace p303 := eq_true p303
      replace q303 := eq_true q303
      go_wp2
      go_roundg k1
      case measure => have := HK1.out; omega
      case rel => exact ⟨(x5_1), (wrap64 (x6_1 + 1)), (by first | rfl | (simp; done) | (simp [*]; done)), H', ⟨by have := HK1.out; omega⟩, ⟨by (with_reducible repeat (first | apply Kd.R_alloc | apply Kd.R_drewN | apply Kd.R_drew)); exact HO_5.out⟩, ⟨by repeat (first | (with_reducible first | exact HB.out | apply below_alloc | apply pw_below_drewN | apply below_drew1) | exact HB.out)⟩⟩
    ·
     rw [if_neg c4] at H
     exact absurd H (by simp)
   ·
    rw [if_neg c3] at H
    have c3b0 : decide (x6_1 < (l0.length : Int)) = false := decide_eq_false c3
    clear c3
    obtain rfl := Option.some.inj H
    go_wp2
    go_ret
    exact ⟨_, by first | rfl | (simp [errW_none, errW_some] <;> rfl) | (simp [*, errW_none, errW_some] <;> rfl), by (with_reducible repeat (first | apply Kd.R_alloc | apply Kd.R_drewN | apply Kd.R_drew)); exact HO_5.out, by repeat (first | (with_reducible first | exact HB.out | apply below_alloc | apply pw_below_drewN | apply below_drew1) | exact HB.out)⟩

def strconv_Itoa_143.f (a0 : Int) : Option (ByteArray) := if -9223372036854775808 ≤ a0 ∧ a0 ≤ 9223372036854775807 then some ⟨(Lib.itoa a0).toArray⟩ else none
theorem strconv_Itoa_143.calls (a0 : Int) (r : ByteArray) (w : World) (h : strconv_Itoa_143.f a0 = some r) (hGP : GP w) :
  Calls Tryz.prog 143 #[.int .i64 a0] w fun e w' => e = .returned (.string r) ∧ Below w.heap.size w w' := by
 unfold strconv_Itoa_143.f at h
 split at h
 case isTrue hs =>
  obtain rfl := Option.some.inj h
  refine (Tryz.strconv_Itoa a0 hs.1 hs.2 w hGP).mono ?_
  rintro e w' ⟨rfl, k, os, rfl⟩
  exact ⟨rfl, below_grown_sl _ w k os (Nat.le_refl _)⟩
 case isFalse hs => exact absurd h (by simp)

theorem txs_take (l : List ByteArray) (k : Nat) (h : k < l.length) : txs (l.take (k + 1)) = txs (l.take k) ++ tx (l.getD k ByteArray.empty) := by
 rw [List.take_add_one, List.getElem?_eq_getElem h, Option.toList_some, txs_snoc]
 simp [List.getD_eq_getElem?_getD, List.getElem?_eq_getElem h]
theorem txs_take_le (l : List ByteArray) (k : Nat) : (txs (l.take k)).length ≤ (txs l).length := by
 conv => rhs; rw [← List.take_append_drop k l, txs_append, List.length_append]
 omega
set_option maxHeartbeats 2000000 in
theorem row_Texts.says (A0 : Option Addr) (c0 : Nat) (l0 : List ByteArray) (w : World) (hr0 : Kd.C Kd.string w A0 l0.length l0) (hlen : (txs l0).length ≤ 140737488355328) (hGP : GP w) :
  Calls Tryz.prog 101 #[.slice A0 l0.length c0] w fun e w' => e = .returned (.string ⟨(txs l0).toArray⟩) ∧ Below w.heap.size w w' := by
 have hll := txs_long l0
 go_enter Tryz.func101, Tryz.ntmps101
 go_wp2
 go_loopw [8] (fun v8 wr => ∃ (k : Nat), k ≤ l0.length ∧ v8 = .int .i64 k ∧ w.heap.size ≤ wr.heap.size ∧ Lib.IsBuilderF 185 5 w.heap.size w.heap.size (Lib.byteCells (txs (l0.take k))) wr ∧ Below w.heap.size w wr) (fun v8 _ => l0.length - (intOf v8).toNat)
 case atStart =>
  exact ⟨0, by omega, rfl, by simp, Lib.IsBuilderF.of (Lib.fresh_isBuilder 185 5 w), (Below.refl _ _).alloc (Nat.le_refl _) _⟩
 case round =>
  obtain ⟨k, hk, rfl, hBw, hB, hb⟩ := hrel
  by_cases hlt : k < l0.length
  ·
   have d1 : decide ((k : Int) < (l0.length : Int)) = true := decide_eq_true (by omega)
   have HT := Lib.hid (txs_take l0 k hlt)
   have hle := txs_take_le l0 (k + 1)
   rw [txs_take l0 k hlt, List.length_append] at hle
   obtain ⟨ad, e0, hx⟩ := Kd.at_string hr0 (k : Int) (by omega) (by omega)
   cases e0
   replace hx := (hb.cell (World.block_lt_of_cell? w _ hx)).trans hx
   have hrd : rdOf ByteArray.empty l0 (k : Int) = l0.getD k ByteArray.empty := by unfold rdOf; rw [Int.toNat_natCast]
   rw [hrd] at hx
   simp only [Int.toNat_natCast] at hx
   obtain ⟨s, hs⟩ : ∃ s, s = l0.getD k ByteArray.empty := ⟨_, rfl⟩
   rw [← hs] at hx hle HT
   clear hs hrd
   have hsz : s.data.toList.length = s.size := by rw [Array.length_toList, ByteArray.size_data]
   have htx : (tx s).length = (dd s.size).length + (1 + s.size) := by unfold tx; rw [List.length_append, List.length_cons]; omega
   have hit := Lib.itoa_nonneg s.size
   have hGPr := GP.below hGP hb
   have hIt := Tryz.strconv_Itoa (s.size : Int) (by omega) (by omega) wr hGPr
   rw [hit] at hIt
   obtain ⟨t, ht⟩ : ∃ t : ByteArray, t = ⟨(Lib.decDigits s.size).toArray⟩ := ⟨_, rfl⟩
   have hts : t.size = (dd s.size).length := by rw [ht]; show (List.toArray _).size = _; simp
   rw [← ht] at hIt
   have Ht := Lib.hid ht
   have i0 : (0 ≤ (k : Int)) = True := eq_true (by omega)
   have i3 : ((k : Int) < (l0.length : Int)) = True := eq_true (by omega)
   have s1 : t.size + 1 ≤ 9223372036854775807 := by omega
   have s2 : (t ++ (⟨#[58]⟩ : ByteArray)).size + s.size ≤ 9223372036854775807 := by rw [ByteArray.size_append]; show t.size + 1 + s.size ≤ _; omega
   have s3 : ((t ++ (⟨#[58]⟩ : ByteArray)) ++ s).size = (tx s).length := by rw [ByteArray.size_append, ByteArray.size_append, htx, hts]; show _ + 1 + s.size = _; omega
   have Hl := Lib.hid hle
   have Hs3 := Lib.hid s3
   clear hle hts htx ht hit s3 hsz
   go_wp2_with fail
   refine hIt.mono ?_
   rintro e w1 ⟨rfl, q, os, rfl⟩
   have hb1 := below_grown_sl wr.heap.size wr q os (Nat.le_refl _)
   have hB0 := bldF_below hB hb1
   have hb0 := below_then hb hb.size hb1
   have hBw0 := Nat.le_trans hBw hb1.size
   clear hB hb hBw hx
   generalize Sort.grow (wr.drewN q) os = w1 at hB0 hb0 hBw0 hb1 ⊢
   go_wp2_with fail
   refine (bld_string w.heap.size w.heap.size _ _ w1 hB0 ?_ hBw0).mono ?_
   ·
    have h1 := Hl.out; have h3 := Hs3.out
    rw [Lib.byteCells_length, h3]; omega
   rintro e w2 ⟨rfl, hB1, hb2, -⟩
   go_wp2
   go_roundw
   case measure => simp [intOf]; omega
   case rel =>
    refine ⟨k + 1, by omega, by go_num, Nat.le_trans hBw0 hb2.size, .inr ?_, hb0.trans hb2⟩
    rw [HT.out]
    have e1 : Lib.byteCells (txs (l0.take k) ++ tx s) = Lib.byteCells (txs (l0.take k)) ++ Lib.strCells ((t ++ (⟨#[58]⟩ : ByteArray)) ++ s) := by
     have e2 : ((t ++ (⟨#[58]⟩ : ByteArray)) ++ s).data.toList = tx s := by
      rw [ByteArray.data_append, ByteArray.data_append, Ht.out]
      simp [tx]
     rw [Lib.strCells, e2]; simp [Lib.byteCells]
    rw [e1]
    exact hB1
  ·
   obtain rfl : k = l0.length := by omega
   have d1 : decide (((l0.length : Nat) : Int) < (l0.length : Int)) = false := decide_eq_false (by omega)
   rw [List.take_length] at hB
   go_wp2_with fail
   refine (Tryz.Builder_String_any_k w.heap.size w.heap.size _ _ hB hBw).mono ?_
   rintro e w1 ⟨rfl, -, hb1, -⟩
   go_wp2
   go_ret
   exact ⟨rfl, hb.trans hb1⟩
def row_Texts.f (l0 : List ByteArray) : Option (ByteArray) := if (txs l0).length ≤ 140737488355328 then some ⟨(txs l0).toArray⟩ else none
theorem row_Texts.calls (A0 : Option Addr) (c0 : Nat) (l0 : List ByteArray) (r : ByteArray) (w : World) (hr0 : Kd.C Kd.string w A0 l0.length l0) (hc0 : l0.length ≤ c0) (h : row_Texts.f l0 = some r) (hGP : GP w) :
  Calls Tryz.prog 101 #[.slice A0 l0.length c0] w fun e w' => e = .returned (.string r) ∧ Below w.heap.size w w' := by
 unfold row_Texts.f at h
 split at h
 case isTrue hs =>
  obtain rfl := Option.some.inj h
  exact row_Texts.says A0 c0 l0 w hr0 hs hGP
 case isFalse hs => exact absurd h (by simp)

def exequaturref10_Rows_Get.l0 : Nat → List (S82) → ByteArray → Int → Option (Int × Bool)
 | 0, _, _, _ => none
 | k + 1, x0, x1, x6 => if x6 < (x0.length : Int) then (if 0 ≤ x6 then (if ((rd_T82 x0 x6).f0).toList = x1.toList then (some (x6, true)) else (exequaturref10_Rows_Get.l0 k x0 x1 (wrap64 (x6 + 1)))) else (none)) else (some (0, false))
def exequaturref10_Rows_Get.f (k : Nat) (l0 : List (S82)) (a1 : ByteArray) : Option (Int × Bool) := exequaturref10_Rows_Get.l0 k l0 a1 0
theorem exequaturref10_Rows_Get.mono_l : ∀ k, (∀ y0 y1 y2, LeO (exequaturref10_Rows_Get.l0 k y0 y1 y2) (exequaturref10_Rows_Get.l0 (k + 1) y0 y1 y2))
 | 0 => fun _ _ _ r h => by simp [exequaturref10_Rows_Get.l0] at h
 | k + 1 => by
  have ih0 := exequaturref10_Rows_Get.mono_l k
  ·
   intro y0 y1 y2
   unfold exequaturref10_Rows_Get.l0
   repeat' first
   | (with_reducible exact ih0 _ _ _)
   | (with_reducible exact LeO.refl _)
   | (with_reducible exact LeO.none _)
   | (with_reducible refine LeO.ite ?_ ?_)
   | (with_reducible refine LeO.bind ?_ (fun _ => ?_))
   | exact ih0 _ _ _
   | exact LeO.none _
   | refine LeO.ite ?_ ?_
   | refine LeO.bind ?_ (fun _ => ?_)
theorem exequaturref10_Rows_Get.mono : ∀ a0 a1 k, LeO (exequaturref10_Rows_Get.f k a0 a1) (exequaturref10_Rows_Get.f (k + 1) a0 a1) := by
 intro a0 a1 k
 have ih0 := exequaturref10_Rows_Get.mono_l k
 unfold exequaturref10_Rows_Get.f
 repeat' first
   | (with_reducible exact ih0 _ _ _)
   | (with_reducible exact LeO.refl _)
   | (with_reducible exact LeO.none _)
   | (with_reducible refine LeO.ite ?_ ?_)
   | (with_reducible refine LeO.bind ?_ (fun _ => ?_))
   | exact ih0 _ _ _
   | exact LeO.none _
   | refine LeO.ite ?_ ?_
   | refine LeO.bind ?_ (fun _ => ?_)
set_option maxHeartbeats 8000000 in
set_option maxRecDepth 100000 in
theorem exequaturref10_Rows_Get.calls (k : Nat) (A0 : Option Addr) (c0 : Nat) (l0 : List (S82)) (a1 : ByteArray) (r1 : Int) (r2 : Bool) (w : World) (hr0 : Kd.C k82 w A0 l0.length l0) (hc0 : l0.length ≤ c0) (h : exequaturref10_Rows_Get.f k l0 a1 = some (r1, r2)) :
  Calls Tryz.prog 99 #[.slice A0 l0.length c0, .string a1] w fun e w' => e = .returned (.tuple #[.int .i64 r1, .bool r2]) ∧ Drawn0 w w' := by
 have HR0 := Aside0.mk hr0
 have HC0 := Aside0.mk hc0
 clear hr0 hc0
 have H : (exequaturref10_Rows_Get.l0 k l0 a1 0) = some (r1, r2) := h
 clear h
 have H' := Aside0.mk H
 clear H
 go_enter Tryz.func99, Tryz.ntmps99
 go_wp2
 go_loopg [6] k (fun kq v6 w' => ∃ (x6_1 : Int), v6 = .int .i64 x6_1 ∧ Aside0 (exequaturref10_Rows_Get.l0 kq l0 a1 x6_1 = some (r1, r2)) ∧ Aside0 (kq ≤ k) ∧ Drawn0 w w')
 case atStart => exact ⟨(0), (by first | rfl | (simp; done) | (simp [*]; done)), H', ⟨Nat.le_refl _⟩, by repeat (first | exact Drawn0.refl _ | apply Drawn0.step)⟩
 case round =>
  clear H'
  try clear p2
  obtain ⟨x6_1, rfl, HA, HK1, ⟨m1, rfl⟩⟩ := hrel
  cases gk with
  | zero => exact absurd HA.out (by simp [exequaturref10_Rows_Get.l0])
  | succ k1 =>
   have H := HA.out
   clear HA
   simp only [exequaturref10_Rows_Get.l0] at H
   by_cases c3 : x6_1 < (l0.length : Int)
   ·
    rw [if_pos c3] at H
    have c3b0 : decide (x6_1 < (l0.length : Int)) = true := decide_eq_true c3
    clear c3
    by_cases c4 : 0 ≤ x6_1
    ·
     rw [if_pos c4] at H
     have c4b0 : decide (0 ≤ x6_1) = true := decide_eq_true c4
     clear c4
     by_cases c5 : ((rd_T82 l0 x6_1).f0).toList = a1.toList
     ·
      rw [if_pos c5] at H
      have c5b0 : (((rd_T82 l0 x6_1).f0).toList == a1.toList) = true := beq_iff_eq.mpr c5
      have c5b1 : (((rd_T82 l0 x6_1).f0).toList != a1.toList) = false := bne_eq_false_iff_eq.mpr c5
      clear c5
      simp only [Option.some.injEq, Prod.mk.injEq] at H
      obtain ⟨rfl, rfl⟩ := H
      have p315 : 0 ≤ (x6_1 : Int) := of_decide_eq_true (by first | (with_reducible assumption) | assumption)
      have q315 : x6_1 < (l0.length : Int) := of_decide_eq_true (by first | (with_reducible assumption) | assumption)
      obtain ⟨ad315, e315, hx315_0, hx315_1⟩ := at_T82 HR0.out x6_1 p315 q315
      cases e315
      replace p315 := eq_true p315
      replace q315 := eq_true q315
      go_wp2
      go_ret2
      exact ⟨by first | rfl | (simp; done) | (simp [*]; done), by repeat (first | exact Drawn0.refl _ | apply Drawn0.step)⟩
     ·
      rw [if_neg c5] at H
      have c5b0 : (((rd_T82 l0 x6_1).f0).toList == a1.toList) = false := beq_eq_false_iff_ne.mpr c5
      have c5b1 : (((rd_T82 l0 x6_1).f0).toList != a1.toList) = true := bne_iff_ne.mpr c5
      have H' := Aside0.mk H
      clear H
      have p315 : 0 ≤ (x6_1 : Int) := of_decide_eq_true (by first | (with_reducible assumption) | assumption)
      have q315 : x6_1 < (l0.length : Int) := of_decide_eq_true (by first | (with_reducible assumption) | assumption)
      obtain ⟨ad315, e315, hx315_0, hx315_1⟩ := at_T82 HR0.out x6_1 p315 q315
      cases e315
      replace p315 := eq_true p315
      replace q315 := eq_true q315
      go_wp2
      go_roundg k1
      case measure => have := HK1.out; omega
      case rel => exact ⟨(wrap64 (x6_1 + 1)), (by first | rfl | (simp; done) | (simp [*]; done)), H', ⟨by have := HK1.out; omega⟩, by repeat (first | exact Drawn0.refl _ | apply Drawn0.step)⟩
    ·
     rw [if_neg c4] at H
     exact absurd H (by simp)
   ·
    rw [if_neg c3] at H
    have c3b0 : decide (x6_1 < (l0.length : Int)) = false := decide_eq_false c3
    clear c3
    simp only [Option.some.injEq, Prod.mk.injEq] at H
    obtain ⟨rfl, rfl⟩ := H
    go_wp2
    go_ret2
    exact ⟨by first | rfl | (simp; done) | (simp [*]; done), by repeat (first | exact Drawn0.refl _ | apply Drawn0.step)⟩

def exequaturref10_Rows_Value.f (k : Nat) (l0 : List (S82)) (a1 : ByteArray) : Option (ByteArray × Bool) := (exequaturref10_Rows_Get.f k l0 a1).bind fun bt316 => (if bt316.2 = true then (if 0 ≤ bt316.1 then (if bt316.1 < (l0.length : Int) then (some ((rd_T82 l0 bt316.1).f1, true)) else (none)) else (none)) else (some ((⟨#[]⟩ : ByteArray), false)))
theorem exequaturref10_Rows_Value.mono : ∀ a0 a1 k, LeO (exequaturref10_Rows_Value.f k a0 a1) (exequaturref10_Rows_Value.f (k + 1) a0 a1) := by
 intro a0 a1 k
 unfold exequaturref10_Rows_Value.f
 repeat' first
   | (with_reducible exact exequaturref10_Rows_Get.mono _ _ _)
   | (with_reducible exact LeO.refl _)
   | (with_reducible exact LeO.none _)
   | (with_reducible refine LeO.ite ?_ ?_)
   | (with_reducible refine LeO.bind ?_ (fun _ => ?_))
   | exact exequaturref10_Rows_Get.mono _ _ _
   | exact LeO.none _
   | refine LeO.ite ?_ ?_
   | refine LeO.bind ?_ (fun _ => ?_)
set_option maxHeartbeats 8000000 in
set_option maxRecDepth 100000 in
theorem exequaturref10_Rows_Value.calls (k : Nat) (A0 : Option Addr) (c0 : Nat) (l0 : List (S82)) (a1 : ByteArray) (r1 : ByteArray) (r2 : Bool) (w : World) (hr0 : Kd.C k82 w A0 l0.length l0) (hc0 : l0.length ≤ c0) (h : exequaturref10_Rows_Value.f k l0 a1 = some (r1, r2)) :
  Calls Tryz.prog 36 #[.slice A0 l0.length c0, .string a1] w fun e w' => e = .returned (.tuple #[.string r1, .bool r2]) ∧ Drawn0 w w' := by
 have HR0 := Aside0.mk hr0
 have HC0 := Aside0.mk hc0
 clear hr0 hc0
 have H : ((exequaturref10_Rows_Get.f k l0 a1).bind fun bt316 => (if bt316.2 = true then (if 0 ≤ bt316.1 then (if bt316.1 < (l0.length : Int) then (some ((rd_T82 l0 bt316.1).f1, true)) else (none)) else (none)) else (some ((⟨#[]⟩ : ByteArray), false)))) = some (r1, r2) := h
 clear h
 replace H := Option.bind_eq_some_iff.mp H
 obtain ⟨⟨t316, t317⟩, A30, H⟩ := H
 replace H : (if t317 = true then (if 0 ≤ t316 then (if t316 < (l0.length : Int) then (some ((rd_T82 l0 t316).f1, true)) else (none)) else (none)) else (some ((⟨#[]⟩ : ByteArray), false))) = some (r1, r2) := H
 have A3 := Aside0.mk A30
 clear A30
 by_cases c4 : t317 = true
 ·
  subst c4
  have H1 : (if 0 ≤ t316 then (if t316 < (l0.length : Int) then (some ((rd_T82 l0 t316).f1, true)) else (none)) else (none)) = some (r1, r2) := by rw [if_pos rfl] at H; exact H
  clear H
  have H := H1
  clear H1
  by_cases c5 : 0 ≤ t316
  ·
   rw [if_pos c5] at H
   have c5b0 : decide (0 ≤ t316) = true := decide_eq_true c5
   clear c5
   by_cases c6 : t316 < (l0.length : Int)
   ·
    rw [if_pos c6] at H
    have c6b0 : decide (t316 < (l0.length : Int)) = true := decide_eq_true c6
    clear c6
    simp only [Option.some.injEq, Prod.mk.injEq] at H
    obtain ⟨rfl, rfl⟩ := H
    go_enter Tryz.func36, Tryz.ntmps36
    go_wp2_with (first | ((with_reducible refine gate_callee (f := 99) rfl ?_); refine goesL_ (some 11) rfl rfl Tryz.func99 (by kernel_rfl) rfl #[.slice A0 l0.length c0, .string a1] rfl (by (try simp only [List.map_toArray, List.map_cons, List.map_nil]); first | done | rfl | (simp only [List.length_drop, List.length_take]; rfl)) ?_; (with_reducible refine (exequaturref10_Rows_Get.calls k _ _ l0 a1 t316 true _ ?side1 ?side2 A3.out).mono ?_); (case side1 => repeat (first | exact HR0.out | (with_reducible refine Kd.C_alloc ?_ _) | (with_reducible refine Kd.C_drewN ?_ _) | (with_reducible refine Kd.C_drew ?_))); (case side2 => exact HC0.out); rintro e w' ⟨rfl, ⟨nd, rfl⟩⟩; refine ⟨_, rfl, ?_⟩; have p318 : 0 ≤ (t316 : Int) := of_decide_eq_true (by first | (with_reducible assumption) | assumption); have q318 : t316 < (l0.length : Int) := of_decide_eq_true (by first | (with_reducible assumption) | assumption); obtain ⟨ad318, e318, hx318_0, hx318_1⟩ := at_T82 HR0.out t316 p318 q318; cases e318; replace p318 := eq_true p318; replace q318 := eq_true q318))
    go_ret2
    exact ⟨by first | rfl | (simp; done) | (simp [*]; done), by repeat (first | exact Drawn0.refl _ | apply Drawn0.step)⟩
   ·
    rw [if_neg c6] at H
    exact absurd H (by simp)
  ·
   rw [if_neg c5] at H
   exact absurd H (by simp)
 ·
  replace c4 := Bool.eq_false_iff.mpr c4
  subst c4
  have H1 : (some ((⟨#[]⟩ : ByteArray), false)) = some (r1, r2) := by rw [if_neg (show ¬ (false = true) by decide)] at H; exact H
  clear H
  have H := H1
  clear H1
  simp only [Option.some.injEq, Prod.mk.injEq] at H
  obtain ⟨rfl, rfl⟩ := H
  go_enter Tryz.func36, Tryz.ntmps36
  go_wp2_with (first | ((with_reducible refine gate_callee (f := 99) rfl ?_); refine goesL_ (some 11) rfl rfl Tryz.func99 (by kernel_rfl) rfl #[.slice A0 l0.length c0, .string a1] rfl (by (try simp only [List.map_toArray, List.map_cons, List.map_nil]); first | done | rfl | (simp only [List.length_drop, List.length_take]; rfl)) ?_; (with_reducible refine (exequaturref10_Rows_Get.calls k _ _ l0 a1 t316 false _ ?side1 ?side2 A3.out).mono ?_); (case side1 => repeat (first | exact HR0.out | (with_reducible refine Kd.C_alloc ?_ _) | (with_reducible refine Kd.C_drewN ?_ _) | (with_reducible refine Kd.C_drew ?_))); (case side2 => exact HC0.out); rintro e w' ⟨rfl, ⟨nd, rfl⟩⟩; refine ⟨_, rfl, ?_⟩))
  go_ret2
  exact ⟨by first | rfl | (simp; done) | (simp [*]; done), by repeat (first | exact Drawn0.refl _ | apply Drawn0.step)⟩

end Go.Proofs.YtpoblffgclmmlaaGreatDoor.Q
end
section
namespace Go.Proofs.YtpoblffgclmmlaaGreatDoor.Q
open Go.RowKit Go.Proofs.YtpoblffgclmmlaaGreatDoorW.PrintWords Go.Proofs.YtpoblffgclmmlaaGreatDoorW.PrintLast Go.Proofs.YtpoblffgclmmlaaGreatDoorW.PrintMore
attribute [local go_sem] max2_int min2_int max_two min_two max_three min_three max_four min_four   -- for this text's walks alone
open Go.Proofs.YtpoblffgclmmlaaGreatDoor.X
set_option linter.unusedVariables false
set_option linter.unusedSimpArgs false

def exequaturref13_Session.f (k : Nat) (a0_0 : ByteArray) (a0_1 : ByteArray) (a0_2 : ByteArray) (a0_3 : ByteArray) (a0_4 : ByteArray) (a0_5 : ByteArray) (a0_6 : ByteArray) (a0_7 : Int) (a0_8 : ByteArray) (a0_9 : ByteArray) (a0_10 : ByteArray) (a0_11 : Int) : Option (ByteArray) := (exequaturref01_Dec.f k a0_7).bind fun t336 => ((exequaturref01_Dec.f k a0_11).bind fun t337 => ((exequaturref13_Texts.f (([a0_0, a0_1, a0_2, a0_3, a0_4, a0_5, a0_6, t336, a0_8, a0_9, a0_10, t337] : List ByteArray))).bind fun t341 => (some t341)))
theorem exequaturref13_Session.mono : ∀ a0 a1 a2 a3 a4 a5 a6 a7 a8 a9 a10 a11 k, LeO (exequaturref13_Session.f k a0 a1 a2 a3 a4 a5 a6 a7 a8 a9 a10 a11) (exequaturref13_Session.f (k + 1) a0 a1 a2 a3 a4 a5 a6 a7 a8 a9 a10 a11) := by
 intro a0 a1 a2 a3 a4 a5 a6 a7 a8 a9 a10 a11 k
 unfold exequaturref13_Session.f
 repeat' first
   | (with_reducible exact exequaturref01_Dec.mono _ _)
   | (with_reducible exact LeO.refl _)
   | (with_reducible exact LeO.none _)
   | (with_reducible refine LeO.ite ?_ ?_)
   | (with_reducible refine LeO.bind ?_ (fun _ => ?_))
   | exact exequaturref01_Dec.mono _ _
   | exact LeO.none _
   | refine LeO.ite ?_ ?_
   | refine LeO.bind ?_ (fun _ => ?_)
def exequaturref13_Session.T1 : Bool × List (List Nat × List Nat) := (true, [([], []), ([0], [0]), ([], []), ([2], [2]), ([], []), ([4], [4]), ([], []), ([6], [6]), ([], []), ([8], [8]), ([], []), ([10], [10]), ([], []), ([12], [12]), ([], []), ([14], [14]), ([15], [15]), ([], []), ([17], [17]), ([], []), ([19], [19]), ([], []), ([21], [21]), ([], []), ([23], [23]), ([24, 16], [24]), ([1, 3, 5, 7, 9, 11, 13, 16, 18, 20, 22, 25], [1, 3, 5, 7, 9, 11, 13, 16, 18, 20, 22, 25]), ([26, 25], [26]), ([27, 27, 0, 1, 2, 3, 4, 5, 6, 7, 8, 9, 10, 11, 12, 13, 14, 15, 16, 17, 18, 19, 20, 21, 22, 23, 24, 25, 26, 27], [27])])
def exequaturref13_Session.B1 : List Nat := [0, 1, 0, 4, 0, 16, 0, 64, 0, 256, 0, 1024, 0, 4096, 0, 16384, 49152, 0, 131072, 0, 524288, 0, 2097152, 0, 8388608, 25280512, 67108863, 134217727, 268435455]
theorem exequaturref13_Session.tab1 : rtab .any (opsOf Tryz.f40 1) = exequaturref13_Session.T1 := by kernel_rfl
theorem exequaturref13_Session.bits1 : waitsOk exequaturref13_Session.T1.2 exequaturref13_Session.B1 = true := by kernel_rfl
set_option maxHeartbeats 8000000 in
set_option maxRecDepth 100000 in
theorem exequaturref13_Session.calls (k : Nat) (a0_0 : ByteArray) (a0_1 : ByteArray) (a0_2 : ByteArray) (a0_3 : ByteArray) (a0_4 : ByteArray) (a0_5 : ByteArray) (a0_6 : ByteArray) (a0_7 : Int) (a0_8 : ByteArray) (a0_9 : ByteArray) (a0_10 : ByteArray) (a0_11 : Int) (r : ByteArray) (w : World) (h : exequaturref13_Session.f k a0_0 a0_1 a0_2 a0_3 a0_4 a0_5 a0_6 a0_7 a0_8 a0_9 a0_10 a0_11 = some r) :
  Calls Tryz.prog 40 #[.agg #[.string a0_0, .string a0_1, .string a0_2, .string a0_3, .string a0_4, .string a0_5, .string a0_6, .int .i64 a0_7, .string a0_8, .string a0_9, .string a0_10, .int .i64 a0_11]] w fun e w' => e = .returned (.string r) ∧ Below w.heap.size w w' := by
 have hu72 := Tryz.underlying72
 have HB := Aside0.mk (Below.refl w.heap.size w)
 have H : ((exequaturref01_Dec.f k a0_7).bind fun t336 => ((exequaturref01_Dec.f k a0_11).bind fun t337 => ((exequaturref13_Texts.f (([a0_0, a0_1, a0_2, a0_3, a0_4, a0_5, a0_6, t336, a0_8, a0_9, a0_10, t337] : List ByteArray))).bind fun t341 => (some t341)))) = some r := h
 clear h
 replace H := Option.bind_eq_some_iff.mp H
 obtain ⟨t336, A20, H⟩ := H
 replace H : ((exequaturref01_Dec.f k a0_11).bind fun t337 => ((exequaturref13_Texts.f (([a0_0, a0_1, a0_2, a0_3, a0_4, a0_5, a0_6, t336, a0_8, a0_9, a0_10, t337] : List ByteArray))).bind fun t341 => (some t341))) = some r := H
 have A2 := Aside0.mk A20
 clear A20
 replace H := Option.bind_eq_some_iff.mp H
 obtain ⟨t337, A30, H⟩ := H
 replace H : ((exequaturref13_Texts.f (([a0_0, a0_1, a0_2, a0_3, a0_4, a0_5, a0_6, t336, a0_8, a0_9, a0_10, t337] : List ByteArray))).bind fun t341 => (some t341)) = some r := H
 have A3 := Aside0.mk A30
 clear A30
 obtain ⟨y338, hy338⟩ : ∃ y_ : List ByteArray, y_ = (([a0_0, a0_1, a0_2, a0_3, a0_4, a0_5, a0_6, t336, a0_8, a0_9, a0_10, t337] : List ByteArray)) := ⟨_, rfl⟩
 replace H : ((exequaturref13_Texts.f y338).bind fun t341 => (some t341)) = some r := by first | (rw [hy338]; with_reducible exact H) | (have H2_ := (Option.bind_some _ _).symm.trans H; rw [hy338]; with_reducible exact H2_) | (have H2_ := (Option.bind_some _ _).symm.trans H; with_reducible exact H2_) | with_reducible exact H | (rw [hy338]; exact H) | exact H
 have Ny338 := Aside0.mk hy338
 clear hy338
 replace H := Option.bind_eq_some_iff.mp H
 obtain ⟨t341, A40, H⟩ := H
 replace H : (some t341) = some r := H
 have A4 := Aside0.mk A40
 clear A40
 obtain rfl := Option.some.inj H
 go_enter Tryz.func40, Tryz.ntmps40
 try go_wp2_with (first | ((with_reducible refine gate_dst (N := 1) rfl ?_); refine box_event ?hg (N := 1) ?hd (cs := #[.string a0_0, .string a0_1, .string a0_2, .string a0_3, .string a0_4, .string a0_5, .string a0_6, .int .i64 a0_7, .string a0_8, .string a0_9, .string a0_10, .int .i64 a0_11]) (t := 72) ?hr ?_; (case hd => rfl); (case hg => rfl); (case hr => first | (go_simp; done) | (go_simp; rfl)); intro gb335 hg w5 hbox hb; have n0_ := Aside0.mk (below_step (by repeat (first | (with_reducible first | exact HB.out | apply below_alloc | apply pw_below_drewN | apply below_drew1) | exact HB.out)) hb); have n1_ := Aside0.mk (hbox); have n2_ := Aside0.mk ((by rw [hg]; exact (below_size (by repeat (first | (with_reducible first | exact HB.out | apply below_alloc | apply pw_below_drewN | apply below_drew1) | exact HB.out))) : w.heap.size ≤ gb335)); have n3_ := Aside0.mk ((by rw [hg]; exact (below_size (by repeat (first | (with_reducible first | exact HB.out | apply below_alloc | apply pw_below_drewN | apply below_drew1) | exact HB.out))) : w.heap.size ≤ gb335)); clear HB; have HB := n0_; have BK335 := n1_; have GW335 := n2_; have GE335 := n3_; clear n0_ n1_ n2_ n3_; clear hb hbox hg))
 have n0_ := Aside0.mk (blk_drew BK335.out)
 have n1_ := Aside0.mk (below_drew1 HB.out)
 clear BK335
 clear HB
 have BK335 := n0_
 have HB := n1_
 clear n0_ n1_
 refine start_ (n := 29) (S := fun w' => w'.cell? ⟨gb335, 0, none⟩ = some (.string a0_0) ∧ w'.cell? ⟨gb335, 1, none⟩ = some (.string a0_1) ∧ w'.cell? ⟨gb335, 2, none⟩ = some (.string a0_2) ∧ w'.cell? ⟨gb335, 3, none⟩ = some (.string a0_3) ∧ w'.cell? ⟨gb335, 4, none⟩ = some (.string a0_4) ∧ w'.cell? ⟨gb335, 5, none⟩ = some (.string a0_5) ∧ w'.cell? ⟨gb335, 6, none⟩ = some (.string a0_6) ∧ w'.cell? ⟨gb335, 7, none⟩ = some (.int .i64 a0_7) ∧ w'.cell? ⟨gb335, 8, none⟩ = some (.string a0_8) ∧ w'.cell? ⟨gb335, 9, none⟩ = some (.string a0_9) ∧ w'.cell? ⟨gb335, 10, none⟩ = some (.string a0_10) ∧ w'.cell? ⟨gb335, 11, none⟩ = some (.int .i64 a0_11)) (ds := []) #[false, false, false, false, false, false, false, false, false, false, false, false, false, false, false, false, false, false, false, false, false, false, false, false, false, false, false, false, false] (by kernel_rfl) rfl rfl ⟨(blk_cell BK335.out 0).trans rfl, (blk_cell BK335.out 1).trans rfl, (blk_cell BK335.out 2).trans rfl, (blk_cell BK335.out 3).trans rfl, (blk_cell BK335.out 4).trans rfl, (blk_cell BK335.out 5).trans rfl, (blk_cell BK335.out 6).trans rfl, (blk_cell BK335.out 7).trans rfl, (blk_cell BK335.out 8).trans rfl, (blk_cell BK335.out 9).trans rfl, (blk_cell BK335.out 10).trans rfl, (blk_cell BK335.out 11).trans rfl⟩ (fun hHeld => ?_); refine with_tabW exequaturref13_Session.tab1 exequaturref13_Session.bits1 (fun HT_ HW_ => ?_)
 generalize w5.drew = w6 at BK335 HB hHeld ⊢
 refine pure_ (i := 0) (N := some 3) (v := ?_) (a' := ?_) #[true, false, false, false, false, false, false, false, false, false, false, false, false, false, false, false, false, false, false, false, false, false, false, false, false, false, false, false, false] rfl rfl (any_of HT_.out (by kernel_rfl)) (fun _ _ _ h => h) (Or.inl ⟨by rfl, ?_⟩) ?_ ?_
 rotate_left
 ·
  intro w'
  go_simp
  with_reducible rfl
 rotate_left
 ·
  simp only [Act.put, List.setIfInBounds_toArray, List.set_cons_zero, List.set_cons_succ, i64_w, i32_w]
  rfl
 refine pure_ (i := 2) (N := some 5) (v := ?_) (a' := ?_) #[true, false, true, false, false, false, false, false, false, false, false, false, false, false, false, false, false, false, false, false, false, false, false, false, false, false, false, false, false] rfl rfl (any_of HT_.out (by kernel_rfl)) (fun _ _ _ h => h) (Or.inl ⟨by rfl, ?_⟩) ?_ ?_
 rotate_left
 ·
  intro w'
  go_simp
  with_reducible rfl
 rotate_left
 ·
  simp only [Act.put, List.setIfInBounds_toArray, List.set_cons_zero, List.set_cons_succ, i64_w, i32_w]
  rfl
 refine pure_ (i := 4) (N := some 7) (v := ?_) (a' := ?_) #[true, false, true, false, true, false, false, false, false, false, false, false, false, false, false, false, false, false, false, false, false, false, false, false, false, false, false, false, false] rfl rfl (any_of HT_.out (by kernel_rfl)) (fun _ _ _ h => h) (Or.inl ⟨by rfl, ?_⟩) ?_ ?_
 rotate_left
 ·
  intro w'
  go_simp
  with_reducible rfl
 rotate_left
 ·
  simp only [Act.put, List.setIfInBounds_toArray, List.set_cons_zero, List.set_cons_succ, i64_w, i32_w]
  rfl
 refine pure_ (i := 6) (N := some 9) (v := ?_) (a' := ?_) #[true, false, true, false, true, false, true, false, false, false, false, false, false, false, false, false, false, false, false, false, false, false, false, false, false, false, false, false, false] rfl rfl (any_of HT_.out (by kernel_rfl)) (fun _ _ _ h => h) (Or.inl ⟨by rfl, ?_⟩) ?_ ?_
 rotate_left
 ·
  intro w'
  go_simp
  with_reducible rfl
 rotate_left
 ·
  simp only [Act.put, List.setIfInBounds_toArray, List.set_cons_zero, List.set_cons_succ, i64_w, i32_w]
  rfl
 refine pure_ (i := 8) (N := some 11) (v := ?_) (a' := ?_) #[true, false, true, false, true, false, true, false, true, false, false, false, false, false, false, false, false, false, false, false, false, false, false, false, false, false, false, false, false] rfl rfl (any_of HT_.out (by kernel_rfl)) (fun _ _ _ h => h) (Or.inl ⟨by rfl, ?_⟩) ?_ ?_
 rotate_left
 ·
  intro w'
  go_simp
  with_reducible rfl
 rotate_left
 ·
  simp only [Act.put, List.setIfInBounds_toArray, List.set_cons_zero, List.set_cons_succ, i64_w, i32_w]
  rfl
 refine pure_ (i := 10) (N := some 13) (v := ?_) (a' := ?_) #[true, false, true, false, true, false, true, false, true, false, true, false, false, false, false, false, false, false, false, false, false, false, false, false, false, false, false, false, false] rfl rfl (any_of HT_.out (by kernel_rfl)) (fun _ _ _ h => h) (Or.inl ⟨by rfl, ?_⟩) ?_ ?_
 rotate_left
 ·
  intro w'
  go_simp
  with_reducible rfl
 rotate_left
 ·
  simp only [Act.put, List.setIfInBounds_toArray, List.set_cons_zero, List.set_cons_succ, i64_w, i32_w]
  rfl
 refine pure_ (i := 12) (N := some 15) (v := ?_) (a' := ?_) #[true, false, true, false, true, false, true, false, true, false, true, false, true, false, false, false, false, false, false, false, false, false, false, false, false, false, false, false, false] rfl rfl (any_of HT_.out (by kernel_rfl)) (fun _ _ _ h => h) (Or.inl ⟨by rfl, ?_⟩) ?_ ?_
 rotate_left
 ·
  intro w'
  go_simp
  with_reducible rfl
 rotate_left
 ·
  simp only [Act.put, List.setIfInBounds_toArray, List.set_cons_zero, List.set_cons_succ, i64_w, i32_w]
  rfl
 refine pure_ (i := 14) (N := some 17) (v := ?_) (a' := ?_) #[true, false, true, false, true, false, true, false, true, false, true, false, true, false, true, false, false, false, false, false, false, false, false, false, false, false, false, false, false] rfl rfl (any_of HT_.out (by kernel_rfl)) (fun _ _ _ h => h) (Or.inl ⟨by rfl, ?_⟩) ?_ ?_
 rotate_left
 ·
  intro w'
  go_simp
  with_reducible rfl
 rotate_left
 ·
  simp only [Act.put, List.setIfInBounds_toArray, List.set_cons_zero, List.set_cons_succ, i64_w, i32_w]
  rfl
 refine pure_ (i := 17) (N := some 20) (v := ?_) (a' := ?_) #[true, false, true, false, true, false, true, false, true, false, true, false, true, false, true, false, false, true, false, false, false, false, false, false, false, false, false, false, false] rfl rfl (any_of HT_.out (by kernel_rfl)) (fun _ _ _ h => h) (Or.inl ⟨by rfl, ?_⟩) ?_ ?_
 rotate_left
 ·
  intro w'
  go_simp
  with_reducible rfl
 rotate_left
 ·
  simp only [Act.put, List.setIfInBounds_toArray, List.set_cons_zero, List.set_cons_succ, i64_w, i32_w]
  rfl
 refine pure_ (i := 19) (N := some 22) (v := ?_) (a' := ?_) #[true, false, true, false, true, false, true, false, true, false, true, false, true, false, true, false, false, true, false, true, false, false, false, false, false, false, false, false, false] rfl rfl (any_of HT_.out (by kernel_rfl)) (fun _ _ _ h => h) (Or.inl ⟨by rfl, ?_⟩) ?_ ?_
 rotate_left
 ·
  intro w'
  go_simp
  with_reducible rfl
 rotate_left
 ·
  simp only [Act.put, List.setIfInBounds_toArray, List.set_cons_zero, List.set_cons_succ, i64_w, i32_w]
  rfl
 refine pure_ (i := 21) (N := some 24) (v := ?_) (a' := ?_) #[true, false, true, false, true, false, true, false, true, false, true, false, true, false, true, false, false, true, false, true, false, true, false, false, false, false, false, false, false] rfl rfl (any_of HT_.out (by kernel_rfl)) (fun _ _ _ h => h) (Or.inl ⟨by rfl, ?_⟩) ?_ ?_
 rotate_left
 ·
  intro w'
  go_simp
  with_reducible rfl
 rotate_left
 ·
  simp only [Act.put, List.setIfInBounds_toArray, List.set_cons_zero, List.set_cons_succ, i64_w, i32_w]
  rfl
 refine pure_ (i := 23) (N := some 26) (v := ?_) (a' := ?_) #[true, false, true, false, true, false, true, false, true, false, true, false, true, false, true, false, false, true, false, true, false, true, false, true, false, false, false, false, false] rfl rfl (any_of HT_.out (by kernel_rfl)) (fun _ _ _ h => h) (Or.inl ⟨by rfl, ?_⟩) ?_ ?_
 rotate_left
 ·
  intro w'
  go_simp
  with_reducible rfl
 rotate_left
 ·
  simp only [Act.put, List.setIfInBounds_toArray, List.set_cons_zero, List.set_cons_succ, i64_w, i32_w]
  rfl
 refine take_ (i := 1) (N := some 4) (v := ?_) (a' := ?_) #[true, true, true, false, true, false, true, false, true, false, true, false, true, false, true, false, false, true, false, true, false, true, false, true, false, false, false, false, false] rfl rfl (take_ofW HT_.out HW_.out (by kernel_rfl)) (fun _ _ _ h => h) (Or.inl ⟨by rfl, ?_⟩) hHeld ?_ ?_
 rotate_left
 ·
  rintro w' ⟨s0, s1, s2, s3, s4, s5, s6, s7, s8, s9, s10, s11⟩
  go_simp
  with_reducible rfl
 rotate_left
 ·
  simp only [Act.put, List.setIfInBounds_toArray, List.set_cons_zero, List.set_cons_succ, i64_w, i32_w]
  rfl
 refine take_ (i := 3) (N := some 6) (v := ?_) (a' := ?_) #[true, true, true, true, true, false, true, false, true, false, true, false, true, false, true, false, false, true, false, true, false, true, false, true, false, false, false, false, false] rfl rfl (take_ofW HT_.out HW_.out (by kernel_rfl)) (fun _ _ _ h => h) (Or.inl ⟨by rfl, ?_⟩) hHeld ?_ ?_
 rotate_left
 ·
  rintro w' ⟨s0, s1, s2, s3, s4, s5, s6, s7, s8, s9, s10, s11⟩
  go_simp
  with_reducible rfl
 rotate_left
 ·
  simp only [Act.put, List.setIfInBounds_toArray, List.set_cons_zero, List.set_cons_succ, i64_w, i32_w]
  rfl
 refine take_ (i := 5) (N := some 8) (v := ?_) (a' := ?_) #[true, true, true, true, true, true, true, false, true, false, true, false, true, false, true, false, false, true, false, true, false, true, false, true, false, false, false, false, false] rfl rfl (take_ofW HT_.out HW_.out (by kernel_rfl)) (fun _ _ _ h => h) (Or.inl ⟨by rfl, ?_⟩) hHeld ?_ ?_
 rotate_left
 ·
  rintro w' ⟨s0, s1, s2, s3, s4, s5, s6, s7, s8, s9, s10, s11⟩
  go_simp
  with_reducible rfl
 rotate_left
 ·
  simp only [Act.put, List.setIfInBounds_toArray, List.set_cons_zero, List.set_cons_succ, i64_w, i32_w]
  rfl
 refine take_ (i := 7) (N := some 10) (v := ?_) (a' := ?_) #[true, true, true, true, true, true, true, true, true, false, true, false, true, false, true, false, false, true, false, true, false, true, false, true, false, false, false, false, false] rfl rfl (take_ofW HT_.out HW_.out (by kernel_rfl)) (fun _ _ _ h => h) (Or.inl ⟨by rfl, ?_⟩) hHeld ?_ ?_
 rotate_left
 ·
  rintro w' ⟨s0, s1, s2, s3, s4, s5, s6, s7, s8, s9, s10, s11⟩
  go_simp
  with_reducible rfl
 rotate_left
 ·
  simp only [Act.put, List.setIfInBounds_toArray, List.set_cons_zero, List.set_cons_succ, i64_w, i32_w]
  rfl
 refine take_ (i := 9) (N := some 12) (v := ?_) (a' := ?_) #[true, true, true, true, true, true, true, true, true, true, true, false, true, false, true, false, false, true, false, true, false, true, false, true, false, false, false, false, false] rfl rfl (take_ofW HT_.out HW_.out (by kernel_rfl)) (fun _ _ _ h => h) (Or.inl ⟨by rfl, ?_⟩) hHeld ?_ ?_
 rotate_left
 ·
  rintro w' ⟨s0, s1, s2, s3, s4, s5, s6, s7, s8, s9, s10, s11⟩
  go_simp
  with_reducible rfl
 rotate_left
 ·
  simp only [Act.put, List.setIfInBounds_toArray, List.set_cons_zero, List.set_cons_succ, i64_w, i32_w]
  rfl
 refine take_ (i := 11) (N := some 14) (v := ?_) (a' := ?_) #[true, true, true, true, true, true, true, true, true, true, true, true, true, false, true, false, false, true, false, true, false, true, false, true, false, false, false, false, false] rfl rfl (take_ofW HT_.out HW_.out (by kernel_rfl)) (fun _ _ _ h => h) (Or.inl ⟨by rfl, ?_⟩) hHeld ?_ ?_
 rotate_left
 ·
  rintro w' ⟨s0, s1, s2, s3, s4, s5, s6, s7, s8, s9, s10, s11⟩
  go_simp
  with_reducible rfl
 rotate_left
 ·
  simp only [Act.put, List.setIfInBounds_toArray, List.set_cons_zero, List.set_cons_succ, i64_w, i32_w]
  rfl
 refine take_ (i := 13) (N := some 16) (v := ?_) (a' := ?_) #[true, true, true, true, true, true, true, true, true, true, true, true, true, true, true, false, false, true, false, true, false, true, false, true, false, false, false, false, false] rfl rfl (take_ofW HT_.out HW_.out (by kernel_rfl)) (fun _ _ _ h => h) (Or.inl ⟨by rfl, ?_⟩) hHeld ?_ ?_
 rotate_left
 ·
  rintro w' ⟨s0, s1, s2, s3, s4, s5, s6, s7, s8, s9, s10, s11⟩
  go_simp
  with_reducible rfl
 rotate_left
 ·
  simp only [Act.put, List.setIfInBounds_toArray, List.set_cons_zero, List.set_cons_succ, i64_w, i32_w]
  rfl
 refine take_ (i := 15) (N := some 18) (v := ?_) (a' := ?_) #[true, true, true, true, true, true, true, true, true, true, true, true, true, true, true, true, false, true, false, true, false, true, false, true, false, false, false, false, false] rfl rfl (take_ofW HT_.out HW_.out (by kernel_rfl)) (fun _ _ _ h => h) (Or.inl ⟨by rfl, ?_⟩) hHeld ?_ ?_
 rotate_left
 ·
  rintro w' ⟨s0, s1, s2, s3, s4, s5, s6, s7, s8, s9, s10, s11⟩
  go_simp
  with_reducible rfl
 rotate_left
 ·
  simp only [Act.put, List.setIfInBounds_toArray, List.set_cons_zero, List.set_cons_succ, i64_w, i32_w]
  rfl
 refine take_ (i := 18) (N := some 21) (v := ?_) (a' := ?_) #[true, true, true, true, true, true, true, true, true, true, true, true, true, true, true, true, false, true, true, true, false, true, false, true, false, false, false, false, false] rfl rfl (take_ofW HT_.out HW_.out (by kernel_rfl)) (fun _ _ _ h => h) (Or.inl ⟨by rfl, ?_⟩) hHeld ?_ ?_
 rotate_left
 ·
  rintro w' ⟨s0, s1, s2, s3, s4, s5, s6, s7, s8, s9, s10, s11⟩
  go_simp
  with_reducible rfl
 rotate_left
 ·
  simp only [Act.put, List.setIfInBounds_toArray, List.set_cons_zero, List.set_cons_succ, i64_w, i32_w]
  rfl
 refine take_ (i := 20) (N := some 23) (v := ?_) (a' := ?_) #[true, true, true, true, true, true, true, true, true, true, true, true, true, true, true, true, false, true, true, true, true, true, false, true, false, false, false, false, false] rfl rfl (take_ofW HT_.out HW_.out (by kernel_rfl)) (fun _ _ _ h => h) (Or.inl ⟨by rfl, ?_⟩) hHeld ?_ ?_
 rotate_left
 ·
  rintro w' ⟨s0, s1, s2, s3, s4, s5, s6, s7, s8, s9, s10, s11⟩
  go_simp
  with_reducible rfl
 rotate_left
 ·
  simp only [Act.put, List.setIfInBounds_toArray, List.set_cons_zero, List.set_cons_succ, i64_w, i32_w]
  rfl
 refine take_ (i := 22) (N := some 25) (v := ?_) (a' := ?_) #[true, true, true, true, true, true, true, true, true, true, true, true, true, true, true, true, false, true, true, true, true, true, true, true, false, false, false, false, false] rfl rfl (take_ofW HT_.out HW_.out (by kernel_rfl)) (fun _ _ _ h => h) (Or.inl ⟨by rfl, ?_⟩) hHeld ?_ ?_
 rotate_left
 ·
  rintro w' ⟨s0, s1, s2, s3, s4, s5, s6, s7, s8, s9, s10, s11⟩
  go_simp
  with_reducible rfl
 rotate_left
 ·
  simp only [Act.put, List.setIfInBounds_toArray, List.set_cons_zero, List.set_cons_succ, i64_w, i32_w]
  rfl
 refine take_ (i := 24) (N := some 27) (v := ?_) (a' := ?_) #[true, true, true, true, true, true, true, true, true, true, true, true, true, true, true, true, false, true, true, true, true, true, true, true, true, false, false, false, false] rfl rfl (take_ofW HT_.out HW_.out (by kernel_rfl)) (fun _ _ _ h => h) (Or.inl ⟨by rfl, ?_⟩) hHeld ?_ ?_
 rotate_left
 ·
  rintro w' ⟨s0, s1, s2, s3, s4, s5, s6, s7, s8, s9, s10, s11⟩
  go_simp
  with_reducible rfl
 rotate_left
 ·
  simp only [Act.put, List.setIfInBounds_toArray, List.set_cons_zero, List.set_cons_succ, i64_w, i32_w]
  rfl
 refine one_ (i := 16) (N := some 19) #[true, true, true, true, true, true, true, true, true, true, true, true, true, true, true, true, true, true, true, true, true, true, true, true, true, false, false, false, false] rfl rfl (one_of HT_.out (by kernel_rfl)) (by decide) (fun K hK => ?_)
 refine goes_ Tryz.func102 (by kernel_rfl) rfl #[.int .i64 a0_7] (by rfl) rfl rfl (by (try simp only [List.map_toArray, List.map_cons, List.map_nil]); first | done | rfl | (simp only [List.length_drop, List.length_take]; rfl)) ?_
 with_reducible refine (exequaturref01_Dec.calls k a0_7 t336 _ A2.out).mono ?_
 rintro e w7 ⟨rfl, hb⟩
 refine ⟨_, rfl, ?_⟩
 have n0_ := Aside0.mk (blk_below (g := gb335) (o := .cells #[.string a0_0, .string a0_1, .string a0_2, .string a0_3, .string a0_4, .string a0_5, .string a0_6, .int .i64 a0_7, .string a0_8, .string a0_9, .string a0_10, .int .i64 a0_11] 72 (0, 0)) (by (with_reducible repeat (first | refine blk_drewN ?_ _ | refine blk_drew ?_ | refine blk_alloc ?_ _)); exact BK335.out) hb)
 have n1_ := Aside0.mk (below_step (by repeat (first | (with_reducible first | exact HB.out | apply below_alloc | apply pw_below_drewN | apply below_drew1 | refine below_set ?_ GE335.out) | exact HB.out)) hb)
 clear BK335
 clear HB
 have BK335 := n0_
 have HB := n1_
 clear n0_ n1_
 (try clear hb)
 (try clear hb2)
 (try clear hk)
 (try clear hi)
 refine hK.out _ _ ⟨(blk_cell BK335.out 0).trans rfl, (blk_cell BK335.out 1).trans rfl, (blk_cell BK335.out 2).trans rfl, (blk_cell BK335.out 3).trans rfl, (blk_cell BK335.out 4).trans rfl, (blk_cell BK335.out 5).trans rfl, (blk_cell BK335.out 6).trans rfl, (blk_cell BK335.out 7).trans rfl, (blk_cell BK335.out 8).trans rfl, (blk_cell BK335.out 9).trans rfl, (blk_cell BK335.out 10).trans rfl, (blk_cell BK335.out 11).trans rfl⟩ (fun hHeld => ?_)
 clear hK K
 refine norm_ (a' := ?_) ?_ ?_
 rotate_left
 ·
  show Act.put _ (some 19) _ = _
  simp only [Act.put, List.setIfInBounds_toArray, List.set_cons_zero, List.set_cons_succ, i64_w, i32_w]
  rfl
 refine one_ (i := 25) (N := some 28) #[true, true, true, true, true, true, true, true, true, true, true, true, true, true, true, true, true, true, true, true, true, true, true, true, true, true, false, false, false] rfl rfl (one_of HT_.out (by kernel_rfl)) (by decide) (fun K hK => ?_)
 refine goes_ Tryz.func102 (by kernel_rfl) rfl #[.int .i64 a0_11] (by rfl) rfl rfl (by (try simp only [List.map_toArray, List.map_cons, List.map_nil]); first | done | rfl | (simp only [List.length_drop, List.length_take]; rfl)) ?_
 with_reducible refine (exequaturref01_Dec.calls k a0_11 t337 _ A3.out).mono ?_
 rintro e w8 ⟨rfl, hb⟩
 refine ⟨_, rfl, ?_⟩
 have n0_ := Aside0.mk (blk_below (g := gb335) (o := .cells #[.string a0_0, .string a0_1, .string a0_2, .string a0_3, .string a0_4, .string a0_5, .string a0_6, .int .i64 a0_7, .string a0_8, .string a0_9, .string a0_10, .int .i64 a0_11] 72 (0, 0)) (by (with_reducible repeat (first | refine blk_drewN ?_ _ | refine blk_drew ?_ | refine blk_alloc ?_ _)); exact BK335.out) hb)
 have n1_ := Aside0.mk (below_step (by repeat (first | (with_reducible first | exact HB.out | apply below_alloc | apply pw_below_drewN | apply below_drew1 | refine below_set ?_ GE335.out) | exact HB.out)) hb)
 clear BK335
 clear HB
 have BK335 := n0_
 have HB := n1_
 clear n0_ n1_
 (try clear hb)
 (try clear hb2)
 (try clear hk)
 (try clear hi)
 refine hK.out _ _ ⟨(blk_cell BK335.out 0).trans rfl, (blk_cell BK335.out 1).trans rfl, (blk_cell BK335.out 2).trans rfl, (blk_cell BK335.out 3).trans rfl, (blk_cell BK335.out 4).trans rfl, (blk_cell BK335.out 5).trans rfl, (blk_cell BK335.out 6).trans rfl, (blk_cell BK335.out 7).trans rfl, (blk_cell BK335.out 8).trans rfl, (blk_cell BK335.out 9).trans rfl, (blk_cell BK335.out 10).trans rfl, (blk_cell BK335.out 11).trans rfl⟩ (fun hHeld => ?_)
 clear hK K
 refine norm_ (a' := ?_) ?_ ?_
 rotate_left
 ·
  show Act.put _ (some 28) _ = _
  simp only [Act.put, List.setIfInBounds_toArray, List.set_cons_zero, List.set_cons_succ, i64_w, i32_w]
  rfl
 refine one_ (i := 26) (N := some 29) #[true, true, true, true, true, true, true, true, true, true, true, true, true, true, true, true, true, true, true, true, true, true, true, true, true, true, true, false, false] rfl rfl (one_of HT_.out (by kernel_rfl)) (by decide) (fun K hK => ?_)
 refine Kd.R_lit_step Kd.string _ 9 ?hg (N := 29) ?hd (xs := ([a0_0, a0_1, a0_2, a0_3, a0_4, a0_5, a0_6, t336, a0_8, a0_9, a0_10, t337] : List ByteArray)) (inner := [.string a0_0, .string a0_1, .string a0_2, .string a0_3, .string a0_4, .string a0_5, .string a0_6, .string t336, .string a0_8, .string a0_9, .string a0_10, .string t337]) (ok := fun _ => True) (okp := fun _ => True) ?hr ?hp (fun _ hk => hk) trivial (Below.refl _ _) (Nat.le_refl _) (by simp) ?_; (case hd => rfl); (case hg => rfl); (case hr => first | (go_simp; done) | (go_simp; rfl)); (case hp => exact (Reps.one (show Kd.M Kd.string _ _ _ a0_0 [.string a0_0] from rfl) (Reps.one (show Kd.M Kd.string _ _ _ a0_1 [.string a0_1] from rfl) (Reps.one (show Kd.M Kd.string _ _ _ a0_2 [.string a0_2] from rfl) (Reps.one (show Kd.M Kd.string _ _ _ a0_3 [.string a0_3] from rfl) (Reps.one (show Kd.M Kd.string _ _ _ a0_4 [.string a0_4] from rfl) (Reps.one (show Kd.M Kd.string _ _ _ a0_5 [.string a0_5] from rfl) (Reps.one (show Kd.M Kd.string _ _ _ a0_6 [.string a0_6] from rfl) (Reps.one (show Kd.M Kd.string _ _ _ t336 [.string t336] from rfl) (Reps.one (show Kd.M Kd.string _ _ _ a0_8 [.string a0_8] from rfl) (Reps.one (show Kd.M Kd.string _ _ _ a0_9 [.string a0_9] from rfl) (Reps.one (show Kd.M Kd.string _ _ _ a0_10 [.string a0_10] from rfl) (Reps.one (show Kd.M Kd.string _ _ _ t337 [.string t337] from rfl) (Reps.none _ _))))))))))))))
 intro v339 w9 ho10 hb hg_ hnew_
 clear hg_ hnew_
 (first | rw [← Ny338.out] at ho10 | (simp only [Int.reduceToNat] at ho10; rw [← Ny338.out] at ho10))
 have n0_ := Aside0.mk (Kd.R_lower ho10 (below_size (by repeat (first | (with_reducible first | exact HB.out | apply below_alloc | apply pw_below_drewN | apply below_drew1 | refine below_set ?_ GE335.out) | exact HB.out))))
 have n1_ := Aside0.mk (blk_below (g := gb335) (o := .cells #[.string a0_0, .string a0_1, .string a0_2, .string a0_3, .string a0_4, .string a0_5, .string a0_6, .int .i64 a0_7, .string a0_8, .string a0_9, .string a0_10, .int .i64 a0_11] 72 (0, 0)) (by (with_reducible repeat (first | refine blk_drewN ?_ _ | refine blk_drew ?_ | refine blk_alloc ?_ _)); exact BK335.out) hb)
 have n2_ := Aside0.mk (below_step (by repeat (first | (with_reducible first | exact HB.out | apply below_alloc | apply pw_below_drewN | apply below_drew1 | refine below_set ?_ GE335.out) | exact HB.out)) hb)
 clear BK335
 clear HB
 have HO340 := n0_
 have BK335 := n1_
 have HB := n2_
 clear n0_ n1_ n2_
 clear hb ho10
 obtain ⟨Ao11, co11, eo11⟩ := Kd.R_slice HO340.out
 (first | subst eo11 | (injection eo11 with f1_ f2_ f3_; have f4_ := f1_.symm; have f5_ := f3_.symm; clear f1_ f2_ f3_; subst f4_; subst f5_))
 refine hK.out _ _ ⟨(blk_cell BK335.out 0).trans rfl, (blk_cell BK335.out 1).trans rfl, (blk_cell BK335.out 2).trans rfl, (blk_cell BK335.out 3).trans rfl, (blk_cell BK335.out 4).trans rfl, (blk_cell BK335.out 5).trans rfl, (blk_cell BK335.out 6).trans rfl, (blk_cell BK335.out 7).trans rfl, (blk_cell BK335.out 8).trans rfl, (blk_cell BK335.out 9).trans rfl, (blk_cell BK335.out 10).trans rfl, (blk_cell BK335.out 11).trans rfl⟩ (fun hHeld => ?_)
 clear hK K
 refine norm_ (a' := ?_) ?_ ?_
 rotate_left
 ·
  show Act.put _ (some 29) _ = _
  simp only [Act.put, List.setIfInBounds_toArray, List.set_cons_zero, List.set_cons_succ, i64_w, i32_w]
  rfl
 refine one_ (i := 27) (N := some 30) #[true, true, true, true, true, true, true, true, true, true, true, true, true, true, true, true, true, true, true, true, true, true, true, true, true, true, true, true, false] rfl rfl (one_of HT_.out (by kernel_rfl)) (by decide) (fun K hK => ?_)
 refine goes_ Tryz.func100 (by kernel_rfl) rfl #[.slice Ao11 y338.length co11] (by rfl) rfl rfl (by (try simp only [List.map_toArray, List.map_cons, List.map_nil]); first | done | rfl | (simp only [List.length_drop, List.length_take]; rfl)) ?_
 with_reducible refine (exequaturref13_Texts.calls _ _ y338 t341 _ ?side1 ?side2 A4.out).mono ?_
 (case side1 => repeat (first | exact (Kd.R_reads' HO340.out).2.2 | (with_reducible refine Kd.C_alloc ?_ _) | (with_reducible refine Kd.C_drewN ?_ _) | (with_reducible refine Kd.C_drew ?_)))
 (case side2 => exact (Kd.R_reads' HO340.out).2.1)
 rintro e w12 ⟨rfl, hb⟩
 refine ⟨_, rfl, ?_⟩
 have n0_ := Aside0.mk (Kd.R_below (by (with_reducible repeat (first | apply Kd.R_alloc | apply Kd.R_drewN | apply Kd.R_drew)); exact HO340.out) hb)
 have n1_ := Aside0.mk (blk_below (g := gb335) (o := .cells #[.string a0_0, .string a0_1, .string a0_2, .string a0_3, .string a0_4, .string a0_5, .string a0_6, .int .i64 a0_7, .string a0_8, .string a0_9, .string a0_10, .int .i64 a0_11] 72 (0, 0)) (by (with_reducible repeat (first | refine blk_drewN ?_ _ | refine blk_drew ?_ | refine blk_alloc ?_ _)); exact BK335.out) hb)
 have n2_ := Aside0.mk (below_step (by repeat (first | (with_reducible first | exact HB.out | apply below_alloc | apply pw_below_drewN | apply below_drew1 | refine below_set ?_ GE335.out) | exact HB.out)) hb)
 clear HO340
 clear BK335
 clear HB
 have HO340 := n0_
 have BK335 := n1_
 have HB := n2_
 clear n0_ n1_ n2_
 (try clear hb)
 (try clear hb2)
 (try clear hk)
 (try clear hi)
 refine hK.out _ _ ⟨(blk_cell BK335.out 0).trans rfl, (blk_cell BK335.out 1).trans rfl, (blk_cell BK335.out 2).trans rfl, (blk_cell BK335.out 3).trans rfl, (blk_cell BK335.out 4).trans rfl, (blk_cell BK335.out 5).trans rfl, (blk_cell BK335.out 6).trans rfl, (blk_cell BK335.out 7).trans rfl, (blk_cell BK335.out 8).trans rfl, (blk_cell BK335.out 9).trans rfl, (blk_cell BK335.out 10).trans rfl, (blk_cell BK335.out 11).trans rfl⟩ (fun hHeld => ?_)
 clear hK K
 refine norm_ (a' := ?_) ?_ ?_
 rotate_left
 ·
  show Act.put _ (some 30) _ = _
  simp only [Act.put, List.setIfInBounds_toArray, List.set_cons_zero, List.set_cons_succ, i64_w, i32_w]
  rfl
 refine pure_ (i := 28) (N := some 2) (v := ?_) (a' := ?_) #[true, true, true, true, true, true, true, true, true, true, true, true, true, true, true, true, true, true, true, true, true, true, true, true, true, true, true, true, true] rfl rfl (any_of HT_.out (by kernel_rfl)) (fun _ _ _ h => h) (Or.inl ⟨by rfl, ?_⟩) ?_ ?_
 rotate_left
 ·
  intro w'
  go_simp
  with_reducible rfl
 rotate_left
 ·
  simp only [Act.put, List.setIfInBounds_toArray, List.set_cons_zero, List.set_cons_succ, i64_w, i32_w]
  rfl
 refine done_ (done_of HT_.out (by kernel_rfl)) ?_
 try go_wp2
 go_ret
 exact ⟨by first | rfl | (simp [errW_none, errW_some] <;> rfl) | (simp [*, errW_none, errW_some] <;> rfl), by repeat (first | (with_reducible first | exact HB.out | apply below_alloc | apply pw_below_drewN | apply below_drew1 | refine below_set ?_ GE335.out) | exact HB.out)⟩

-- NOT PRINTED: function 42 (exequaturlaw19_stored)

def seat_Key.f (a0 : ByteArray) : Option (ByteArray) := if 1 + a0.size ≤ 9223372036854775807 then (some ((⟨#[115]⟩ : ByteArray) ++ a0)) else (none)
set_option maxHeartbeats 8000000 in
set_option maxRecDepth 100000 in
theorem seat_Key.calls (a0 : ByteArray) (r : ByteArray) (w : World) (h : seat_Key.f a0 = some r) :
  Calls Tryz.prog 46 #[.string a0] w fun e w' => e = .returned (.string r) ∧ Drawn0 w w' := by
 have H : (if 1 + a0.size ≤ 9223372036854775807 then (some ((⟨#[115]⟩ : ByteArray) ++ a0)) else (none)) = some r := h
 clear h
 by_cases c2 : 1 + a0.size ≤ 9223372036854775807
 ·
  rw [if_pos c2] at H
  have c2b0 := eq_true c2
  have c2b1 : decide (1 + a0.size ≤ 9223372036854775807) = true := decide_eq_true c2
  try have c2b2 : (9223372036854775807 < 1 + a0.size) = False := eq_false (Nat.not_lt.2 c2)
  obtain rfl := Option.some.inj H
  go_enter Tryz.func46, Tryz.ntmps46
  go_wp2
  go_ret
  exact ⟨by first | rfl | (simp; done) | (simp [*]; done), by repeat (first | exact Drawn0.refl _ | apply Drawn0.step)⟩
 ·
  rw [if_neg c2] at H
  exact absurd H (by simp)

def row_Session.f (a0_0 : ByteArray) (a0_1 : ByteArray) (a0_2 : ByteArray) (a0_3 : ByteArray) (a0_4 : ByteArray) (a0_5 : ByteArray) (a0_6 : ByteArray) (a0_7 : Int) (a0_8 : ByteArray) (a0_9 : ByteArray) (a0_10 : ByteArray) (a0_11 : Int) : Option (ByteArray) := (strconv_Itoa_143.f a0_7).bind fun t343 => ((strconv_Itoa_143.f a0_11).bind fun t344 => ((row_Texts.f (([a0_0, a0_1, a0_2, a0_3, a0_4, a0_5, a0_6, t343, a0_8, a0_9, a0_10, t344] : List ByteArray))).bind fun t348 => (some t348)))
def row_Session.T1 : Bool × List (List Nat × List Nat) := (true, [([], []), ([0], [0]), ([], []), ([2], [2]), ([], []), ([4], [4]), ([], []), ([6], [6]), ([], []), ([8], [8]), ([], []), ([10], [10]), ([], []), ([12], [12]), ([], []), ([14], [14]), ([15], [15]), ([], []), ([17], [17]), ([], []), ([19], [19]), ([], []), ([21], [21]), ([], []), ([23], [23]), ([24, 16], [24]), ([1, 3, 5, 7, 9, 11, 13, 16, 18, 20, 22, 25], [1, 3, 5, 7, 9, 11, 13, 16, 18, 20, 22, 25]), ([26, 25], [26]), ([27, 27, 0, 1, 2, 3, 4, 5, 6, 7, 8, 9, 10, 11, 12, 13, 14, 15, 16, 17, 18, 19, 20, 21, 22, 23, 24, 25, 26, 27], [27])])
def row_Session.B1 : List Nat := [0, 1, 0, 4, 0, 16, 0, 64, 0, 256, 0, 1024, 0, 4096, 0, 16384, 49152, 0, 131072, 0, 524288, 0, 2097152, 0, 8388608, 25280512, 67108863, 134217727, 268435455]
theorem row_Session.tab1 : rtab .any (opsOf Tryz.f103 1) = row_Session.T1 := by kernel_rfl
theorem row_Session.bits1 : waitsOk row_Session.T1.2 row_Session.B1 = true := by kernel_rfl
set_option maxHeartbeats 8000000 in
set_option maxRecDepth 100000 in
theorem row_Session.calls (a0_0 : ByteArray) (a0_1 : ByteArray) (a0_2 : ByteArray) (a0_3 : ByteArray) (a0_4 : ByteArray) (a0_5 : ByteArray) (a0_6 : ByteArray) (a0_7 : Int) (a0_8 : ByteArray) (a0_9 : ByteArray) (a0_10 : ByteArray) (a0_11 : Int) (r : ByteArray) (w : World) (h : row_Session.f a0_0 a0_1 a0_2 a0_3 a0_4 a0_5 a0_6 a0_7 a0_8 a0_9 a0_10 a0_11 = some r) (hGP : GP w) :
  Calls Tryz.prog 103 #[.agg #[.string a0_0, .string a0_1, .string a0_2, .string a0_3, .string a0_4, .string a0_5, .string a0_6, .int .i64 a0_7, .string a0_8, .string a0_9, .string a0_10, .int .i64 a0_11]] w fun e w' => e = .returned (.string r) ∧ Below w.heap.size w w' := by
 have HGP := Aside0.mk hGP
 clear hGP
 have hu72 := Tryz.underlying72
 have HB := Aside0.mk (Below.refl w.heap.size w)
 have H : ((strconv_Itoa_143.f a0_7).bind fun t343 => ((strconv_Itoa_143.f a0_11).bind fun t344 => ((row_Texts.f (([a0_0, a0_1, a0_2, a0_3, a0_4, a0_5, a0_6, t343, a0_8, a0_9, a0_10, t344] : List ByteArray))).bind fun t348 => (some t348)))) = some r := h
 clear h
 replace H := Option.bind_eq_some_iff.mp H
 obtain ⟨t343, A20, H⟩ := H
 replace H : ((strconv_Itoa_143.f a0_11).bind fun t344 => ((row_Texts.f (([a0_0, a0_1, a0_2, a0_3, a0_4, a0_5, a0_6, t343, a0_8, a0_9, a0_10, t344] : List ByteArray))).bind fun t348 => (some t348))) = some r := H
 have A2 := Aside0.mk A20
 clear A20
 replace H := Option.bind_eq_some_iff.mp H
 obtain ⟨t344, A30, H⟩ := H
 replace H : ((row_Texts.f (([a0_0, a0_1, a0_2, a0_3, a0_4, a0_5, a0_6, t343, a0_8, a0_9, a0_10, t344] : List ByteArray))).bind fun t348 => (some t348)) = some r := H
 have A3 := Aside0.mk A30
 clear A30
 obtain ⟨y345, hy345⟩ : ∃ y_ : List ByteArray, y_ = (([a0_0, a0_1, a0_2, a0_3, a0_4, a0_5, a0_6, t343, a0_8, a0_9, a0_10, t344] : List ByteArray)) := ⟨_, rfl⟩
 replace H : ((row_Texts.f y345).bind fun t348 => (some t348)) = some r := by first | (rw [hy345]; with_reducible exact H) | (have H2_ := (Option.bind_some _ _).symm.trans H; rw [hy345]; with_reducible exact H2_) | (have H2_ := (Option.bind_some _ _).symm.trans H; with_reducible exact H2_) | with_reducible exact H | (rw [hy345]; exact H) | exact H
 have Ny345 := Aside0.mk hy345
 clear hy345
 replace H := Option.bind_eq_some_iff.mp H
 obtain ⟨t348, A40, H⟩ := H
 replace H : (some t348) = some r := H
 have A4 := Aside0.mk A40
 clear A40
 obtain rfl := Option.some.inj H
 go_enter Tryz.func103, Tryz.ntmps103
 try go_wp2_with (first | ((with_reducible refine gate_dst (N := 1) rfl ?_); refine box_event ?hg (N := 1) ?hd (cs := #[.string a0_0, .string a0_1, .string a0_2, .string a0_3, .string a0_4, .string a0_5, .string a0_6, .int .i64 a0_7, .string a0_8, .string a0_9, .string a0_10, .int .i64 a0_11]) (t := 72) ?hr ?_; (case hd => rfl); (case hg => rfl); (case hr => first | (go_simp; done) | (go_simp; rfl)); intro gb342 hg w5 hbox hb; have n0_ := Aside0.mk (below_step (by repeat (first | (with_reducible first | exact HB.out | apply below_alloc | apply pw_below_drewN | apply below_drew1) | exact HB.out)) hb); have n1_ := Aside0.mk (hbox); have n2_ := Aside0.mk ((by rw [hg]; exact (below_size (by repeat (first | (with_reducible first | exact HB.out | apply below_alloc | apply pw_below_drewN | apply below_drew1) | exact HB.out))) : w.heap.size ≤ gb342)); have n3_ := Aside0.mk ((by rw [hg]; exact (below_size (by repeat (first | (with_reducible first | exact HB.out | apply below_alloc | apply pw_below_drewN | apply below_drew1) | exact HB.out))) : w.heap.size ≤ gb342)); clear HB; have HB := n0_; have BK342 := n1_; have GW342 := n2_; have GE342 := n3_; clear n0_ n1_ n2_ n3_; clear hb hbox hg))
 have n0_ := Aside0.mk (blk_drew BK342.out)
 have n1_ := Aside0.mk (below_drew1 HB.out)
 clear BK342
 clear HB
 have BK342 := n0_
 have HB := n1_
 clear n0_ n1_
 refine start_ (n := 29) (S := fun w' => w'.cell? ⟨gb342, 0, none⟩ = some (.string a0_0) ∧ w'.cell? ⟨gb342, 1, none⟩ = some (.string a0_1) ∧ w'.cell? ⟨gb342, 2, none⟩ = some (.string a0_2) ∧ w'.cell? ⟨gb342, 3, none⟩ = some (.string a0_3) ∧ w'.cell? ⟨gb342, 4, none⟩ = some (.string a0_4) ∧ w'.cell? ⟨gb342, 5, none⟩ = some (.string a0_5) ∧ w'.cell? ⟨gb342, 6, none⟩ = some (.string a0_6) ∧ w'.cell? ⟨gb342, 7, none⟩ = some (.int .i64 a0_7) ∧ w'.cell? ⟨gb342, 8, none⟩ = some (.string a0_8) ∧ w'.cell? ⟨gb342, 9, none⟩ = some (.string a0_9) ∧ w'.cell? ⟨gb342, 10, none⟩ = some (.string a0_10) ∧ w'.cell? ⟨gb342, 11, none⟩ = some (.int .i64 a0_11)) (ds := []) #[false, false, false, false, false, false, false, false, false, false, false, false, false, false, false, false, false, false, false, false, false, false, false, false, false, false, false, false, false] (by kernel_rfl) rfl rfl ⟨(blk_cell BK342.out 0).trans rfl, (blk_cell BK342.out 1).trans rfl, (blk_cell BK342.out 2).trans rfl, (blk_cell BK342.out 3).trans rfl, (blk_cell BK342.out 4).trans rfl, (blk_cell BK342.out 5).trans rfl, (blk_cell BK342.out 6).trans rfl, (blk_cell BK342.out 7).trans rfl, (blk_cell BK342.out 8).trans rfl, (blk_cell BK342.out 9).trans rfl, (blk_cell BK342.out 10).trans rfl, (blk_cell BK342.out 11).trans rfl⟩ (fun hHeld => ?_); refine with_tabW row_Session.tab1 row_Session.bits1 (fun HT_ HW_ => ?_)
 generalize w5.drew = w6 at BK342 HB hHeld ⊢
 refine pure_ (i := 0) (N := some 3) (v := ?_) (a' := ?_) #[true, false, false, false, false, false, false, false, false, false, false, false, false, false, false, false, false, false, false, false, false, false, false, false, false, false, false, false, false] rfl rfl (any_of HT_.out (by kernel_rfl)) (fun _ _ _ h => h) (Or.inl ⟨by rfl, ?_⟩) ?_ ?_
 rotate_left
 ·
  intro w'
  go_simp
  with_reducible rfl
 rotate_left
 ·
  simp only [Act.put, List.setIfInBounds_toArray, List.set_cons_zero, List.set_cons_succ, i64_w, i32_w]
  rfl
 refine pure_ (i := 2) (N := some 5) (v := ?_) (a' := ?_) #[true, false, true, false, false, false, false, false, false, false, false, false, false, false, false, false, false, false, false, false, false, false, false, false, false, false, false, false, false] rfl rfl (any_of HT_.out (by kernel_rfl)) (fun _ _ _ h => h) (Or.inl ⟨by rfl, ?_⟩) ?_ ?_
 rotate_left
 ·
  intro w'
  go_simp
  with_reducible rfl
 rotate_left
 ·
  simp only [Act.put, List.setIfInBounds_toArray, List.set_cons_zero, List.set_cons_succ, i64_w, i32_w]
  rfl
 refine pure_ (i := 4) (N := some 7) (v := ?_) (a' := ?_) #[true, false, true, false, true, false, false, false, false, false, false, false, false, false, false, false, false, false, false, false, false, false, false, false, false, false, false, false, false] rfl rfl (any_of HT_.out (by kernel_rfl)) (fun _ _ _ h => h) (Or.inl ⟨by rfl, ?_⟩) ?_ ?_
 rotate_left
 ·
  intro w'
  go_simp
  with_reducible rfl
 rotate_left
 ·
  simp only [Act.put, List.setIfInBounds_toArray, List.set_cons_zero, List.set_cons_succ, i64_w, i32_w]
  rfl
 refine pure_ (i := 6) (N := some 9) (v := ?_) (a' := ?_) #[true, false, true, false, true, false, true, false, false, false, false, false, false, false, false, false, false, false, false, false, false, false, false, false, false, false, false, false, false] rfl rfl (any_of HT_.out (by kernel_rfl)) (fun _ _ _ h => h) (Or.inl ⟨by rfl, ?_⟩) ?_ ?_
 rotate_left
 ·
  intro w'
  go_simp
  with_reducible rfl
 rotate_left
 ·
  simp only [Act.put, List.setIfInBounds_toArray, List.set_cons_zero, List.set_cons_succ, i64_w, i32_w]
  rfl
 refine pure_ (i := 8) (N := some 11) (v := ?_) (a' := ?_) #[true, false, true, false, true, false, true, false, true, false, false, false, false, false, false, false, false, false, false, false, false, false, false, false, false, false, false, false, false] rfl rfl (any_of HT_.out (by kernel_rfl)) (fun _ _ _ h => h) (Or.inl ⟨by rfl, ?_⟩) ?_ ?_
 rotate_left
 ·
  intro w'
  go_simp
  with_reducible rfl
 rotate_left
 ·
  simp only [Act.put, List.setIfInBounds_toArray, List.set_cons_zero, List.set_cons_succ, i64_w, i32_w]
  rfl
 refine pure_ (i := 10) (N := some 13) (v := ?_) (a' := ?_) #[true, false, true, false, true, false, true, false, true, false, true, false, false, false, false, false, false, false, false, false, false, false, false, false, false, false, false, false, false] rfl rfl (any_of HT_.out (by kernel_rfl)) (fun _ _ _ h => h) (Or.inl ⟨by rfl, ?_⟩) ?_ ?_
 rotate_left
 ·
  intro w'
  go_simp
  with_reducible rfl
 rotate_left
 ·
  simp only [Act.put, List.setIfInBounds_toArray, List.set_cons_zero, List.set_cons_succ, i64_w, i32_w]
  rfl
 refine pure_ (i := 12) (N := some 15) (v := ?_) (a' := ?_) #[true, false, true, false, true, false, true, false, true, false, true, false, true, false, false, false, false, false, false, false, false, false, false, false, false, false, false, false, false] rfl rfl (any_of HT_.out (by kernel_rfl)) (fun _ _ _ h => h) (Or.inl ⟨by rfl, ?_⟩) ?_ ?_
 rotate_left
 ·
  intro w'
  go_simp
  with_reducible rfl
 rotate_left
 ·
  simp only [Act.put, List.setIfInBounds_toArray, List.set_cons_zero, List.set_cons_succ, i64_w, i32_w]
  rfl
 refine pure_ (i := 14) (N := some 17) (v := ?_) (a' := ?_) #[true, false, true, false, true, false, true, false, true, false, true, false, true, false, true, false, false, false, false, false, false, false, false, false, false, false, false, false, false] rfl rfl (any_of HT_.out (by kernel_rfl)) (fun _ _ _ h => h) (Or.inl ⟨by rfl, ?_⟩) ?_ ?_
 rotate_left
 ·
  intro w'
  go_simp
  with_reducible rfl
 rotate_left
 ·
  simp only [Act.put, List.setIfInBounds_toArray, List.set_cons_zero, List.set_cons_succ, i64_w, i32_w]
  rfl
 refine pure_ (i := 17) (N := some 20) (v := ?_) (a' := ?_) #[true, false, true, false, true, false, true, false, true, false, true, false, true, false, true, false, false, true, false, false, false, false, false, false, false, false, false, false, false] rfl rfl (any_of HT_.out (by kernel_rfl)) (fun _ _ _ h => h) (Or.inl ⟨by rfl, ?_⟩) ?_ ?_
 rotate_left
 ·
  intro w'
  go_simp
  with_reducible rfl
 rotate_left
 ·
  simp only [Act.put, List.setIfInBounds_toArray, List.set_cons_zero, List.set_cons_succ, i64_w, i32_w]
  rfl
 refine pure_ (i := 19) (N := some 22) (v := ?_) (a' := ?_) #[true, false, true, false, true, false, true, false, true, false, true, false, true, false, true, false, false, true, false, true, false, false, false, false, false, false, false, false, false] rfl rfl (any_of HT_.out (by kernel_rfl)) (fun _ _ _ h => h) (Or.inl ⟨by rfl, ?_⟩) ?_ ?_
 rotate_left
 ·
  intro w'
  go_simp
  with_reducible rfl
 rotate_left
 ·
  simp only [Act.put, List.setIfInBounds_toArray, List.set_cons_zero, List.set_cons_succ, i64_w, i32_w]
  rfl
 refine pure_ (i := 21) (N := some 24) (v := ?_) (a' := ?_) #[true, false, true, false, true, false, true, false, true, false, true, false, true, false, true, false, false, true, false, true, false, true, false, false, false, false, false, false, false] rfl rfl (any_of HT_.out (by kernel_rfl)) (fun _ _ _ h => h) (Or.inl ⟨by rfl, ?_⟩) ?_ ?_
 rotate_left
 ·
  intro w'
  go_simp
  with_reducible rfl
 rotate_left
 ·
  simp only [Act.put, List.setIfInBounds_toArray, List.set_cons_zero, List.set_cons_succ, i64_w, i32_w]
  rfl
 refine pure_ (i := 23) (N := some 26) (v := ?_) (a' := ?_) #[true, false, true, false, true, false, true, false, true, false, true, false, true, false, true, false, false, true, false, true, false, true, false, true, false, false, false, false, false] rfl rfl (any_of HT_.out (by kernel_rfl)) (fun _ _ _ h => h) (Or.inl ⟨by rfl, ?_⟩) ?_ ?_
 rotate_left
 ·
  intro w'
  go_simp
  with_reducible rfl
 rotate_left
 ·
  simp only [Act.put, List.setIfInBounds_toArray, List.set_cons_zero, List.set_cons_succ, i64_w, i32_w]
  rfl
 refine take_ (i := 1) (N := some 4) (v := ?_) (a' := ?_) #[true, true, true, false, true, false, true, false, true, false, true, false, true, false, true, false, false, true, false, true, false, true, false, true, false, false, false, false, false] rfl rfl (take_ofW HT_.out HW_.out (by kernel_rfl)) (fun _ _ _ h => h) (Or.inl ⟨by rfl, ?_⟩) hHeld ?_ ?_
 rotate_left
 ·
  rintro w' ⟨s0, s1, s2, s3, s4, s5, s6, s7, s8, s9, s10, s11⟩
  go_simp
  with_reducible rfl
 rotate_left
 ·
  simp only [Act.put, List.setIfInBounds_toArray, List.set_cons_zero, List.set_cons_succ, i64_w, i32_w]
  rfl
 refine take_ (i := 3) (N := some 6) (v := ?_) (a' := ?_) #[true, true, true, true, true, false, true, false, true, false, true, false, true, false, true, false, false, true, false, true, false, true, false, true, false, false, false, false, false] rfl rfl (take_ofW HT_.out HW_.out (by kernel_rfl)) (fun _ _ _ h => h) (Or.inl ⟨by rfl, ?_⟩) hHeld ?_ ?_
 rotate_left
 ·
  rintro w' ⟨s0, s1, s2, s3, s4, s5, s6, s7, s8, s9, s10, s11⟩
  go_simp
  with_reducible rfl
 rotate_left
 ·
  simp only [Act.put, List.setIfInBounds_toArray, List.set_cons_zero, List.set_cons_succ, i64_w, i32_w]
  rfl
 refine take_ (i := 5) (N := some 8) (v := ?_) (a' := ?_) #[true, true, true, true, true, true, true, false, true, false, true, false, true, false, true, false, false, true, false, true, false, true, false, true, false, false, false, false, false] rfl rfl (take_ofW HT_.out HW_.out (by kernel_rfl)) (fun _ _ _ h => h) (Or.inl ⟨by rfl, ?_⟩) hHeld ?_ ?_
 rotate_left
 ·
  rintro w' ⟨s0, s1, s2, s3, s4, s5, s6, s7, s8, s9, s10, s11⟩
  go_simp
  with_reducible rfl
 rotate_left
 ·
  simp only [Act.put, List.setIfInBounds_toArray, List.set_cons_zero, List.set_cons_succ, i64_w, i32_w]
  rfl
 refine take_ (i := 7) (N := some 10) (v := ?_) (a' := ?_) #[true, true, true, true, true, true, true, true, true, false, true, false, true, false, true, false, false, true, false, true, false, true, false, true, false, false, false, false, false] rfl rfl (take_ofW HT_.out HW_.out (by kernel_rfl)) (fun _ _ _ h => h) (Or.inl ⟨by rfl, ?_⟩) hHeld ?_ ?_
 rotate_left
 ·
  rintro w' ⟨s0, s1, s2, s3, s4, s5, s6, s7, s8, s9, s10, s11⟩
  go_simp
  with_reducible rfl
 rotate_left
 ·
  simp only [Act.put, List.setIfInBounds_toArray, List.set_cons_zero, List.set_cons_succ, i64_w, i32_w]
  rfl
 refine take_ (i := 9) (N := some 12) (v := ?_) (a' := ?_) #[true, true, true, true, true, true, true, true, true, true, true, false, true, false, true, false, false, true, false, true, false, true, false, true, false, false, false, false, false] rfl rfl (take_ofW HT_.out HW_.out (by kernel_rfl)) (fun _ _ _ h => h) (Or.inl ⟨by rfl, ?_⟩) hHeld ?_ ?_
 rotate_left
 ·
  rintro w' ⟨s0, s1, s2, s3, s4, s5, s6, s7, s8, s9, s10, s11⟩
  go_simp
  with_reducible rfl
 rotate_left
 ·
  simp only [Act.put, List.setIfInBounds_toArray, List.set_cons_zero, List.set_cons_succ, i64_w, i32_w]
  rfl
 refine take_ (i := 11) (N := some 14) (v := ?_) (a' := ?_) #[true, true, true, true, true, true, true, true, true, true, true, true, true, false, true, false, false, true, false, true, false, true, false, true, false, false, false, false, false] rfl rfl (take_ofW HT_.out HW_.out (by kernel_rfl)) (fun _ _ _ h => h) (Or.inl ⟨by rfl, ?_⟩) hHeld ?_ ?_
 rotate_left
 ·
  rintro w' ⟨s0, s1, s2, s3, s4, s5, s6, s7, s8, s9, s10, s11⟩
  go_simp
  with_reducible rfl
 rotate_left
 ·
  simp only [Act.put, List.setIfInBounds_toArray, List.set_cons_zero, List.set_cons_succ, i64_w, i32_w]
  rfl
 refine take_ (i := 13) (N := some 16) (v := ?_) (a' := ?_) #[true, true, true, true, true, true, true, true, true, true, true, true, true, true, true, false, false, true, false, true, false, true, false, true, false, false, false, false, false] rfl rfl (take_ofW HT_.out HW_.out (by kernel_rfl)) (fun _ _ _ h => h) (Or.inl ⟨by rfl, ?_⟩) hHeld ?_ ?_
 rotate_left
 ·
  rintro w' ⟨s0, s1, s2, s3, s4, s5, s6, s7, s8, s9, s10, s11⟩
  go_simp
  with_reducible rfl
 rotate_left
 ·
  simp only [Act.put, List.setIfInBounds_toArray, List.set_cons_zero, List.set_cons_succ, i64_w, i32_w]
  rfl
 refine take_ (i := 15) (N := some 18) (v := ?_) (a' := ?_) #[true, true, true, true, true, true, true, true, true, true, true, true, true, true, true, true, false, true, false, true, false, true, false, true, false, false, false, false, false] rfl rfl (take_ofW HT_.out HW_.out (by kernel_rfl)) (fun _ _ _ h => h) (Or.inl ⟨by rfl, ?_⟩) hHeld ?_ ?_
 rotate_left
 ·
  rintro w' ⟨s0, s1, s2, s3, s4, s5, s6, s7, s8, s9, s10, s11⟩
  go_simp
  with_reducible rfl
 rotate_left
 ·
  simp only [Act.put, List.setIfInBounds_toArray, List.set_cons_zero, List.set_cons_succ, i64_w, i32_w]
  rfl
 refine take_ (i := 18) (N := some 21) (v := ?_) (a' := ?_) #[true, true, true, true, true, true, true, true, true, true, true, true, true, true, true, true, false, true, true, true, false, true, false, true, false, false, false, false, false] rfl rfl (take_ofW HT_.out HW_.out (by kernel_rfl)) (fun _ _ _ h => h) (Or.inl ⟨by rfl, ?_⟩) hHeld ?_ ?_
 rotate_left
 ·
  rintro w' ⟨s0, s1, s2, s3, s4, s5, s6, s7, s8, s9, s10, s11⟩
  go_simp
  with_reducible rfl
 rotate_left
 ·
  simp only [Act.put, List.setIfInBounds_toArray, List.set_cons_zero, List.set_cons_succ, i64_w, i32_w]
  rfl
 refine take_ (i := 20) (N := some 23) (v := ?_) (a' := ?_) #[true, true, true, true, true, true, true, true, true, true, true, true, true, true, true, true, false, true, true, true, true, true, false, true, false, false, false, false, false] rfl rfl (take_ofW HT_.out HW_.out (by kernel_rfl)) (fun _ _ _ h => h) (Or.inl ⟨by rfl, ?_⟩) hHeld ?_ ?_
 rotate_left
 ·
  rintro w' ⟨s0, s1, s2, s3, s4, s5, s6, s7, s8, s9, s10, s11⟩
  go_simp
  with_reducible rfl
 rotate_left
 ·
  simp only [Act.put, List.setIfInBounds_toArray, List.set_cons_zero, List.set_cons_succ, i64_w, i32_w]
  rfl
 refine take_ (i := 22) (N := some 25) (v := ?_) (a' := ?_) #[true, true, true, true, true, true, true, true, true, true, true, true, true, true, true, true, false, true, true, true, true, true, true, true, false, false, false, false, false] rfl rfl (take_ofW HT_.out HW_.out (by kernel_rfl)) (fun _ _ _ h => h) (Or.inl ⟨by rfl, ?_⟩) hHeld ?_ ?_
 rotate_left
 ·
  rintro w' ⟨s0, s1, s2, s3, s4, s5, s6, s7, s8, s9, s10, s11⟩
  go_simp
  with_reducible rfl
 rotate_left
 ·
  simp only [Act.put, List.setIfInBounds_toArray, List.set_cons_zero, List.set_cons_succ, i64_w, i32_w]
  rfl
 refine take_ (i := 24) (N := some 27) (v := ?_) (a' := ?_) #[true, true, true, true, true, true, true, true, true, true, true, true, true, true, true, true, false, true, true, true, true, true, true, true, true, false, false, false, false] rfl rfl (take_ofW HT_.out HW_.out (by kernel_rfl)) (fun _ _ _ h => h) (Or.inl ⟨by rfl, ?_⟩) hHeld ?_ ?_
 rotate_left
 ·
  rintro w' ⟨s0, s1, s2, s3, s4, s5, s6, s7, s8, s9, s10, s11⟩
  go_simp
  with_reducible rfl
 rotate_left
 ·
  simp only [Act.put, List.setIfInBounds_toArray, List.set_cons_zero, List.set_cons_succ, i64_w, i32_w]
  rfl
 refine one_ (i := 16) (N := some 19) #[true, true, true, true, true, true, true, true, true, true, true, true, true, true, true, true, true, true, true, true, true, true, true, true, true, false, false, false, false] rfl rfl (one_of HT_.out (by kernel_rfl)) (by decide) (fun K hK => ?_)
 refine goes_ Tryz.func143 (by kernel_rfl) rfl #[.int .i64 a0_7] (by rfl) rfl rfl (by (try simp only [List.map_toArray, List.map_cons, List.map_nil]); first | done | rfl | (simp only [List.length_drop, List.length_take]; rfl)) ?_
 with_reducible refine (strconv_Itoa_143.calls a0_7 t343 _ A2.out (GP.below HGP.out (by repeat (first | (with_reducible first | exact HB.out | apply below_alloc | apply pw_below_drewN | apply below_drew1) | exact HB.out)))).mono ?_
 rintro e w7 ⟨rfl, hb⟩
 refine ⟨_, rfl, ?_⟩
 have n0_ := Aside0.mk (blk_below (g := gb342) (o := .cells #[.string a0_0, .string a0_1, .string a0_2, .string a0_3, .string a0_4, .string a0_5, .string a0_6, .int .i64 a0_7, .string a0_8, .string a0_9, .string a0_10, .int .i64 a0_11] 72 (0, 0)) (by (with_reducible repeat (first | refine blk_drewN ?_ _ | refine blk_drew ?_ | refine blk_alloc ?_ _)); exact BK342.out) hb)
 have n1_ := Aside0.mk (below_step (by repeat (first | (with_reducible first | exact HB.out | apply below_alloc | apply pw_below_drewN | apply below_drew1 | refine below_set ?_ GE342.out) | exact HB.out)) hb)
 clear BK342
 clear HB
 have BK342 := n0_
 have HB := n1_
 clear n0_ n1_
 (try clear hb)
 (try clear hb2)
 (try clear hk)
 (try clear hi)
 refine hK.out _ _ ⟨(blk_cell BK342.out 0).trans rfl, (blk_cell BK342.out 1).trans rfl, (blk_cell BK342.out 2).trans rfl, (blk_cell BK342.out 3).trans rfl, (blk_cell BK342.out 4).trans rfl, (blk_cell BK342.out 5).trans rfl, (blk_cell BK342.out 6).trans rfl, (blk_cell BK342.out 7).trans rfl, (blk_cell BK342.out 8).trans rfl, (blk_cell BK342.out 9).trans rfl, (blk_cell BK342.out 10).trans rfl, (blk_cell BK342.out 11).trans rfl⟩ (fun hHeld => ?_)
 clear hK K
 refine norm_ (a' := ?_) ?_ ?_
 rotate_left
 ·
  show Act.put _ (some 19) _ = _
  simp only [Act.put, List.setIfInBounds_toArray, List.set_cons_zero, List.set_cons_succ, i64_w, i32_w]
  rfl
 refine one_ (i := 25) (N := some 28) #[true, true, true, true, true, true, true, true, true, true, true, true, true, true, true, true, true, true, true, true, true, true, true, true, true, true, false, false, false] rfl rfl (one_of HT_.out (by kernel_rfl)) (by decide) (fun K hK => ?_)
 refine goes_ Tryz.func143 (by kernel_rfl) rfl #[.int .i64 a0_11] (by rfl) rfl rfl (by (try simp only [List.map_toArray, List.map_cons, List.map_nil]); first | done | rfl | (simp only [List.length_drop, List.length_take]; rfl)) ?_
 with_reducible refine (strconv_Itoa_143.calls a0_11 t344 _ A3.out (GP.below HGP.out (by repeat (first | (with_reducible first | exact HB.out | apply below_alloc | apply pw_below_drewN | apply below_drew1) | exact HB.out)))).mono ?_
 rintro e w8 ⟨rfl, hb⟩
 refine ⟨_, rfl, ?_⟩
 have n0_ := Aside0.mk (blk_below (g := gb342) (o := .cells #[.string a0_0, .string a0_1, .string a0_2, .string a0_3, .string a0_4, .string a0_5, .string a0_6, .int .i64 a0_7, .string a0_8, .string a0_9, .string a0_10, .int .i64 a0_11] 72 (0, 0)) (by (with_reducible repeat (first | refine blk_drewN ?_ _ | refine blk_drew ?_ | refine blk_alloc ?_ _)); exact BK342.out) hb)
 have n1_ := Aside0.mk (below_step (by repeat (first | (with_reducible first | exact HB.out | apply below_alloc | apply pw_below_drewN | apply below_drew1 | refine below_set ?_ GE342.out) | exact HB.out)) hb)
 clear BK342
 clear HB
 have BK342 := n0_
 have HB := n1_
 clear n0_ n1_
 (try clear hb)
 (try clear hb2)
 (try clear hk)
 (try clear hi)
 refine hK.out _ _ ⟨(blk_cell BK342.out 0).trans rfl, (blk_cell BK342.out 1).trans rfl, (blk_cell BK342.out 2).trans rfl, (blk_cell BK342.out 3).trans rfl, (blk_cell BK342.out 4).trans rfl, (blk_cell BK342.out 5).trans rfl, (blk_cell BK342.out 6).trans rfl, (blk_cell BK342.out 7).trans rfl, (blk_cell BK342.out 8).trans rfl, (blk_cell BK342.out 9).trans rfl, (blk_cell BK342.out 10).trans rfl, (blk_cell BK342.out 11).trans rfl⟩ (fun hHeld => ?_)
 clear hK K
 refine norm_ (a' := ?_) ?_ ?_
 rotate_left
 ·
  show Act.put _ (some 28) _ = _
  simp only [Act.put, List.setIfInBounds_toArray, List.set_cons_zero, List.set_cons_succ, i64_w, i32_w]
  rfl
 refine one_ (i := 26) (N := some 29) #[true, true, true, true, true, true, true, true, true, true, true, true, true, true, true, true, true, true, true, true, true, true, true, true, true, true, true, false, false] rfl rfl (one_of HT_.out (by kernel_rfl)) (by decide) (fun K hK => ?_)
 refine Kd.R_lit_step Kd.string _ 9 ?hg (N := 29) ?hd (xs := ([a0_0, a0_1, a0_2, a0_3, a0_4, a0_5, a0_6, t343, a0_8, a0_9, a0_10, t344] : List ByteArray)) (inner := [.string a0_0, .string a0_1, .string a0_2, .string a0_3, .string a0_4, .string a0_5, .string a0_6, .string t343, .string a0_8, .string a0_9, .string a0_10, .string t344]) (ok := fun _ => True) (okp := fun _ => True) ?hr ?hp (fun _ hk => hk) trivial (Below.refl _ _) (Nat.le_refl _) (by simp) ?_; (case hd => rfl); (case hg => rfl); (case hr => first | (go_simp; done) | (go_simp; rfl)); (case hp => exact (Reps.one (show Kd.M Kd.string _ _ _ a0_0 [.string a0_0] from rfl) (Reps.one (show Kd.M Kd.string _ _ _ a0_1 [.string a0_1] from rfl) (Reps.one (show Kd.M Kd.string _ _ _ a0_2 [.string a0_2] from rfl) (Reps.one (show Kd.M Kd.string _ _ _ a0_3 [.string a0_3] from rfl) (Reps.one (show Kd.M Kd.string _ _ _ a0_4 [.string a0_4] from rfl) (Reps.one (show Kd.M Kd.string _ _ _ a0_5 [.string a0_5] from rfl) (Reps.one (show Kd.M Kd.string _ _ _ a0_6 [.string a0_6] from rfl) (Reps.one (show Kd.M Kd.string _ _ _ t343 [.string t343] from rfl) (Reps.one (show Kd.M Kd.string _ _ _ a0_8 [.string a0_8] from rfl) (Reps.one (show Kd.M Kd.string _ _ _ a0_9 [.string a0_9] from rfl) (Reps.one (show Kd.M Kd.string _ _ _ a0_10 [.string a0_10] from rfl) (Reps.one (show Kd.M Kd.string _ _ _ t344 [.string t344] from rfl) (Reps.none _ _))))))))))))))
 intro v346 w9 ho10 hb hg_ hnew_
 clear hg_ hnew_
 (first | rw [← Ny345.out] at ho10 | (simp only [Int.reduceToNat] at ho10; rw [← Ny345.out] at ho10))
 have n0_ := Aside0.mk (Kd.R_lower ho10 (below_size (by repeat (first | (with_reducible first | exact HB.out | apply below_alloc | apply pw_below_drewN | apply below_drew1 | refine below_set ?_ GE342.out) | exact HB.out))))
 have n1_ := Aside0.mk (blk_below (g := gb342) (o := .cells #[.string a0_0, .string a0_1, .string a0_2, .string a0_3, .string a0_4, .string a0_5, .string a0_6, .int .i64 a0_7, .string a0_8, .string a0_9, .string a0_10, .int .i64 a0_11] 72 (0, 0)) (by (with_reducible repeat (first | refine blk_drewN ?_ _ | refine blk_drew ?_ | refine blk_alloc ?_ _)); exact BK342.out) hb)
 have n2_ := Aside0.mk (below_step (by repeat (first | (with_reducible first | exact HB.out | apply below_alloc | apply pw_below_drewN | apply below_drew1 | refine below_set ?_ GE342.out) | exact HB.out)) hb)
 clear BK342
 clear HB
 have HO347 := n0_
 have BK342 := n1_
 have HB := n2_
 clear n0_ n1_ n2_
 clear hb ho10
 obtain ⟨Ao11, co11, eo11⟩ := Kd.R_slice HO347.out
 (first | subst eo11 | (injection eo11 with f1_ f2_ f3_; have f4_ := f1_.symm; have f5_ := f3_.symm; clear f1_ f2_ f3_; subst f4_; subst f5_))
 refine hK.out _ _ ⟨(blk_cell BK342.out 0).trans rfl, (blk_cell BK342.out 1).trans rfl, (blk_cell BK342.out 2).trans rfl, (blk_cell BK342.out 3).trans rfl, (blk_cell BK342.out 4).trans rfl, (blk_cell BK342.out 5).trans rfl, (blk_cell BK342.out 6).trans rfl, (blk_cell BK342.out 7).trans rfl, (blk_cell BK342.out 8).trans rfl, (blk_cell BK342.out 9).trans rfl, (blk_cell BK342.out 10).trans rfl, (blk_cell BK342.out 11).trans rfl⟩ (fun hHeld => ?_)
 clear hK K
 refine norm_ (a' := ?_) ?_ ?_
 rotate_left
 ·
  show Act.put _ (some 29) _ = _
  simp only [Act.put, List.setIfInBounds_toArray, List.set_cons_zero, List.set_cons_succ, i64_w, i32_w]
  rfl
 refine one_ (i := 27) (N := some 30) #[true, true, true, true, true, true, true, true, true, true, true, true, true, true, true, true, true, true, true, true, true, true, true, true, true, true, true, true, false] rfl rfl (one_of HT_.out (by kernel_rfl)) (by decide) (fun K hK => ?_)
 refine goes_ Tryz.func101 (by kernel_rfl) rfl #[.slice Ao11 y345.length co11] (by rfl) rfl rfl (by (try simp only [List.map_toArray, List.map_cons, List.map_nil]); first | done | rfl | (simp only [List.length_drop, List.length_take]; rfl)) ?_
 with_reducible refine (row_Texts.calls _ _ y345 t348 _ ?side1 ?side2 A4.out (GP.below HGP.out (by repeat (first | (with_reducible first | exact HB.out | apply below_alloc | apply pw_below_drewN | apply below_drew1) | exact HB.out)))).mono ?_
 (case side1 => repeat (first | exact (Kd.R_reads' HO347.out).2.2 | (with_reducible refine Kd.C_alloc ?_ _) | (with_reducible refine Kd.C_drewN ?_ _) | (with_reducible refine Kd.C_drew ?_)))
 (case side2 => exact (Kd.R_reads' HO347.out).2.1)
 rintro e w12 ⟨rfl, hb⟩
 refine ⟨_, rfl, ?_⟩
 have n0_ := Aside0.mk (Kd.R_below (by (with_reducible repeat (first | apply Kd.R_alloc | apply Kd.R_drewN | apply Kd.R_drew)); exact HO347.out) hb)
 have n1_ := Aside0.mk (blk_below (g := gb342) (o := .cells #[.string a0_0, .string a0_1, .string a0_2, .string a0_3, .string a0_4, .string a0_5, .string a0_6, .int .i64 a0_7, .string a0_8, .string a0_9, .string a0_10, .int .i64 a0_11] 72 (0, 0)) (by (with_reducible repeat (first | refine blk_drewN ?_ _ | refine blk_drew ?_ | refine blk_alloc ?_ _)); exact BK342.out) hb)
 have n2_ := Aside0.mk (below_step (by repeat (first | (with_reducible first | exact HB.out | apply below_alloc | apply pw_below_drewN | apply below_drew1 | refine below_set ?_ GE342.out) | exact HB.out)) hb)
 clear HO347
 clear BK342
 clear HB
 have HO347 := n0_
 have BK342 := n1_
 have HB := n2_
 clear n0_ n1_ n2_
 (try clear hb)
 (try clear hb2)
 (try clear hk)
 (try clear hi)
 refine hK.out _ _ ⟨(blk_cell BK342.out 0).trans rfl, (blk_cell BK342.out 1).trans rfl, (blk_cell BK342.out 2).trans rfl, (blk_cell BK342.out 3).trans rfl, (blk_cell BK342.out 4).trans rfl, (blk_cell BK342.out 5).trans rfl, (blk_cell BK342.out 6).trans rfl, (blk_cell BK342.out 7).trans rfl, (blk_cell BK342.out 8).trans rfl, (blk_cell BK342.out 9).trans rfl, (blk_cell BK342.out 10).trans rfl, (blk_cell BK342.out 11).trans rfl⟩ (fun hHeld => ?_)
 clear hK K
 refine norm_ (a' := ?_) ?_ ?_
 rotate_left
 ·
  show Act.put _ (some 30) _ = _
  simp only [Act.put, List.setIfInBounds_toArray, List.set_cons_zero, List.set_cons_succ, i64_w, i32_w]
  rfl
 refine pure_ (i := 28) (N := some 2) (v := ?_) (a' := ?_) #[true, true, true, true, true, true, true, true, true, true, true, true, true, true, true, true, true, true, true, true, true, true, true, true, true, true, true, true, true] rfl rfl (any_of HT_.out (by kernel_rfl)) (fun _ _ _ h => h) (Or.inl ⟨by rfl, ?_⟩) ?_ ?_
 rotate_left
 ·
  intro w'
  go_simp
  with_reducible rfl
 rotate_left
 ·
  simp only [Act.put, List.setIfInBounds_toArray, List.set_cons_zero, List.set_cons_succ, i64_w, i32_w]
  rfl
 refine done_ (done_of HT_.out (by kernel_rfl)) ?_
 try go_wp2
 go_ret
 exact ⟨by first | rfl | (simp [errW_none, errW_some] <;> rfl) | (simp [*, errW_none, errW_some] <;> rfl), by repeat (first | (with_reducible first | exact HB.out | apply below_alloc | apply pw_below_drewN | apply below_drew1 | refine below_set ?_ GE342.out) | exact HB.out)⟩

def seat_Save.f (a0_0 : ByteArray) (a0_1 : ByteArray) (a0_2 : ByteArray) (a0_3 : ByteArray) (a0_4 : ByteArray) (a0_5 : ByteArray) (a0_6 : ByteArray) (a0_7 : Int) (a0_8 : ByteArray) (a0_9 : ByteArray) (a0_10 : ByteArray) (a0_11 : Int) : Option (ByteArray × ByteArray × Bool) := (seat_Key.f a0_0).bind fun t351 => ((row_Session.f a0_0 a0_1 a0_2 a0_3 a0_4 a0_5 a0_6 a0_7 a0_8 a0_9 a0_10 a0_11).bind fun t352 => (some (t351, t352, false)))
set_option maxHeartbeats 8000000 in
set_option maxRecDepth 100000 in
theorem seat_Save.calls (a0_0 : ByteArray) (a0_1 : ByteArray) (a0_2 : ByteArray) (a0_3 : ByteArray) (a0_4 : ByteArray) (a0_5 : ByteArray) (a0_6 : ByteArray) (a0_7 : Int) (a0_8 : ByteArray) (a0_9 : ByteArray) (a0_10 : ByteArray) (a0_11 : Int) (r1 : ByteArray) (r2 : ByteArray) (r3 : Bool) (w : World) (h : seat_Save.f a0_0 a0_1 a0_2 a0_3 a0_4 a0_5 a0_6 a0_7 a0_8 a0_9 a0_10 a0_11 = some (r1, r2, r3)) (hGP : GP w) :
  Calls Tryz.prog 43 #[.agg #[.string a0_0, .string a0_1, .string a0_2, .string a0_3, .string a0_4, .string a0_5, .string a0_6, .int .i64 a0_7, .string a0_8, .string a0_9, .string a0_10, .int .i64 a0_11]] w fun e w' => e = .returned (.agg #[.string r1, .string r2, .bool r3]) ∧ Below w.heap.size w w' := by
 have HGP := Aside0.mk hGP
 clear hGP
 have hu72 := Tryz.underlying72
 have hu69 := Tryz.underlying69
 have HB := Aside0.mk (Below.refl w.heap.size w)
 have H : ((seat_Key.f a0_0).bind fun t351 => ((row_Session.f a0_0 a0_1 a0_2 a0_3 a0_4 a0_5 a0_6 a0_7 a0_8 a0_9 a0_10 a0_11).bind fun t352 => (some (t351, t352, false)))) = some (r1, r2, r3) := h
 clear h
 replace H := Option.bind_eq_some_iff.mp H
 obtain ⟨t351, A20, H⟩ := H
 replace H : ((row_Session.f a0_0 a0_1 a0_2 a0_3 a0_4 a0_5 a0_6 a0_7 a0_8 a0_9 a0_10 a0_11).bind fun t352 => (some (t351, t352, false))) = some (r1, r2, r3) := H
 have A2 := Aside0.mk A20
 clear A20
 replace H := Option.bind_eq_some_iff.mp H
 obtain ⟨t352, A30, H⟩ := H
 replace H : (some (t351, t352, false)) = some (r1, r2, r3) := H
 have A3 := Aside0.mk A30
 clear A30
 simp only [Option.some.injEq, Prod.mk.injEq] at H
 obtain ⟨rfl, rfl, rfl⟩ := H
 go_enter Tryz.func43, Tryz.ntmps43
 try go_wp2_with (first | ((with_reducible refine gate_dst (N := 1) rfl ?_); refine box_event ?hg (N := 1) ?hd (cs := #[.string a0_0, .string a0_1, .string a0_2, .string a0_3, .string a0_4, .string a0_5, .string a0_6, .int .i64 a0_7, .string a0_8, .string a0_9, .string a0_10, .int .i64 a0_11]) (t := 72) ?hr ?_; (case hd => rfl); (case hg => rfl); (case hr => first | (go_simp; done) | (go_simp; rfl)); intro gb349 hg w4 hbox hb; have n0_ := Aside0.mk (below_step (by repeat (first | (with_reducible first | exact HB.out | apply below_alloc | apply pw_below_drewN | apply below_drew1) | exact HB.out)) hb); have n1_ := Aside0.mk (hbox); have n2_ := Aside0.mk ((by rw [hg]; exact (below_size (by repeat (first | (with_reducible first | exact HB.out | apply below_alloc | apply pw_below_drewN | apply below_drew1) | exact HB.out))) : w.heap.size ≤ gb349)); have n3_ := Aside0.mk ((by rw [hg]; exact (below_size (by repeat (first | (with_reducible first | exact HB.out | apply below_alloc | apply pw_below_drewN | apply below_drew1) | exact HB.out))) : w.heap.size ≤ gb349)); clear HB; have HB := n0_; have BK349 := n1_; have GW349 := n2_; have GE349 := n3_; clear n0_ n1_ n2_ n3_; clear hb hbox hg) | ((with_reducible refine gate_dst (N := 2) rfl ?_); refine box_event ?hg (N := 2) ?hd (cs := #[.string (⟨#[]⟩ : ByteArray), .string (⟨#[]⟩ : ByteArray), .bool false]) (t := 69) ?hr ?_; (case hd => rfl); (case hg => rfl); (case hr => first | (go_simp; done) | (go_simp; rfl)); intro gb350 hg w5 hbox hb; have n0_ := Aside0.mk (blk_below (g := gb349) (o := .cells #[.string a0_0, .string a0_1, .string a0_2, .string a0_3, .string a0_4, .string a0_5, .string a0_6, .int .i64 a0_7, .string a0_8, .string a0_9, .string a0_10, .int .i64 a0_11] 72 (0, 0)) (by (with_reducible repeat (first | refine blk_drewN ?_ _ | refine blk_drew ?_ | refine blk_alloc ?_ _)); exact BK349.out) hb); have n1_ := Aside0.mk (below_step (by repeat (first | (with_reducible first | exact HB.out | apply below_alloc | apply pw_below_drewN | apply below_drew1 | refine below_set ?_ GE349.out) | exact HB.out)) hb); have n2_ := Aside0.mk (hbox); have n3_ := Aside0.mk ((by rw [hg]; exact (below_size (by repeat (first | (with_reducible first | exact HB.out | apply below_alloc | apply pw_below_drewN | apply below_drew1 | refine below_set ?_ GE349.out) | exact HB.out))) : w.heap.size ≤ gb350)); have n4_ := Aside0.mk ((by rw [hg]; exact (below_size (by repeat (first | (with_reducible first | exact HB.out | apply below_alloc | apply pw_below_drewN | apply below_drew1 | refine below_set ?_ GE349.out) | exact HB.out))) : w.heap.size ≤ gb350)); have n5_ := Aside0.mk ((by rw [hg]; exact Nat.ne_of_lt (blk_lt (g := gb349) (o := .cells #[.string a0_0, .string a0_1, .string a0_2, .string a0_3, .string a0_4, .string a0_5, .string a0_6, .int .i64 a0_7, .string a0_8, .string a0_9, .string a0_10, .int .i64 a0_11] 72 (0, 0)) (by (with_reducible repeat (first | refine blk_drewN ?_ _ | refine blk_drew ?_ | refine blk_alloc ?_ _)); exact BK349.out)) : gb349 ≠ gb350)); have n6_ := Aside0.mk ((by rw [hg]; exact Nat.ne_of_gt (blk_lt (g := gb349) (o := .cells #[.string a0_0, .string a0_1, .string a0_2, .string a0_3, .string a0_4, .string a0_5, .string a0_6, .int .i64 a0_7, .string a0_8, .string a0_9, .string a0_10, .int .i64 a0_11] 72 (0, 0)) (by (with_reducible repeat (first | refine blk_drewN ?_ _ | refine blk_drew ?_ | refine blk_alloc ?_ _)); exact BK349.out)) : gb350 ≠ gb349)); clear BK349; clear HB; have BK349 := n0_; have HB := n1_; have BK350 := n2_; have GW350 := n3_; have GE350 := n4_; have NB349_350 := n5_; have NB350_349 := n6_; clear n0_ n1_ n2_ n3_ n4_ n5_ n6_; clear hb hbox hg))
 have n0_ := Aside0.mk (blk_drew BK349.out)
 have n1_ := Aside0.mk (blk_drew BK350.out)
 have n2_ := Aside0.mk (below_drew1 HB.out)
 clear BK349
 clear BK350
 clear HB
 have BK349 := n0_
 have BK350 := n1_
 have HB := n2_
 clear n0_ n1_ n2_
 refine start_ (n := 7) (S := fun w' => w'.cell? ⟨gb349, 0, none⟩ = some (.string a0_0) ∧ w'.cell? ⟨gb349, 1, none⟩ = some (.string a0_1) ∧ w'.cell? ⟨gb349, 2, none⟩ = some (.string a0_2) ∧ w'.cell? ⟨gb349, 3, none⟩ = some (.string a0_3) ∧ w'.cell? ⟨gb349, 4, none⟩ = some (.string a0_4) ∧ w'.cell? ⟨gb349, 5, none⟩ = some (.string a0_5) ∧ w'.cell? ⟨gb349, 6, none⟩ = some (.string a0_6) ∧ w'.cell? ⟨gb349, 7, none⟩ = some (.int .i64 a0_7) ∧ w'.cell? ⟨gb349, 8, none⟩ = some (.string a0_8) ∧ w'.cell? ⟨gb349, 9, none⟩ = some (.string a0_9) ∧ w'.cell? ⟨gb349, 10, none⟩ = some (.string a0_10) ∧ w'.cell? ⟨gb349, 11, none⟩ = some (.int .i64 a0_11)) (ds := []) #[false, false, false, false, false, false, false] (by kernel_rfl) rfl rfl ⟨(blk_cell BK349.out 0).trans rfl, (blk_cell BK349.out 1).trans rfl, (blk_cell BK349.out 2).trans rfl, (blk_cell BK349.out 3).trans rfl, (blk_cell BK349.out 4).trans rfl, (blk_cell BK349.out 5).trans rfl, (blk_cell BK349.out 6).trans rfl, (blk_cell BK349.out 7).trans rfl, (blk_cell BK349.out 8).trans rfl, (blk_cell BK349.out 9).trans rfl, (blk_cell BK349.out 10).trans rfl, (blk_cell BK349.out 11).trans rfl⟩ (fun hHeld => ?_)
 generalize w5.drew = w6 at BK349 BK350 HB hHeld ⊢
 refine pure_ (i := 0) (N := some 3) (v := ?_) (a' := ?_) #[true, false, false, false, false, false, false] rfl rfl (by kernel_rfl) (fun _ _ _ h => h) (Or.inl ⟨by rfl, ?_⟩) ?_ ?_
 rotate_left
 ·
  intro w'
  go_simp
  with_reducible rfl
 rotate_left
 ·
  simp only [Act.put, List.setIfInBounds_toArray, List.set_cons_zero, List.set_cons_succ, i64_w, i32_w]
  rfl
 refine take_ (i := 1) (N := some 4) (v := ?_) (a' := ?_) #[true, true, false, false, false, false, false] rfl rfl (by kernel_rfl) (fun _ _ _ h => h) (Or.inl ⟨by rfl, ?_⟩) hHeld ?_ ?_
 rotate_left
 ·
  rintro w' ⟨s0, s1, s2, s3, s4, s5, s6, s7, s8, s9, s10, s11⟩
  go_simp
  with_reducible rfl
 rotate_left
 ·
  simp only [Act.put, List.setIfInBounds_toArray, List.set_cons_zero, List.set_cons_succ, i64_w, i32_w]
  rfl
 refine take_ (i := 3) (N := some 6) (v := ?_) (a' := ?_) #[true, true, false, true, false, false, false] rfl rfl (by kernel_rfl) (fun _ _ _ h => h) (Or.inl ⟨by rfl, ?_⟩) hHeld ?_ ?_
 rotate_left
 ·
  rintro w' ⟨s0, s1, s2, s3, s4, s5, s6, s7, s8, s9, s10, s11⟩
  go_simp
  with_reducible rfl
 rotate_left
 ·
  simp only [Act.put, List.setIfInBounds_toArray, List.set_cons_zero, List.set_cons_succ, i64_w, i32_w]
  rfl
 refine one_ (i := 2) (N := some 5) #[true, true, true, true, false, false, false] rfl rfl (by kernel_rfl) (by decide) (fun K hK => ?_)
 refine goes_ Tryz.func46 (by kernel_rfl) rfl #[.string a0_0] (by rfl) rfl rfl (by (try simp only [List.map_toArray, List.map_cons, List.map_nil]); first | done | rfl | (simp only [List.length_drop, List.length_take]; rfl)) ?_
 with_reducible refine (seat_Key.calls a0_0 t351 _ A2.out).mono ?_
 rintro e w' ⟨rfl, ⟨nd, rfl⟩⟩
 refine ⟨_, rfl, ?_⟩
 refine hK.out _ _ ⟨(blk_cell BK349.out 0).trans rfl, (blk_cell BK349.out 1).trans rfl, (blk_cell BK349.out 2).trans rfl, (blk_cell BK349.out 3).trans rfl, (blk_cell BK349.out 4).trans rfl, (blk_cell BK349.out 5).trans rfl, (blk_cell BK349.out 6).trans rfl, (blk_cell BK349.out 7).trans rfl, (blk_cell BK349.out 8).trans rfl, (blk_cell BK349.out 9).trans rfl, (blk_cell BK349.out 10).trans rfl, (blk_cell BK349.out 11).trans rfl⟩ (fun hHeld => ?_)
 clear hK K
 refine norm_ (a' := ?_) ?_ ?_
 rotate_left
 ·
  show Act.put _ (some 5) _ = _
  simp only [Act.put, List.setIfInBounds_toArray, List.set_cons_zero, List.set_cons_succ, i64_w, i32_w]
  rfl
 refine one_ (i := 4) (N := some 7) #[true, true, true, true, true, false, false] rfl rfl (by kernel_rfl) (by decide) (fun K hK => ?_)
 refine goes_ Tryz.func103 (by kernel_rfl) rfl #[.agg #[.string a0_0, .string a0_1, .string a0_2, .string a0_3, .string a0_4, .string a0_5, .string a0_6, .int .i64 a0_7, .string a0_8, .string a0_9, .string a0_10, .int .i64 a0_11]] (by rfl) rfl rfl (by (try simp only [List.map_toArray, List.map_cons, List.map_nil]); first | done | rfl | (simp only [List.length_drop, List.length_take]; rfl)) ?_
 with_reducible refine (row_Session.calls a0_0 a0_1 a0_2 a0_3 a0_4 a0_5 a0_6 a0_7 a0_8 a0_9 a0_10 a0_11 t352 _ A3.out (GP.below HGP.out (by repeat (first | (with_reducible first | exact HB.out | apply below_alloc | apply pw_below_drewN | apply below_drew1) | exact HB.out)))).mono ?_
 rintro e w7 ⟨rfl, hb⟩
 refine ⟨_, rfl, ?_⟩
 have n0_ := Aside0.mk (blk_below (g := gb349) (o := .cells #[.string a0_0, .string a0_1, .string a0_2, .string a0_3, .string a0_4, .string a0_5, .string a0_6, .int .i64 a0_7, .string a0_8, .string a0_9, .string a0_10, .int .i64 a0_11] 72 (0, 0)) (by (with_reducible repeat (first | refine blk_drewN ?_ _ | refine blk_drew ?_ | refine blk_alloc ?_ _)); exact BK349.out) hb)
 have n1_ := Aside0.mk (blk_below (g := gb350) (o := .cells #[.string (⟨#[]⟩ : ByteArray), .string (⟨#[]⟩ : ByteArray), .bool false] 69 (0, 0)) (by (with_reducible repeat (first | refine blk_drewN ?_ _ | refine blk_drew ?_ | refine blk_alloc ?_ _)); exact BK350.out) hb)
 have n2_ := Aside0.mk (below_step (by repeat (first | (with_reducible first | exact HB.out | apply below_alloc | apply pw_below_drewN | apply below_drew1 | refine below_set ?_ GE349.out | refine below_set ?_ GE350.out) | exact HB.out)) hb)
 clear BK349
 clear BK350
 clear HB
 have BK349 := n0_
 have BK350 := n1_
 have HB := n2_
 clear n0_ n1_ n2_
 (try clear hb)
 (try clear hb2)
 (try clear hk)
 (try clear hi)
 refine hK.out _ _ ⟨(blk_cell BK349.out 0).trans rfl, (blk_cell BK349.out 1).trans rfl, (blk_cell BK349.out 2).trans rfl, (blk_cell BK349.out 3).trans rfl, (blk_cell BK349.out 4).trans rfl, (blk_cell BK349.out 5).trans rfl, (blk_cell BK349.out 6).trans rfl, (blk_cell BK349.out 7).trans rfl, (blk_cell BK349.out 8).trans rfl, (blk_cell BK349.out 9).trans rfl, (blk_cell BK349.out 10).trans rfl, (blk_cell BK349.out 11).trans rfl⟩ (fun hHeld => ?_)
 clear hK K
 refine norm_ (a' := ?_) ?_ ?_
 rotate_left
 ·
  show Act.put _ (some 7) _ = _
  simp only [Act.put, List.setIfInBounds_toArray, List.set_cons_zero, List.set_cons_succ, i64_w, i32_w]
  rfl
 refine pure_ (i := 5) (N := some 8) (v := ?_) (a' := ?_) #[true, true, true, true, true, true, false] rfl rfl (by kernel_rfl) (fun _ _ _ h => h) (Or.inl ⟨by rfl, ?_⟩) ?_ ?_
 rotate_left
 ·
  intro w'
  go_simp
  with_reducible rfl
 rotate_left
 ·
  simp only [Act.put, List.setIfInBounds_toArray, List.set_cons_zero, List.set_cons_succ, i64_w, i32_w]
  rfl
 refine one_ (i := 6) (N := none) #[true, true, true, true, true, true, true] rfl rfl (by kernel_rfl) (by decide) (fun K hK => ?_)
 have hs8 : w7.cell? ⟨gb350, 0, none⟩ = some (.string (⟨#[]⟩ : ByteArray)) := (blk_cell BK350.out 0).trans rfl
 have hfs8 := blk_frozen BK350.out 0
 have hns8_0 := NB349_350.out
 have hms8_0 := NB350_349.out
 have hs9 : w7.cell? ⟨gb350, 1, none⟩ = some (.string (⟨#[]⟩ : ByteArray)) := (blk_cell BK350.out 1).trans rfl
 have hfs9 := blk_frozen BK350.out 1
 have hns9_0 := NB349_350.out
 have hms9_0 := NB350_349.out
 have hs10 : w7.cell? ⟨gb350, 2, none⟩ = some (.bool false) := (blk_cell BK350.out 2).trans rfl
 have hfs10 := blk_frozen BK350.out 2
 have hns10_0 := NB349_350.out
 have hms10_0 := NB350_349.out
 refine skip_ (w1 := ?_) (by rfl) rfl ?_ ?_
 rotate_left
 ·
  go_simp
  rfl
 refine hK.out _ _ ⟨((cell_far (p := ⟨gb350, _, none⟩) NB349_350.out _).trans (((cell_far (p := ⟨gb350, _, none⟩) NB349_350.out _).trans (((cell_far (p := ⟨gb350, _, none⟩) NB349_350.out _).trans (hHeld.1)))))), ((cell_far (p := ⟨gb350, _, none⟩) NB349_350.out _).trans (((cell_far (p := ⟨gb350, _, none⟩) NB349_350.out _).trans (((cell_far (p := ⟨gb350, _, none⟩) NB349_350.out _).trans (hHeld.2.1)))))), ((cell_far (p := ⟨gb350, _, none⟩) NB349_350.out _).trans (((cell_far (p := ⟨gb350, _, none⟩) NB349_350.out _).trans (((cell_far (p := ⟨gb350, _, none⟩) NB349_350.out _).trans (hHeld.2.2.1)))))), ((cell_far (p := ⟨gb350, _, none⟩) NB349_350.out _).trans (((cell_far (p := ⟨gb350, _, none⟩) NB349_350.out _).trans (((cell_far (p := ⟨gb350, _, none⟩) NB349_350.out _).trans (hHeld.2.2.2.1)))))), ((cell_far (p := ⟨gb350, _, none⟩) NB349_350.out _).trans (((cell_far (p := ⟨gb350, _, none⟩) NB349_350.out _).trans (((cell_far (p := ⟨gb350, _, none⟩) NB349_350.out _).trans (hHeld.2.2.2.2.1)))))), ((cell_far (p := ⟨gb350, _, none⟩) NB349_350.out _).trans (((cell_far (p := ⟨gb350, _, none⟩) NB349_350.out _).trans (((cell_far (p := ⟨gb350, _, none⟩) NB349_350.out _).trans (hHeld.2.2.2.2.2.1)))))), ((cell_far (p := ⟨gb350, _, none⟩) NB349_350.out _).trans (((cell_far (p := ⟨gb350, _, none⟩) NB349_350.out _).trans (((cell_far (p := ⟨gb350, _, none⟩) NB349_350.out _).trans (hHeld.2.2.2.2.2.2.1)))))), ((cell_far (p := ⟨gb350, _, none⟩) NB349_350.out _).trans (((cell_far (p := ⟨gb350, _, none⟩) NB349_350.out _).trans (((cell_far (p := ⟨gb350, _, none⟩) NB349_350.out _).trans (hHeld.2.2.2.2.2.2.2.1)))))), ((cell_far (p := ⟨gb350, _, none⟩) NB349_350.out _).trans (((cell_far (p := ⟨gb350, _, none⟩) NB349_350.out _).trans (((cell_far (p := ⟨gb350, _, none⟩) NB349_350.out _).trans (hHeld.2.2.2.2.2.2.2.2.1)))))), ((cell_far (p := ⟨gb350, _, none⟩) NB349_350.out _).trans (((cell_far (p := ⟨gb350, _, none⟩) NB349_350.out _).trans (((cell_far (p := ⟨gb350, _, none⟩) NB349_350.out _).trans (hHeld.2.2.2.2.2.2.2.2.2.1)))))), ((cell_far (p := ⟨gb350, _, none⟩) NB349_350.out _).trans (((cell_far (p := ⟨gb350, _, none⟩) NB349_350.out _).trans (((cell_far (p := ⟨gb350, _, none⟩) NB349_350.out _).trans (hHeld.2.2.2.2.2.2.2.2.2.2.1)))))), ((cell_far (p := ⟨gb350, _, none⟩) NB349_350.out _).trans (((cell_far (p := ⟨gb350, _, none⟩) NB349_350.out _).trans (((cell_far (p := ⟨gb350, _, none⟩) NB349_350.out _).trans (hHeld.2.2.2.2.2.2.2.2.2.2.2))))))⟩ (fun hHeld => ?_)
 clear hK K
 refine done_ (by kernel_rfl) ?_
 try go_wp2
 refine bodyPost_ret (results_cell_row rfl _ _ gb350 69 #[.string t351, .string t352, .bool false] (0, 0) _ rfl (by (with_reducible repeat (first | refine blk_drewN ?_ _ | refine blk_drew ?_ | refine blk_alloc ?_ _)); refine blk_put (cs := #[.string t351, .string t352, .bool false]) ?_ 2 _ rfl; (with_reducible repeat (first | refine blk_drewN ?_ _ | refine blk_drew ?_ | refine blk_alloc ?_ _)); refine blk_put (cs := #[.string t351, .string (⟨#[]⟩ : ByteArray), .bool false]) ?_ 1 _ rfl; (with_reducible repeat (first | refine blk_drewN ?_ _ | refine blk_drew ?_ | refine blk_alloc ?_ _)); refine blk_put (cs := #[.string (⟨#[]⟩ : ByteArray), .string (⟨#[]⟩ : ByteArray), .bool false]) ?_ 0 _ rfl; (with_reducible repeat (first | refine blk_drewN ?_ _ | refine blk_drew ?_ | refine blk_alloc ?_ _)); exact BK350.out) Tryz.underlying69 rfl (by kernel_rfl)) rfl ?_
 exact ⟨by first | rfl | (simp [errW_none, errW_some] <;> rfl) | (simp [*, errW_none, errW_some] <;> rfl), by repeat (first | (with_reducible first | exact HB.out | apply below_alloc | apply pw_below_drewN | apply below_drew1 | refine below_set ?_ GE349.out | refine below_set ?_ GE350.out) | exact HB.out)⟩

-- NOT PRINTED: function 239 (strconv_lower)

-- NOT PRINTED: function 240 (strconv_underscoreOK)

-- NOT PRINTED: function 226 (strconv_ParseUint)

-- NOT PRINTED: function 206 (strconv_ParseInt)

-- NOT PRINTED: function 181 (strconv_Atoi_181)

-- NOT PRINTED: function 227 (stringslite_Clone)

-- NOT PRINTED: function 207 (strconv_syntaxError)

-- NOT PRINTED: function 208 (strconv_rangeError)

-- NOT PRINTED: function 228 (errors_New)

-- NOT PRINTED: function 209 (strconv_baseError)

-- NOT PRINTED: function 210 (strconv_bitSizeError)

-- NOT PRINTED: function 182 (strconv_toError)

-- NOT PRINTED: function 167 (strconv_Atoi_167)

-- NOT PRINTED: function 230 (bytealg_IndexByteString)

-- NOT PRINTED: function 217 (stringslite_IndexByte)

-- NOT PRINTED: function 236 (bytealg_IndexString)

-- NOT PRINTED: function 237 (bytealg_Cutover)

-- NOT PRINTED: function 242 (bytealg_hashStr_string)

-- NOT PRINTED: function 238 (bytealg_IndexRabinKarp_string)

-- NOT PRINTED: function 225 (stringslite_Index)

-- NOT PRINTED: function 205 (stringslite_Cut)

-- NOT PRINTED: function 180 (strings_Cut)

end Go.Proofs.YtpoblffgclmmlaaGreatDoor.Q
end
section
namespace Go.Proofs.YtpoblffgclmmlaaGreatDoor.Q
open Go.RowKit Go.Proofs.YtpoblffgclmmlaaGreatDoorW.PrintWords Go.Proofs.YtpoblffgclmmlaaGreatDoorW.PrintLast Go.Proofs.YtpoblffgclmmlaaGreatDoorW.PrintMore
attribute [local go_sem] max2_int min2_int max_two min_two max_three min_three max_four min_four   -- for this text's walks alone
open Go.Proofs.YtpoblffgclmmlaaGreatDoor.X
set_option linter.unusedVariables false
set_option linter.unusedSimpArgs false

theorem dd_len_le (k : Nat) : ∀ n, n < 10 ^ (k + 1) → (dd n).length ≤ k + 1 := by
 induction k with
 | zero => intro n h; rw [dd_small (by simpa using h)]; exact Nat.le_refl _
 | succ k ih =>
  intro n h
  by_cases h10 : n < 10
  ·
   rw [dd_small h10]; simp
  ·
   rw [dd_big h10, List.length_append]
   have := ih (n / 10) (by rw [Nat.pow_succ] at h; omega)
   simp only [List.length_singleton]; omega
theorem tx_len_le (s : ByteArray) (h : s.size ≤ 4294967280) : (tx s).length ≤ 11 + s.size := by
 have h1 := dd_len_le 9 s.size (by omega)
 unfold tx
 have h2 : s.data.toList.length = s.size := by rw [Array.length_toList, ByteArray.size_data]
 rw [List.length_append, List.length_cons]; omega
theorem index_colon (a r : List UInt8) (h : (58 : UInt8) ∉ a) : Lib.index (a ++ 58 :: r) [58] = (a.length : Int) := by
 induction a with
 | nil => simp [Lib.index]
 | cons c a ih =>
  have hc : ¬ (58 : UInt8) = c := fun e => h (by rw [e]; exact List.mem_cons_self ..)
  have h1 := ih (fun h' => h (List.mem_cons_of_mem _ h'))
  rw [List.cons_append]
  have h2 : ([58] : List UInt8).isPrefixOf (c :: (a ++ 58 :: r)) = false := by simp [List.isPrefixOf, hc]
  have h3 : ((a.length : Int) == -1) = false := by rw [beq_eq_false_iff_ne]; omega
  simp only [Lib.index, h2, h1, h3]
  simp
theorem cut_texts (a : ByteArray) (l : List ByteArray) : Lib.cut (txs (a :: l)) [58] = (dd a.size, a.data.toList ++ txs l, true) := by
 rw [txs_cons]
 unfold Lib.cut
 rw [index_colon _ _ (dd_colon _), if_pos (by omega), Int.toNat_natCast, List.take_left' rfl]
 show (_, List.drop ((dd a.size).length + 1) _, _) = _
 rw [drop_colon]
theorem cut_len (s : List UInt8) (hs : s ≠ []) : (Lib.cut s [58]).1.length ≤ s.length ∧ (Lib.cut s [58]).2.1.length + 1 ≤ s.length := by
 have h1 : 1 ≤ s.length := List.length_pos_iff.2 hs
 unfold Lib.cut
 split
 ·
  refine ⟨?_, ?_⟩
  ·
   rw [List.length_take]; omega
  ·
   rw [List.length_drop]; show _ - (_ + 1) + 1 ≤ _; omega
 ·
  exact ⟨Nat.le_refl _, h1⟩
theorem atoi_any (s : ByteArray) (hs : s.size ≤ 281474976710656) (w : World) (hGE : GE w) :
  Calls Tryz.prog 167 #[.string s] w fun e w' => ∃ n ev, e = .returned (.tuple #[.int .i64 n, ev]) ∧ Below w.heap.size w w' ∧ ((ev = .nilIface ∧ Lib.atoiAll s.data.toList = .ok n) ∨ ((∃ te pe, ev = .iface te pe) ∧ ∀ v, Lib.atoiAll s.data.toList ≠ .ok v)) := by
 obtain ⟨⟨t3, p3, h3⟩, ⟨t4, p4, h4⟩, -⟩ := hGE
 cases hA : Lib.atoiAll s.data.toList with
 | ok v =>
  refine (Tryz.strconv_Atoi_ok s (by omega) v hA w).mono ?_
  rintro e w1 ⟨rfl, hw1⟩
  refine ⟨v, _, rfl, ?_, .inl ⟨rfl, rfl⟩⟩
  rcases hw1 with rfl | ⟨t, rfl⟩
  ·
   exact Below.refl _ _
  ·
   exact Lib.bytesWorld_below _ _ _
 | range =>
  refine (Tryz.strconv_Atoi_range s hs hA _ w h4 (.inr ⟨_, _, rfl⟩)).mono ?_
  rintro e w1 ⟨N, rfl, hN, hNc, hb1⟩
  exact ⟨_, _, rfl, hb1, .inr ⟨⟨_, _, rfl⟩, fun v h => by cases h⟩⟩
 | _ =>
  refine (Tryz.strconv_Atoi_syntax s hs hA _ w h3 (.inr ⟨_, _, rfl⟩)).mono ?_
  rintro e w1 ⟨N, rfl, hN, hNc, hb1⟩
  exact ⟨_, _, rfl, hb1, .inr ⟨⟨_, _, rfl⟩, fun v h => by cases h⟩⟩
def splR (a0 : ByteArray) : List ByteArray × Int := match unTx a0 with
 | some l => (l, 0)
 | none => ([], 2)
theorem splR_none {a0 : ByteArray} (h : ∀ l, unTx a0 = some l → False) : splR a0 = ([], 2) := by
 unfold splR
 cases hU : unTx a0 with
 | none => rfl
 | some l => exact absurd hU (fun e => h l e)
theorem splR_some {a0 : ByteArray} {l : List ByteArray} (h : txs l = a0.data.toList) : splR a0 = (l, 0) := by
 unfold splR
 rw [(unTx_iff a0 l).2 h]
/-- What is left is of texts still, if the whole was. -/
def LeftT (a0 : ByteArray) (done : List ByteArray) (rest : ByteArray) : Prop := ∀ l, txs l = a0.data.toList → ∃ l', l = done ++ l' ∧ txs l' = rest.data.toList
theorem LeftT.bad {a0 : ByteArray} {done : List ByteArray} {rest : ByteArray} (h : LeftT a0 done rest) (hr : rest.data.toList ≠ []) (hc : ∀ x l, rest.data.toList = txs (x :: l) → False) : splR a0 = ([], 2) := by
 refine splR_none (fun l hl => ?_)
 obtain ⟨l', _, h2⟩ := h l ((unTx_iff a0 l).1 hl)
 cases l' with
 | nil => rw [txs_nil] at h2; exact hr h2.symm
 | cons x l => exact hc x l h2.symm
theorem LeftT.next {a0 : ByteArray} {done : List ByteArray} {rest y r : ByteArray} (h : LeftT a0 done rest) (hr : rest.data.toList ≠ []) (hc : ∀ x l, rest.data.toList = txs (x :: l) → y = x ∧ r.data.toList = txs l) : LeftT a0 (done ++ [y]) r := by
 intro l hl
 obtain ⟨l', h1, h2⟩ := h l hl
 cases l' with
 | nil => rw [txs_nil] at h2; exact absurd h2.symm hr
 | cons x l =>
  obtain ⟨e1, e2⟩ := hc x l h2.symm
  exact ⟨l, by rw [h1, e1]; simp, e2.symm⟩
set_option maxHeartbeats 4000000 in
set_option maxRecDepth 100000 in
theorem row_Split.says (a0 : ByteArray) (w : World) (hs : a0.size ≤ 4294967280) (hGP : GP w) (hGE : GE w) :
  Calls Tryz.prog 166 #[.string a0] w fun e w' => ∃ v0_ : Value, e = .returned (.tuple #[v0_, .int .i64 (splR a0).2]) ∧ Kd.R Kd.string 9 w' w.heap.size (fun _ => True) v0_ (splR a0).1 ∧ Below w.heap.size w w' := by
 have h0 : LeftT a0 [] a0 := fun l hl => ⟨l, rfl, hl⟩
 obtain ⟨m, hm⟩ := hGE.2.2
 go_enter Tryz.func166, Tryz.ntmps166
 go_wp2
 go_loopw [4, 5] (fun v4 v5 wr => ∃ (rest : ByteArray) (done : List ByteArray), v5 = .string rest ∧ done.length + rest.size ≤ a0.size ∧ (txs done).length + 12 * rest.size ≤ 12 * a0.size ∧ RowKit.Hid (LeftT a0 done rest) ∧ Kd.R Kd.string 9 wr w.heap.size (fun _ => True) v4 done ∧ Below w.heap.size w wr) (fun _ v5 _ => match v5 with | .string q => q.size | _ => 0)
 case atStart => exact ⟨a0, [], rfl, by simp only [List.length_nil]; omega, by rw [txs_nil, List.length_nil]; omega, Lib.hid h0, Kd.R_nil _ _ _ _ _, Below.refl _ _⟩
 case round =>
  clear h0
  obtain ⟨rest, done, rfl, hsz, hsx, hL, hR, hb⟩ := hrel
  have hE : rest.toList.isEmpty = decide (rest.size = 0) := by
   rw [ByteArray.toList_eq]; show rest.data.toList.isEmpty = decide (rest.data.size = 0); rw [← Array.length_toList]; cases rest.data.toList <;> rfl
  have hlr : rest.data.toList.length = rest.size := by rw [Array.length_toList, ByteArray.size_data]
  by_cases hlt : rest.size = 0
  ·
   have hE' : rest.toList.isEmpty = true := by rw [hE]; simp [hlt]
   have hnil : rest.data.toList = [] := List.length_eq_zero_iff.1 (by omega)
   clear hE
   have Hnil := Lib.hid hnil
   clear hnil hlt hlr
   obtain ⟨A4, q4, e4⟩ := Kd.R_slice hR
   subst e4
   have hRr := Kd.R_reads' hR
   have hcall := row_Texts.says A4 q4 done wr hRr.2.2 (by omega) (GP.below hGP hb)
   obtain ⟨Y, hY⟩ : ∃ Y : ByteArray, Y = ⟨(txs done).toArray⟩ := ⟨_, rfl⟩
   rw [← hY] at hcall
   have hYd : Y.data.toList = txs done := by rw [hY]
   clear hY
   have Hyd := Lib.hid hYd
   clear hYd
   by_cases hq : Y.toList = a0.toList
   ·
    have q1 : (Y.toList == a0.toList) = true := beq_iff_eq.2 hq
    have q2 : (Y.toList != a0.toList) = false := bne_eq_false_iff_eq.2 hq
    have hsp : splR a0 = (done, 0) := splR_some (by rw [← Hyd.out]; rw [ByteArray.toList_eq, ByteArray.toList_eq] at hq; exact hq)
    have Hsp := Lib.hid hsp
    clear hq hsp
    go_wp2_with fail
    refine hcall.mono ?_
    rintro e w1 ⟨rfl, hb1⟩
    have hR1 := Kd.R_below hR hb1
    go_wp2_with fail
    go_ret2
    rw [Hsp.out]
    exact ⟨_, rfl, hR1, below_then hb hb.size hb1⟩
   ·
    have q1 : (Y.toList == a0.toList) = false := beq_eq_false_iff_ne.2 hq
    have q2 : (Y.toList != a0.toList) = true := bne_iff_ne.2 hq
    have hsp : splR a0 = ([], 2) := splR_none (fun l hl => by
     obtain ⟨l', h1, h2⟩ := hL.out l ((unTx_iff a0 l).1 hl)
     rw [Hnil.out] at h2
     cases l' with
     | nil =>
      rw [List.append_nil] at h1
      refine hq ?_
      rw [ByteArray.toList_eq, ByteArray.toList_eq]
      exact Hyd.out.trans (by rw [← h1]; exact (unTx_iff a0 l).1 hl)
     | cons x l' => exact txs_ne x l' h2)
    have Hsp := Lib.hid hsp
    clear hq hsp
    go_wp2_with fail
    refine hcall.mono ?_
    rintro e w1 ⟨rfl, hb1⟩
    go_wp2_with fail
    go_ret2
    rw [Hsp.out]
    exact ⟨_, rfl, Kd.R_nil _ _ _ _ _, below_then hb hb.size hb1⟩
  ·
   have hE' : rest.toList.isEmpty = false := by rw [hE]; simp [hlt]
   have hne : rest.data.toList ≠ [] := fun e => hlt (by rw [← hlr, e]; rfl)
   have hcl := cut_len _ hne
   have hct := fun x l (e : rest.data.toList = txs (x :: l)) => (by rw [e]; exact cut_texts x l : Lib.cut rest.data.toList [58] = (dd x.size, x.data.toList ++ txs l, true))
   have hcut := Tryz.strings_Cut rest ⟨#[58]⟩ m wr (by omega) ((hb.cell (World.block_lt_of_cell? _ _ hm)).trans hm)
   rw [show (⟨#[58]⟩ : ByteArray).data.toList = [58] from rfl] at hcut
   obtain ⟨C, hC⟩ : ∃ C, C = Lib.cut rest.data.toList [58] := ⟨_, rfl⟩
   rw [← hC] at hcut hcl hct
   obtain ⟨c1, c2, ok⟩ := C
   simp only at hcut hcl hct
   have Hct := Lib.hid hct
   have Hne := Lib.hid hne
   clear hC hE hct hne
   obtain ⟨S1, hS1⟩ : ∃ S : ByteArray, S = ⟨c1.toArray⟩ := ⟨_, rfl⟩
   obtain ⟨S2, hS2⟩ : ∃ S : ByteArray, S = ⟨c2.toArray⟩ := ⟨_, rfl⟩
   rw [← hS1, ← hS2] at hcut
   have l1 : S1.size = c1.length := by rw [hS1]; show (List.toArray _).size = _; simp
   have l2 : S2.size = c2.length := by rw [hS2]; show (List.toArray _).size = _; simp
   have d1 : S1.data.toList = c1 := by rw [hS1]
   have d2 : S2.data.toList = c2 := by rw [hS2]
   have HS := Lib.hid (show S1.data.toList = c1 ∧ S2.data.toList = c2 from ⟨d1, d2⟩)
   clear hS1 hS2 d1 d2 hlr
   have hk1 : S1.size ≤ rest.size := by rw [l1]; have := hcl.1; rw [Array.length_toList, ByteArray.size_data] at this; exact this
   have hk2 : S2.size + 1 ≤ rest.size := by rw [l2]; have := hcl.2; rw [Array.length_toList, ByteArray.size_data] at this; exact this
   clear hcl l1 l2
   go_wp2_with fail
   refine hcut.mono ?_
   rintro e w1 ⟨rfl, q, rfl⟩
   have hb1 : Below wr.heap.size wr (wr.drewN q) := pw_below_drewN (Below.refl _ _) q
   have hB1 := below_then hb hb.size hb1
   have hR1 : Kd.R Kd.string 9 (wr.drewN q) w.heap.size (fun _ => True) u4 done := Kd.R_drewN hR q
   clear hcut
   generalize wr.drewN q = w1 at hb1 hB1 hR1 ⊢
   have hat := atoi_any S1 (by omega) w1 (GE.below hGE hB1)
   rw [(show S1.data.toList = c1 from HS.out.1)] at hat
   have bad : ∀ (hc : ∀ x l, rest.data.toList = txs (x :: l) → (c1, c2, ok) = (dd x.size, x.data.toList ++ txs l, true) → False), splR a0 = ([], 2) :=
    fun hc => hL.out.bad Hne.out (fun x l e => hc x l e (Hct.out x l e))
   cases ok with
   | false =>
    have hsp : splR a0 = ([], 2) := bad (fun x l _ h => by simp at h)
    have Hsp := Lib.hid hsp
    clear bad hsp
    go_wp2_with fail
    refine hat.mono ?_
    rintro e w2 ⟨n, ev, rfl, hb2, hn⟩
    clear hn
    go_wp2_with fail
    go_ret2
    rw [Hsp.out]
    exact ⟨_, rfl, Kd.R_nil _ _ _ _ _, below_then hB1 hB1.size hb2⟩
   | true =>
    go_wp2_with fail
    refine hat.mono ?_
    rintro e w2 ⟨n, ev, rfl, hb2, hn⟩
    have hB2 := below_then hB1 hB1.size hb2
    have hR2 := Kd.R_below hR1 hb2
    rcases hn with ⟨rfl, hA⟩ | ⟨⟨te, pe, rfl⟩, hA⟩
    ·
     by_cases hn0 : n < 0
     ·
      have hsp : splR a0 = ([], 2) := bad (fun x l e h => by
       simp only [Prod.mk.injEq] at h
       have hxs : x.size ≤ rest.size := by
        have := congrArg List.length e
        rw [txs_cons] at this
        simp only [List.length_append, List.length_cons, Array.length_toList, ByteArray.size_data] at this
        omega
       rw [h.1, atoi_dd _ (by omega)] at hA
       have := Lib.NumEnd.ok.inj hA
       omega)
      have Hsp := Lib.hid hsp
      clear bad hsp hA
      have d0 : decide (n < 0) = true := decide_eq_true hn0
      go_wp2_with fail
      go_ret2
      rw [Hsp.out]
      exact ⟨_, rfl, Kd.R_nil _ _ _ _ _, hB2⟩
     ·
      by_cases hn1 : (S2.size : Int) < n
      ·
       have hsp : splR a0 = ([], 2) := bad (fun x l e h => by
        simp only [Prod.mk.injEq] at h
        have hxs : x.size ≤ rest.size := by
         have := congrArg List.length e
         rw [txs_cons] at this
         simp only [List.length_append, List.length_cons, Array.length_toList, ByteArray.size_data] at this
         omega
        rw [h.1, atoi_dd _ (by omega)] at hA
        have h3 := Lib.NumEnd.ok.inj hA
        have h4 := congrArg List.length HS.out.2
        rw [h.2.1, List.length_append] at h4
        simp only [Array.length_toList, ByteArray.size_data] at h4
        omega)
       have Hsp := Lib.hid hsp
       clear bad hsp hA
       have d0 : decide (n < 0) = false := decide_eq_false hn0
       have d1 : decide ((S2.size : Int) < n) = true := decide_eq_true hn1
       go_wp2_with fail
       go_ret2
       rw [Hsp.out]
       exact ⟨_, rfl, Kd.R_nil _ _ _ _ _, hB2⟩
      ·
       obtain ⟨j, rfl⟩ : ∃ j : Nat, n = j := ⟨n.toNat, by omega⟩
       have hj : j ≤ S2.size := by omega
       have d0 : decide ((j : Int) < 0) = false := decide_eq_false (by omega)
       have d1 : decide ((S2.size : Int) < (j : Int)) = false := decide_eq_false (by omega)
       clear bad
       have he1 : (S2.extract 0 j).data.toList = c2.take j := by
        rw [ByteArray.data_extract, Array.toList_extract, List.extract_eq_take_drop, HS.out.2]; rfl
       have he2 : (S2.extract j S2.size).data.toList = c2.drop j := by
        rw [ByteArray.data_extract, Array.toList_extract, List.extract_eq_take_drop, HS.out.2]
        refine List.take_of_length_le ?_
        have := congrArg List.length HS.out.2
        simp only [Array.length_toList, ByteArray.size_data] at this
        rw [List.length_drop]; omega
       have hL2 : LeftT a0 (done ++ [S2.extract 0 j]) (S2.extract j S2.size) := hL.out.next Hne.out (fun x l e => by
        have h := Hct.out x l e
        simp only [Prod.mk.injEq] at h
        have hxs : x.size ≤ rest.size := by
         have := congrArg List.length e
         rw [txs_cons] at this
         simp only [List.length_append, List.length_cons, Array.length_toList, ByteArray.size_data] at this
         omega
        rw [h.1, atoi_dd _ (by omega)] at hA
        have h3 := Lib.NumEnd.ok.inj hA
        have h4 : x.size = j := by omega
        have h5 : x.data.toList.length = j := by rw [Array.length_toList, ByteArray.size_data]; exact h4
        rw [h.2.1] at he1 he2
        rw [List.take_left' h5] at he1
        rw [List.drop_left' h5] at he2
        exact ⟨ByteArray.ext (Array.toList_inj.1 he1), he2⟩)
       have HL2 := Lib.hid hL2
       have ht := tx_len_le (S2.extract 0 j) (by rw [ByteArray.size_extract]; omega)
       rw [ByteArray.size_extract] at ht
       have hx2 : (txs (done ++ [S2.extract 0 j])).length + 12 * (S2.extract j S2.size).size ≤ 12 * a0.size := by
        rw [txs_snoc, List.length_append, ByteArray.size_extract]; omega
       have Hx2 := Lib.hid hx2
       have Hd2 := Lib.hid (show (done ++ [S2.extract 0 j]).length + (S2.extract j S2.size).size ≤ a0.size by rw [List.length_append, List.length_singleton, ByteArray.size_extract]; omega)
       clear hL2 he1 he2 hA ht hx2 hat
       have hdl : done.length < 8796093022208 := by omega
       have Hdl := Lib.hid hdl
       clear hdl
       go_wp2_with (first | ((with_reducible refine gate_builtin (b := .append) (xs := #[.tmp 41, .tmp 45]) rfl ?_); at_builtin; refine Kd.R_append Kd.string (w0 := w) w.heap.size rfl (.tmp 41) (.tmp 45) 88 9 (.string ⟨#[]⟩) 16 rfl Tryz.underlying88 info9 rfl (by decide) (by omega) u4 done (S2.extract 0 j) [.string (S2.extract 0 j)] (fun _ => True) (fun _ => False) rfl rfl ?aP (fun _ hk => hk.elim) ?aF ?aO ?aB ?aS ?aL ?_; (case aP => exact rfl); (case aB => exact hB2); (case aF => exact (fun _ _ => trivial)); (case aO => first | exact hR2 | exact Kd.R_alloc hR2 _); (case aS => exact below_size hB2); (case aL => have := Hdl.out; omega); intro v3 w3 ho hb3 hg hat))
       exact ⟨⟨_, _, rfl, Hd2.out, Hx2.out, HL2, ho, hb3⟩, by show (S2.extract j S2.size).size < rest.size; rw [ByteArray.size_extract]; omega⟩
    ·
     have hsp : splR a0 = ([], 2) := bad (fun x l e h => by
      simp only [Prod.mk.injEq] at h
      have hxs : x.size ≤ rest.size := by
       have := congrArg List.length e
       rw [txs_cons] at this
       simp only [List.length_append, List.length_cons, Array.length_toList, ByteArray.size_data] at this
       omega
      exact hA _ (by rw [h.1]; exact atoi_dd _ (by omega)))
     have Hsp := Lib.hid hsp
     clear bad hsp hA
     go_wp2_with fail
     go_ret2
     rw [Hsp.out]
     exact ⟨_, rfl, Kd.R_nil _ _ _ _ _, hB2⟩
def row_Split.f (a0 : ByteArray) : Option (List ByteArray × Int) := if a0.size ≤ 4294967280 then some (splR a0) else none
theorem row_Split.calls (a0 : ByteArray) (r1 : List ByteArray) (r2 : Int) (w : World) (h : row_Split.f a0 = some (r1, r2)) (hGP : GP w) (hGE : GE w) :
  Calls Tryz.prog 166 #[.string a0] w fun e w' => ∃ v0_ : Value, e = .returned (.tuple #[v0_, .int .i64 r2]) ∧ Kd.R Kd.string 9 w' w.heap.size (fun _ => True) v0_ r1 ∧ Below w.heap.size w w' := by
 unfold row_Split.f at h
 split at h
 case isTrue hs =>
  have h := Option.some.inj h
  have := row_Split.says a0 w hs hGP hGE
  rw [h] at this
  exact this
 case isFalse hs => exact absurd h (by simp)

def row_fields.f (a0 : ByteArray) (a1 : Int) : Option (List ByteArray × Bool) := (row_Split.f a0).bind fun bt353 => (if bt353.2 = 0 then (some (bt353.1, decide ((bt353.1.length : Int) ≥ a1))) else (some (bt353.1, false)))
set_option maxHeartbeats 8000000 in
set_option maxRecDepth 100000 in
theorem row_fields.calls (a0 : ByteArray) (a1 : Int) (r1 : List ByteArray) (r2 : Bool) (w : World) (h : row_fields.f a0 a1 = some (r1, r2)) (hGP : GP w) (hGE : GE w) :
  Calls Tryz.prog 146 #[.string a0, .int .i64 a1] w fun e w' => ∃ v0_ : Value, e = .returned (.tuple #[v0_, .bool r2]) ∧ Kd.R Kd.string 9 w' w.heap.size (fun _ => True) v0_ r1 ∧ Below w.heap.size w w' := by
 have HGP := Aside0.mk hGP
 clear hGP
 have HGE := Aside0.mk hGE
 clear hGE
 have HB := Aside0.mk (Below.refl w.heap.size w)
 have H : ((row_Split.f a0).bind fun bt353 => (if bt353.2 = 0 then (some (bt353.1, decide ((bt353.1.length : Int) ≥ a1))) else (some (bt353.1, false)))) = some (r1, r2) := h
 clear h
 replace H := Option.bind_eq_some_iff.mp H
 obtain ⟨⟨t353, t354⟩, A30, H⟩ := H
 replace H : (if t354 = 0 then (some (t353, decide ((t353.length : Int) ≥ a1))) else (some (t353, false))) = some (r1, r2) := H
 have A3 := Aside0.mk A30
 clear A30
 by_cases c4 : t354 = 0
 ·
  rw [if_pos c4] at H
  have c4b0 : (t354 == 0) = true := beq_iff_eq.mpr c4
  have c4b1 : (t354 != 0) = false := bne_eq_false_iff_eq.mpr c4
  clear c4
  simp only [Option.some.injEq, Prod.mk.injEq] at H
  obtain ⟨rfl, rfl⟩ := H
  go_enter Tryz.func146, Tryz.ntmps146
  go_wp2_with (first | ((with_reducible refine gate_callee (f := 166) rfl ?_); refine goesL_ (some 10) rfl rfl Tryz.func166 (by kernel_rfl) rfl #[.string a0] rfl (by (try simp only [List.map_toArray, List.map_cons, List.map_nil]); first | done | rfl | (simp only [List.length_drop, List.length_take]; rfl)) ?_; (with_reducible refine (row_Split.calls a0 t353 t354 _ A3.out (GP.below HGP.out (by repeat (first | (with_reducible first | exact HB.out | apply below_alloc | apply pw_below_drewN | apply below_drew1) | exact HB.out))) (GE.below HGE.out (by repeat (first | (with_reducible first | exact HB.out | apply below_alloc | apply pw_below_drewN | apply below_drew1) | exact HB.out)))).mono ?_); rintro e w5 ⟨v355, rfl, ho0, hb⟩; refine ⟨_, rfl, ?_⟩; have n0_ := Aside0.mk (Kd.R_lower ho0 (below_size (by repeat (first | (with_reducible first | exact HB.out | apply below_alloc | apply pw_below_drewN | apply below_drew1) | exact HB.out)))); have n1_ := Aside0.mk (below_step (by repeat (first | (with_reducible first | exact HB.out | apply below_alloc | apply pw_below_drewN | apply below_drew1) | exact HB.out)) hb); clear HB; have HO356 := n0_; have HB := n1_; clear n0_ n1_; (try clear hb); (try clear hb2); (try clear hk); (try clear hi); (try clear ho0); obtain ⟨Ao6, co6, eo6⟩ := Kd.R_slice HO356.out; subst eo6))
  go_ret2
  exact ⟨_, by first | rfl | (simp [errW_none, errW_some] <;> rfl) | (simp [*, errW_none, errW_some] <;> rfl), by (with_reducible repeat (first | apply Kd.R_alloc | apply Kd.R_drewN | apply Kd.R_drew)); exact HO356.out, by repeat (first | (with_reducible first | exact HB.out | apply below_alloc | apply pw_below_drewN | apply below_drew1) | exact HB.out)⟩
 ·
  rw [if_neg c4] at H
  have c4b0 : (t354 == 0) = false := beq_eq_false_iff_ne.mpr c4
  have c4b1 : (t354 != 0) = true := bne_iff_ne.mpr c4
  simp only [Option.some.injEq, Prod.mk.injEq] at H
  obtain ⟨rfl, rfl⟩ := H
  go_enter Tryz.func146, Tryz.ntmps146
  go_wp2_with (first | ((with_reducible refine gate_callee (f := 166) rfl ?_); refine goesL_ (some 10) rfl rfl Tryz.func166 (by kernel_rfl) rfl #[.string a0] rfl (by (try simp only [List.map_toArray, List.map_cons, List.map_nil]); first | done | rfl | (simp only [List.length_drop, List.length_take]; rfl)) ?_; (with_reducible refine (row_Split.calls a0 t353 t354 _ A3.out (GP.below HGP.out (by repeat (first | (with_reducible first | exact HB.out | apply below_alloc | apply pw_below_drewN | apply below_drew1) | exact HB.out))) (GE.below HGE.out (by repeat (first | (with_reducible first | exact HB.out | apply below_alloc | apply pw_below_drewN | apply below_drew1) | exact HB.out)))).mono ?_); rintro e w7 ⟨v355, rfl, ho0, hb⟩; refine ⟨_, rfl, ?_⟩; have n0_ := Aside0.mk (Kd.R_lower ho0 (below_size (by repeat (first | (with_reducible first | exact HB.out | apply below_alloc | apply pw_below_drewN | apply below_drew1) | exact HB.out)))); have n1_ := Aside0.mk (below_step (by repeat (first | (with_reducible first | exact HB.out | apply below_alloc | apply pw_below_drewN | apply below_drew1) | exact HB.out)) hb); clear HB; have HO356 := n0_; have HB := n1_; clear n0_ n1_; (try clear hb); (try clear hb2); (try clear hk); (try clear hi); (try clear ho0)))
  go_ret2
  exact ⟨_, by first | rfl | (simp [errW_none, errW_some] <;> rfl) | (simp [*, errW_none, errW_some] <;> rfl), by (with_reducible repeat (first | apply Kd.R_alloc | apply Kd.R_drewN | apply Kd.R_drew)); exact HO356.out, by repeat (first | (with_reducible first | exact HB.out | apply below_alloc | apply pw_below_drewN | apply below_drew1) | exact HB.out)⟩

/-- A number's text, and nothing else. -/
def numL (a0 : ByteArray) : Int × Bool := match Lib.atoiAll a0.data.toList with
 | .ok v => (v, Lib.itoa v == a0.toList)
 | .range => (Lib.atoiSat a0.data.toList, false)
 | _ => (0, false)
theorem atoi_ok_range {l : List UInt8} {v : Int} (h : Lib.atoiAll l = .ok v) : -9223372036854775808 ≤ v ∧ v ≤ 9223372036854775807 := by
 cases l with
 | nil => simp [Lib.atoiAll] at h
 | cons c r =>
  simp only [Lib.atoiAll] at h
  cases hm : Lib.parseMag (if c.toNat = 43 ∨ c.toNat = 45 then r else c :: r) with
  | range => rw [hm] at h; cases h
  | ok u =>
   rw [hm] at h
   simp only at h
   split at h
   ·
    cases h
   ·
    split at h
    ·
     cases h
    ·
     obtain rfl := Lib.NumEnd.ok.inj h
     split <;> omega
  | _ => rw [hm] at h; cases h
set_option maxHeartbeats 2000000 in
theorem row_number.says (a0 : ByteArray) (w : World) (hs : a0.size ≤ 281474976710656) (hGP : GP w) (hGE : GE w) :
  Calls Tryz.prog 147 #[.string a0] w fun e w' => e = .returned (.tuple #[.int .i64 (numL a0).1, .bool (numL a0).2]) ∧ Below w.heap.size w w' := by
 have Hn := Lib.hid (show numL a0 = _ from rfl)
 obtain ⟨⟨t3, p3, h3⟩, ⟨t4, p4, h4⟩, -⟩ := hGE
 unfold numL
 cases hA : Lib.atoiAll a0.data.toList with
 | ok v =>
  have hr := atoi_ok_range hA
  have hat := Tryz.strconv_Atoi_ok a0 (by omega) v hA w
  have hit := fun w1 (hb : Below w.heap.size w w1) => Tryz.strconv_Itoa v hr.1 hr.2 w1 (GP.below hGP hb)
  clear hA hr
  go_enter Tryz.func147, Tryz.ntmps147
  go_wp2_with fail
  refine hat.mono ?_
  rintro e w1 ⟨rfl, hw1⟩
  have hb1 : Below w.heap.size w w1 := by
   rcases hw1 with rfl | ⟨t, rfl⟩
   ·
    exact Below.refl _ _
   ·
    exact Lib.bytesWorld_below _ _ _
  have hit := hit w1 hb1
  clear hw1
  go_wp2_with fail
  refine hit.mono ?_
  rintro e w2 ⟨rfl, q, os, rfl⟩
  have hb2 := below_grown_sl w1.heap.size w1 q os (Nat.le_refl _)
  go_wp2_with fail
  go_ret2
  exact ⟨rfl, below_then hb1 hb1.size hb2⟩
 | range =>
  have hat := Tryz.strconv_Atoi_range a0 hs hA _ w h4 (.inr ⟨_, _, rfl⟩)
  clear hA
  go_enter Tryz.func147, Tryz.ntmps147
  go_wp2_with fail
  refine hat.mono ?_
  rintro e w1 ⟨N, rfl, hN, hNc, hb1⟩
  go_wp2_with fail
  go_ret2
  exact ⟨rfl, hb1⟩
 | _ =>
  have hat := Tryz.strconv_Atoi_syntax a0 hs hA _ w h3 (.inr ⟨_, _, rfl⟩)
  clear hA
  go_enter Tryz.func147, Tryz.ntmps147
  go_wp2_with fail
  refine hat.mono ?_
  rintro e w1 ⟨N, rfl, hN, hNc, hb1⟩
  go_wp2_with fail
  go_ret2
  exact ⟨rfl, hb1⟩
def row_number.f (a0 : ByteArray) : Option (Int × Bool) := if a0.size ≤ 281474976710656 then some (numL a0) else none
theorem row_number.calls (a0 : ByteArray) (r1 : Int) (r2 : Bool) (w : World) (h : row_number.f a0 = some (r1, r2)) (hGP : GP w) (hGE : GE w) :
  Calls Tryz.prog 147 #[.string a0] w fun e w' => e = .returned (.tuple #[.int .i64 r1, .bool r2]) ∧ Below w.heap.size w w' := by
 unfold row_number.f at h
 split at h
 case isTrue hs =>
  have h := Option.some.inj h
  have := row_number.says a0 w hs hGP hGE
  rw [h] at this
  exact this
 case isFalse hs => exact absurd h (by simp)

-- NOT PRINTED: function 104 (row_ReadSession)

-- NOT PRINTED: function 44 (seat_Find)

-- NOT PRINTED: function 41 (exequaturlaw19_answers)

def seat_Drop.f (a0 : ByteArray) : Option (ByteArray × ByteArray × Bool) := (seat_Key.f a0).bind fun t364 => (some (t364, (⟨#[]⟩ : ByteArray), true))
set_option maxHeartbeats 8000000 in
set_option maxRecDepth 100000 in
theorem seat_Drop.calls (a0 : ByteArray) (r1 : ByteArray) (r2 : ByteArray) (r3 : Bool) (w : World) (h : seat_Drop.f a0 = some (r1, r2, r3)) :
  Calls Tryz.prog 45 #[.string a0] w fun e w' => e = .returned (.agg #[.string r1, .string r2, .bool r3]) ∧ Below w.heap.size w w' := by
 have hu69 := Tryz.underlying69
 have HB := Aside0.mk (Below.refl w.heap.size w)
 have H : ((seat_Key.f a0).bind fun t364 => (some (t364, (⟨#[]⟩ : ByteArray), true))) = some (r1, r2, r3) := h
 clear h
 replace H := Option.bind_eq_some_iff.mp H
 obtain ⟨t364, A20, H⟩ := H
 replace H : (some (t364, (⟨#[]⟩ : ByteArray), true)) = some (r1, r2, r3) := H
 have A2 := Aside0.mk A20
 clear A20
 simp only [Option.some.injEq, Prod.mk.injEq] at H
 obtain ⟨rfl, rfl, rfl⟩ := H
 go_enter Tryz.func45, Tryz.ntmps45
 go_wp2_with (first | ((with_reducible refine gate_dst (N := 2) rfl ?_); refine box_event ?hg (N := 2) ?hd (cs := #[.string (⟨#[]⟩ : ByteArray), .string (⟨#[]⟩ : ByteArray), .bool false]) (t := 69) ?hr ?_; (case hd => rfl); (case hg => rfl); (case hr => first | (go_simp; done) | (go_simp; rfl)); intro gb363 hg w3 hbox hb; have n0_ := Aside0.mk (below_step (by repeat (first | (with_reducible first | exact HB.out | apply below_alloc | apply pw_below_drewN | apply below_drew1) | exact HB.out)) hb); have n1_ := Aside0.mk (hbox); have n2_ := Aside0.mk ((by rw [hg]; exact (below_size (by repeat (first | (with_reducible first | exact HB.out | apply below_alloc | apply pw_below_drewN | apply below_drew1) | exact HB.out))) : w.heap.size ≤ gb363)); have n3_ := Aside0.mk ((by rw [hg]; exact (below_size (by repeat (first | (with_reducible first | exact HB.out | apply below_alloc | apply pw_below_drewN | apply below_drew1) | exact HB.out))) : w.heap.size ≤ gb363)); clear HB; have HB := n0_; have BK363 := n1_; have GW363 := n2_; have GE363 := n3_; clear n0_ n1_ n2_ n3_; clear hb hbox hg) | ((with_reducible refine gate_callee (f := 46) rfl ?_); refine goesL_ (some 4) rfl rfl Tryz.func46 (by kernel_rfl) rfl #[.string a0] rfl (by (try simp only [List.map_toArray, List.map_cons, List.map_nil]); first | done | rfl | (simp only [List.length_drop, List.length_take]; rfl)) ?_; (with_reducible refine (seat_Key.calls a0 t364 _ A2.out).mono ?_); rintro e w' ⟨rfl, ⟨nd, rfl⟩⟩; refine ⟨_, rfl, ?_⟩; (try (rw [drewN_self w3]; generalize hq_ : World.drewN w3 _ = w3; have n0_ : Aside0 (w3.heap[gb363]? = some (.cells #[.string (⟨#[]⟩ : ByteArray), .string (⟨#[]⟩ : ByteArray), .bool false] 69 (0, 0))) := ⟨by rw [← hq_]; exact (by (with_reducible repeat (first | refine blk_drewN ?_ _ | refine blk_drew ?_ | refine blk_alloc ?_ _)); exact BK363.out)⟩; have n1_ : Aside0 (Below w.heap.size w w3) := ⟨by rw [← hq_]; exact (by repeat (first | (with_reducible first | exact HB.out | apply below_alloc | apply pw_below_drewN | apply below_drew1 | refine below_set ?_ GE363.out) | exact HB.out))⟩; clear BK363 HB hq_; have BK363 := n0_; have HB := n1_; clear n0_ n1_)); have hcz4_0 : w3.cell? ⟨gb363, 0, none⟩ = some (.string (⟨#[]⟩ : ByteArray)) := (blk_cell BK363.out 0).trans rfl; have hcz4_1 : w3.cell? ⟨gb363, 1, none⟩ = some (.string (⟨#[]⟩ : ByteArray)) := (blk_cell BK363.out 1).trans rfl; have hcz4_2 : w3.cell? ⟨gb363, 2, none⟩ = some (.bool false) := (blk_cell BK363.out 2).trans rfl; have hfz4_0 := blk_frozen BK363.out 0; have hfz4_1 := blk_frozen BK363.out 1; have hfz4_2 := blk_frozen BK363.out 2))
 refine bodyPost_ret (results_cell_row rfl _ _ gb363 69 #[.string t364, .string (⟨#[]⟩ : ByteArray), .bool true] (0, 0) _ rfl (by (with_reducible repeat (first | refine blk_drewN ?_ _ | refine blk_drew ?_ | refine blk_alloc ?_ _)); refine blk_put (cs := #[.string t364, .string (⟨#[]⟩ : ByteArray), .bool false]) ?_ 2 _ rfl; (with_reducible repeat (first | refine blk_drewN ?_ _ | refine blk_drew ?_ | refine blk_alloc ?_ _)); refine blk_put (cs := #[.string t364, .string (⟨#[]⟩ : ByteArray), .bool false]) ?_ 1 _ rfl; (with_reducible repeat (first | refine blk_drewN ?_ _ | refine blk_drew ?_ | refine blk_alloc ?_ _)); refine blk_put (cs := #[.string (⟨#[]⟩ : ByteArray), .string (⟨#[]⟩ : ByteArray), .bool false]) ?_ 0 _ rfl; (with_reducible repeat (first | refine blk_drewN ?_ _ | refine blk_drew ?_ | refine blk_alloc ?_ _)); exact BK363.out) Tryz.underlying69 rfl (by kernel_rfl)) rfl ?_
 exact ⟨by first | rfl | (simp [errW_none, errW_some] <;> rfl) | (simp [*, errW_none, errW_some] <;> rfl), by repeat (first | (with_reducible first | exact HB.out | apply below_alloc | apply pw_below_drewN | apply below_drew1 | refine below_set ?_ GE363.out) | exact HB.out)⟩

-- NOT PRINTED: function 6 (exequaturlaw19_SeatSaves)

end Go.Proofs.YtpoblffgclmmlaaGreatDoor.Q
end
