/- law12.StoreKeys. -/
import Derived.Test.YtkmokcfnfhabgaaDoorSt
set_option linter.unusedVariables false
set_option linter.unusedSimpArgs false
namespace Go.Proofs.YtkmokcfnfhabgaaDoor.X
open Go.RowKit Go.WideMaps Go.Maps Go.Proofs.YtkmokcfnfhabgaaDoorW.PrintWords Go.Proofs.YtkmokcfnfhabgaaDoorW.PrintLast Go.Proofs.YtkmokcfnfhabgaaDoorW.PrintMore Go.Proofs.YtkmokcfnfhabgaaDoor.Q

theorem turnR_len (r : List S79) (l : List S49) (h : Ris r) : (turnR r l).length ≤ r.length + l.length := by
  induction l generalizing r with
  | nil => exact Nat.le_refl _
  | cons c l ih =>
    have h1 := turn1_len r c h
    have h2 := ih (turn1 r c) (h.turn1 c)
    show (turnR (turn1 r c) l).length ≤ _
    rw [List.length_cons]; omega
set_option maxHeartbeats 8000000 in
set_option maxRecDepth 100000 in
theorem StoreKeys_walk (w : World) (A : Option Addr) (c : Nat) (l : List S49) (hC : Kd.C k49 w A l.length l) (hc : l.length ≤ c) (hl : l.length ≤ 4000000000000) (hx : ∀ x ∈ l, x.f0.size ≤ 140737488351232 ∧ x.f1.size ≤ 140737488351232) (key : ByteArray) (hk : key.size ≤ 140737488351232) (hGL : GL w) :
    Calls Tryd.prog 6 #[.slice A l.length c, .string key] w fun e w' => e = .returned (.bool true) ∧ Below w.heap.size w w' := by
  obtain ⟨b, hb, hsm⟩ := small_says A c l w hC hc hl hx
  go_enter Tryd.func6, Tryd.ntmps6
  go_wp2_with fail
  refine (hsm w hC).mono ?_
  rintro e w1 ⟨rfl, hb1⟩
  clear hsm
  have hGL1 := hGL.below hb1
  cases b with
  | false =>
    go_wp2_with fail
    refine (answers_says w1 hGL1).mono ?_
    rintro e w2 ⟨rfl, hb2⟩
    go_wp2_with fail
    go_ret
    exact ⟨rfl, below_then hb1 hb1.size hb2⟩
  | true =>
    obtain ⟨hlen, hsz⟩ := hb rfl
    clear hb
    have hrl := recL_small l
    have hwc := wgtC_small l
    have hwl := wgt_turn (r := []) List.Pairwise.nil l
    have hw0 : wgt [] = 0 := rfl
    go_wp2_with fail
    refine (tnew_says w1).mono ?_
    rintro e w2 ⟨t, rfl, hT2, hb2⟩
    have hB2 := below_then hb1 hb1.size hb2
    go_wp2_with fail
    refine (snew_says w1 w2 hGL1 hb2 t _ hT2).mono ?_
    rintro e w3 ⟨hk3, s, rfl, hs3, hS3⟩
    have hB3 : Below w1.heap.size w1 w3 := tur_below hb2 hk3 (fun k h => h ▸ hT2.ge)
    have hC3 := Kd.C_below (Kd.C_below hC hb1) hB3
    have hdo := sdo_says s t 3300000000000 TapeS.new [] A c l w1 w3 hGL1 hB3 hS3 TapeS.new_good hC3 hc (by omega) (by omega) (by show (0 : Nat) ≤ _; omega) (fun x h => by have := hx x h; unfold maxLen; omega)
    have hE : (doR TapeS.new [] l).2 = 0 ∨ (doR TapeS.new [] l).2 ≠ 0 := Decidable.em _
    generalize doR TapeS.new [] l = R at hdo hE
    have Hl := Lib.hid hlen
    clear hrl hwc hwl hw0 hsz hlen hl hx hk
    go_wp2_with fail
    refine hdo.mono ?_
    rintro e w4 ⟨rfl, hk4, hS4⟩
    have hB4 : Below w1.heap.size w1 w4 := hB3.trans (hk4.below hB3.size)
    have hC4 := Kd.C_below (Kd.C_below hC hb1) hB4
    clear hdo
    rcases hE with h0 | h0
    · rw [if_pos h0] at hS4
      have d0 : decide (R.2 = 0) = true := decide_eq_true h0
      rw [h0]
      clear h0
      have hlt : (turnR [] l).length ≤ l.length := by have := turnR_len [] l List.Pairwise.nil; simpa using this
      have hGL4 := hGL1.below hB4
      go_wp2_with fail
      refine (answers_says w4 hGL4).mono ?_
      rintro e w5 ⟨rfl, hb5⟩
      have hB5 : Below w1.heap.size w1 w5 := below_then hB4 hB4.size hb5
      have hS5 := hS4.below hb5
      have hC5 := Kd.C_below hC4 hb5
      have hL := (show l.length < 100 from Hl)
      have hkeys := skeys_says w1.heap.size s t _ R.1 (turnR [] l) key w5 hS5 (by omega)
      have hturn : ∀ w6, Kd.C k49 w6 A l.length l → _ := fun w6 h6 => Turn_says none A 0 c [] l w6 ⟨rfl, by simp, fun h => absurd h (by simp)⟩ h6 (Nat.le_refl _) hc (by simp; omega) List.Pairwise.nil
      go_wp2_with fail
      refine hkeys.mono ?_
      rintro e w6 ⟨v6, rfl, hr6, hb6⟩
      obtain ⟨A6, c6, e6⟩ := Kd.R_slice hr6
      subst e6
      have hC6 := Kd.C_below hC5 hb6
      have ht6 := hturn w6 hC6
      go_wp2_with fail
      refine ht6.mono ?_
      rintro e w7 ⟨v7, rfl, hr7, hb7⟩
      obtain ⟨A7, c7, e7⟩ := Kd.R_slice hr7
      subst e7
      have hrd7 := Kd.R_reads' hr7
      have hrk := rkeys_says A7 c7 (turnR [] l) key w7 hrd7.2.2 hrd7.2.1 (by omega)
      go_wp2_with fail
      refine hrk.mono ?_
      rintro e w8 ⟨v8, rfl, hr8, hb8⟩
      obtain ⟨A8, c8, e8⟩ := Kd.R_slice hr8
      subst e8
      have hrd6 := Kd.R_reads' hr6
      have hrd8 := Kd.R_reads' hr8
      have hb68 := below_then hb7 hb7.size hb8
      have hB8 : Below w1.heap.size w1 w8 := below_then (below_then hB5 hB5.size hb6) (below_then hB5 hB5.size hb6).size hb68
      have htx := texts_says A6 A8 c6 c8 _ _ w8 (Kd.C_below hrd6.2.2 hb68) hrd6.2.1 hrd8.2.2 hrd8.2.1 (Nat.le_trans (List.length_filter_le _ _) (by rw [List.length_map]; omega))
      rw [decide_eq_true rfl] at htx
      go_wp2_with fail
      refine htx.mono ?_
      rintro e w9 ⟨rfl, hb9⟩
      go_wp2_with fail
      go_ret
      exact ⟨rfl, below_then hb1 hb1.size (below_then hB8 hB8.size hb9)⟩
    · have d0 : decide (R.2 = 0) = false := decide_eq_false h0
      have d1 : (R.2 == 0) = false := beq_false_of_ne h0
      have d2 : (R.2 != 0) = true := bne_iff_ne.2 h0
      have hGL4 := hGL1.below hB4
      go_wp2_with fail
      refine (answers_says w4 hGL4).mono ?_
      rintro e w5 ⟨rfl, hb5⟩
      go_wp2_with fail
      go_ret
      exact ⟨rfl, below_then hb1 hb1.size (below_then hB4 hB4.size hb5)⟩
theorem StoreKeys_in (W : World) (a : Option Addr) (len cap : Nat) (h : ChgsIn W a len cap) (key : ByteArray) (hk : key.size ≤ 140737488351232) (hGL : GL W) :
    Calls Tryd.prog 6 #[.slice a len cap, .string key] W fun e w' => e = .returned (.bool true) ∧ Below W.heap.size W w' := by
  obtain ⟨l, rfl, h1, h2, h3, h4⟩ := h
  exact StoreKeys_walk W a cap l h1 h2 h3 h4 key hk hGL
end Go.Proofs.YtkmokcfnfhabgaaDoor.X
