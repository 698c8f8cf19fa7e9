/- law12.StoreAtomic. -/
import Derived.Test.YtkmokcfnfhabgaaDoorAto
set_option linter.unusedVariables false
set_option linter.unusedSimpArgs false
namespace Go.Proofs.YtkmokcfnfhabgaaDoor.X
open Go.RowKit Go.WideMaps Go.Maps Go.Proofs.YtkmokcfnfhabgaaDoorW.PrintWords Go.Proofs.YtkmokcfnfhabgaaDoorW.PrintLast Go.Proofs.YtkmokcfnfhabgaaDoorW.PrintMore Go.Proofs.YtkmokcfnfhabgaaDoor.Q

/-- The rows of a reference, in memory. -/
def RowsAt (b : Nat) (w : World) (v : Value) (r : List S79) : Prop := Kd.R k79 79 w b (fun _ => True) v r
theorem RowsAt.below {b : Nat} {w w' : World} {v : Value} {r : List S79} (h : RowsAt b w v r) (hb : Below w.heap.size w w') : RowsAt b w' v r := rows_turO (base := b) (TurO.of_below hb) h
theorem RowsAt.turO {base b : Nat} {w w' : World} {v : Value} {r : List S79} (h : RowsAt b w v r) (hb : TurO base w w') : RowsAt b w' v r := rows_turO hb h
theorem RowsAt.slice {b : Nat} {w : World} {v : Value} {r : List S79} (h : RowsAt b w v r) : ∃ A c, v = .slice A r.length c ∧ r.length ≤ c ∧ Kd.C k79 w A r.length r := by
  obtain ⟨A, c, e⟩ := Kd.R_slice h
  subst e
  have := Kd.R_reads' h
  exact ⟨A, c, rfl, this.2.1, this.2.2⟩
theorem RowsAt.nil (b : Nat) (w : World) : RowsAt b w (.slice none 0 0) [] := Kd.R_nil _ _ _ _ _
/-- Rows.Turn, where no row is too long. -/
theorem rturn_says (b : Nat) (v : Value) (r : List S79) (A : Option Addr) (c : Nat) (l : List S49) (w : World) (hb : b ≤ w.heap.size) (h : RowsAt b w v r) (hC : Kd.C k49 w A l.length l) (hc : l.length ≤ c) (hl : r.length + l.length ≤ 1000000000) (hr : Ris r) :
    Calls Tryd.prog 23 #[v, .slice A l.length c] w fun e w' => ∃ v', e = .returned v' ∧ RowsAt b w' v' (turnR r l) ∧ Below w.heap.size w w' := by
  obtain ⟨A0, c0, rfl, h1, h2⟩ := h.slice
  refine (Turn_says A0 A c0 c r l w h2 hC h1 hc hl hr).mono ?_
  rintro e w' ⟨v', he, hr', hb'⟩
  exact ⟨v', he, Kd.R_lower hr' hb, hb'⟩
theorem key_turn1 {N : Nat} {r : List S79} (h : Ris r) (c : S49) (hr : ∀ x ∈ r, x.f0.size ≤ N) (hc : c.f0.size ≤ N) : ∀ x ∈ turn1 r c, x.f0.size ≤ N := by
  intro x hx
  rcases (turn1_mem h c x).1 hx with h' | h'
  · exact hr x h'.1
  · rw [h'.2]; exact hc
theorem key_turn {N : Nat} {r : List S79} (h : Ris r) (l : List S49) (hr : ∀ x ∈ r, x.f0.size ≤ N) (hc : ∀ c ∈ l, c.f0.size ≤ N) : ∀ x ∈ turnR r l, x.f0.size ≤ N := by
  induction l generalizing r with
  | nil => exact hr
  | cons c l ih => exact ih (h.turn1 c) (key_turn1 h c hr (hc c (List.mem_cons_self ..))) (fun d hd => hc d (List.mem_cons_of_mem _ hd))
/-- same, of rows in memory. -/
theorem rsame_says (base s t N b : Nat) (T : TapeS) (r q : List S79) (v : Value) (w : World) (h : Sto base w s t T r N) (hN : N ≤ 3400000000000) (hv : RowsAt b w v q) (hq : q.length ≤ 1000000) (hr : r.length ≤ 1000000) (hx : ∀ x ∈ q, x.f0.size ≤ 140737488351232) :
    Calls Tryd.prog 15 #[.pointer (some ⟨s, 0, none⟩), v] w fun e w' => e = .returned (.bool (sameB r q)) ∧ Below w.heap.size w w' := by
  obtain ⟨A, c, rfl, h1, h2⟩ := hv.slice
  exact same_says base s t N T r q A c w h hN h2 h1 hq hr (fun x h => by have := hx x h; unfold maxLen; omega)
/-- Between two calls of Do. -/
structure AtoM (w0 : World) (s t : Nat) (T : TapeS) (r q : List S79) (v : Value) (w : World) : Prop where
  below : Below w0.heap.size w0 w
  sto : Sto w0.heap.size w s t T r 3300000000200
  rows : RowsAt w0.heap.size w v q
theorem AtoM.next {w0 : World} {s t : Nat} {T : TapeS} {r q : List S79} {v : Value} {w w' : World} (h : AtoM w0 s t T r q v w) (hb : Below w.heap.size w w') : AtoM w0 s t T r q v w' :=
  ⟨below_then h.below h.below.size hb, h.sto.below hb, h.rows.below hb⟩
set_option maxHeartbeats 16000000 in
set_option maxRecDepth 100000 in
theorem StoreAtomic_walk (w : World) (A : Option Addr) (c : Nat) (l : List S49) (hC : Kd.C k49 w A l.length l) (hc : l.length ≤ c) (hl : l.length ≤ 4000000000000) (hx : ∀ x ∈ l, x.f0.size ≤ 140737488351232 ∧ x.f1.size ≤ 140737488351232)
    (A' : Option Addr) (c' : Nat) (l' : List S49) (hC' : Kd.C k49 w A' l'.length l') (hc' : l'.length ≤ c') (hl' : l'.length ≤ 4000000000000) (hx' : ∀ x ∈ l', x.f0.size ≤ 140737488351232 ∧ x.f1.size ≤ 140737488351232)
    (n : Int) (hn : 0 ≤ n ∧ n < 65536) (keep : Int) (hkp : -9223372036854775808 ≤ keep ∧ keep < 9223372036854775808) (hGL : GL w) :
    Calls Tryd.prog 7 #[.slice A l.length c, .slice A' l'.length c', .int .u16 n, .int .i64 keep] w fun e w' => e = .returned (.bool true) ∧ Below w.heap.size w w' := by
  obtain ⟨b, hb, hsm⟩ := small_says A c l w hC hc hl hx
  obtain ⟨b', hb', hsm'⟩ := small_says A' c' l' w hC' hc' hl' hx'
  go_enter Tryd.func7, Tryd.ntmps7
  go_wp2_with fail
  refine (hsm w hC).mono ?_
  rintro e w1 ⟨rfl, hb1⟩
  clear hsm
  have hGL1 := hGL.below hb1
  cases b with
  | false =>
    go_wp2_with fail
    refine (answers_says w1 hGL1).mono ?_
    rintro e w2 ⟨rfl, hb2⟩
    go_wp2_with fail
    go_ret
    exact ⟨rfl, below_then hb1 hb1.size hb2⟩
  | true =>
    go_wp2_with fail
    refine (hsm' w1 (Kd.C_below hC' hb1)).mono ?_
    rintro e w2 ⟨rfl, hb2⟩
    clear hsm'
    have hb02 := below_then hb1 hb1.size hb2
    have hGL2 := hGL.below hb02
    cases b' with
    | false =>
      go_wp2_with fail
      refine (answers_says w2 hGL2).mono ?_
      rintro e w3 ⟨rfl, hb3⟩
      go_wp2_with fail
      go_ret
      exact ⟨rfl, below_then hb02 hb02.size hb3⟩
    | true =>
      obtain ⟨hlen, hsz⟩ : l.length < 100 ∧ l.length + wgtS l < 40000 := by first | exact hb rfl | exact hb trivial
      obtain ⟨hlen', hsz'⟩ : l'.length < 100 ∧ l'.length + wgtS l' < 40000 := by first | exact hb' rfl | exact hb' trivial
      clear hb hb'
      have hwc := wgtC_small l
      have hwc' := wgtC_small l'
      have hwl := wgt_turn (r := []) List.Pairwise.nil l
      have hw0 : wgt [] = 0 := rfl
      have hC2 := Kd.C_below hC hb02
      have hC2' := Kd.C_below hC' hb02
      go_wp2_with fail
      refine (tnew_says w2).mono ?_
      rintro e w3 ⟨t, rfl, hT3, hb3⟩
      go_wp2_with fail
      refine (snew_says w2 w3 hGL2 hb3 t _ hT3).mono ?_
      rintro e w4 ⟨hk4, s, rfl, hs4, hS4⟩
      have hB4 : Below w2.heap.size w2 w4 := tur_below hb3 hk4 (fun k h => h ▸ hT3.ge)
      have hdo := sdo_says s t 3300000000000 TapeS.new [] A c l w2 w4 hGL2 hB4 hS4 TapeS.new_good (Kd.C_below hC2 hB4) hc (by omega) (by omega) (by show (0 : Nat) ≤ _; omega) (fun x h => by have := hx x h; unfold maxLen; omega)
      obtain ⟨ls1, hW1, hf1, hr1, hE1, hL1⟩ := do_ok Wel.new rfl l
      have hg1 := do_good TapeS.new_good (by show (0 : Nat) ≤ _; omega) (r := []) l
      change Wel (doR TapeS.new [] l).1 ls1 at hW1
      change (doR TapeS.new [] l).1.fuse = -1 at hf1
      change foldR ls1 = (if (doR TapeS.new [] l).2 = 0 then turnR [] l else []) at hr1
      change (doR TapeS.new [] l).2 = 0 ∨ (doR TapeS.new [] l).2 = 3 ∧ _ ∨ (doR TapeS.new [] l).2 = 7 ∧ _ at hE1
      rw [← hr1] at hdo
      have hw1 : wgt (foldR ls1) ≤ 41200 := by
        rw [hr1]; split <;> omega
      have hk1 : ∀ x ∈ foldR ls1, x.f0.size ≤ 140737488351232 := by
        rw [hr1]
        split
        · exact key_turn List.Pairwise.nil l (by simp) (fun c hc => (hx c hc).1)
        · simp
      have hn1 : (foldR ls1).length ≤ 100 := by
        rw [hr1]
        split
        · have := turnR_len [] l List.Pairwise.nil; simp at this; omega
        · simp
      have HE : RowKit.Hid ((doR TapeS.new [] l).2 = 0 ∧ foldR ls1 = turnR [] l ∨ (doR TapeS.new [] l).2 ≠ 0 ∧ foldR ls1 = []) := Lib.hid (by
        by_cases h0 : (doR TapeS.new [] l).2 = 0
        · exact .inl ⟨h0, by rw [hr1, if_pos h0]⟩
        · exact .inr ⟨h0, by rw [hr1, if_neg h0]⟩)
      clear hr1 hE1 hL1
      obtain ⟨hG1, hTl1⟩ := hg1
      generalize doR TapeS.new [] l = R1 at hdo hW1 hf1 hG1 hTl1 HE
      obtain ⟨T1, f1⟩ := R1
      simp only at hdo hW1 hf1 hG1 hTl1 HE
      have HA := Lib.hid hlen
      have HA' := Lib.hid hlen'
      have HW := Lib.hid (show wgt (foldR ls1) + wgtC l' ≤ 90000 by omega)
      have HN := Lib.hid hn1
      have HT1 := Lib.hid hTl1
      have HF1 := Lib.hid hf1
      clear hlen hlen' hsz hsz' hwc hwc' hwl hw0 hw1 hn1 hTl1 hf1 hl hl'
      go_wp2_with fail
      refine hdo.mono ?_
      rintro e w5 ⟨rfl, hk5, hS5⟩
      clear hdo
      have hB5 : Below w2.heap.size w2 w5 := hB4.trans (hk5.below hB4.size)
      have hS5 := hS5.mono (show _ ≤ 3300000000200 from by have := (show l.length < 100 from HA); omega)
      go_upto_if 37 with (fail)
      go_cut [12] (fun v12 wc => AtoM w2 s t T1 (foldR ls1) (foldR ls1) v12 wc)
      case first =>
        rcases (show (f1 = 0 ∧ foldR ls1 = turnR [] l ∨ f1 ≠ 0 ∧ foldR ls1 = []) from HE) with ⟨h0, hq⟩ | ⟨h0, hq⟩
        · have ht := rturn_says w2.heap.size _ [] A c l w5 hB5.size (RowsAt.nil _ _) (Kd.C_below hC2 hB5) hc (by have := (show l.length < 100 from HA); simp; omega) List.Pairwise.nil
          rw [← hq] at ht
          have d0 : decide (f1 = 0) = true := decide_eq_true h0
          have d1 : (f1 == 0) = true := beq_iff_eq.2 h0
          clear h0 hq
          go_wp2_with fail
          refine ht.mono ?_
          rintro e w6 ⟨v6, rfl, hv6, hb6⟩
          go_wp2_with fail
          go_meet
          case rel => exact ⟨below_then hB5 hB5.size hb6, hS5.below hb6, hv6⟩
        · have d0 : decide (f1 = 0) = false := decide_eq_false h0
          have d1 : (f1 == 0) = false := beq_false_of_ne h0
          have hv : RowsAt w2.heap.size w5 (.slice none 0 0) (foldR ls1) := by rw [hq]; exact RowsAt.nil _ _
          clear h0 hq
          go_wp2_with fail
          go_meet
          case rel => exact ⟨hB5, hS5, hv⟩
      case rest =>
        clear HE hS5 hB5 hS4 hB4 hT3 hk4 hk5
        have hM := hcut
        clear hcut
        have hn0 : max n 0 = n := by omega
        have hfu := sfuse_says s t _ T1 (foldR ls1) n w2 wc hM.sto
        rw [hn0] at hfu
        clear hn0
        go_wp2_with fail
        refine hfu.mono ?_
        rintro e w6 ⟨rfl, hk6, hS6⟩
        have hB6 : Below w2.heap.size w2 w6 := hM.below.trans (hk6.below hM.below.size)
        have hv6 := hM.rows.turO hk6
        have hW2 : Wel (⟨T1.b, T1.sure, n, T1.down⟩ : TapeS) ls1 := ⟨hW1.b, hW1.sm, hW1.sure, hW1.down⟩
        have hG2 : TapeS.Good (⟨T1.b, T1.sure, n, T1.down⟩ : TapeS) := ⟨hG1.len, hG1.sure, by show -1 ≤ n; omega, by show n < _; omega⟩
        have hdo2 := sdo_says s t 3300000000200 ⟨T1.b, T1.sure, n, T1.down⟩ (foldR ls1) A' c' l' w2 w6 hGL2 hB6 hS6 hG2 (Kd.C_below hC2' hB6) hc' (by have := (show l'.length < 100 from HA'); omega) (by have := (show wgt (foldR ls1) + wgtC l' ≤ 90000 from HW); omega) (show T1.b.length ≤ 1000000 from HT1) (fun x h => by have := hx' x h; unfold maxLen; omega)
        obtain ⟨ls2, junk, hL3, hE3⟩ := do_crash hW2 l' keep
        obtain ⟨hG3, hTl3⟩ := do_good hG2 (show T1.b.length ≤ 1000000 from HT1) (r := foldR ls1) l'
        have hcf : ((doR ⟨T1.b, T1.sure, n, T1.down⟩ (foldR ls1) l').1.crash keep).fuse = -1 := rfl
        have hcd : ((doR ⟨T1.b, T1.sure, n, T1.down⟩ (foldR ls1) l').1.crash keep).down = false := rfl
        have hG4 := TapeS.crash_good (doR ⟨T1.b, T1.sure, n, T1.down⟩ (foldR ls1) l').1 keep hG3
        generalize doR ⟨T1.b, T1.sure, n, T1.down⟩ (foldR ls1) l' = R2 at hdo2 hL3 hE3 hG3 hTl3 hcf hcd hG4
        obtain ⟨T2, f2⟩ := R2
        simp only at hdo2 hL3 hE3 hG3 hTl3 hcf hcd hG4
        have Hr2 := Lib.hid (ris_foldR ls1)
        obtain ⟨r2, hr2⟩ : ∃ r, r = turnR (foldR ls1) l' := ⟨_, rfl⟩
        have hris2 : Ris r2 := by rw [hr2]; exact (ris_foldR ls1).turn l'
        have hk2 : ∀ x ∈ r2, x.f0.size ≤ 140737488351232 := by rw [hr2]; exact key_turn (ris_foldR ls1) l' hk1 (fun c hc => (hx' c hc).1)
        have hn2 : r2.length ≤ 1000 := by
          rw [hr2]
          have h1 := turnR_len (foldR ls1) l' (ris_foldR ls1)
          have h2 := (show (foldR ls1).length ≤ 100 from HN)
          have h3 := (show l'.length < 100 from HA')
          omega
        rw [← hr2] at hdo2 hE3
        have HR2 := Lib.hid hr2
        have HE3 := Lib.hid hE3
        have HN2 := Lib.hid hn2
        have HTl3 := Lib.hid hTl3
        have Hcf := Lib.hid hcf
        have Hcd := Lib.hid hcd
        clear hr2 hE3 hn2 hTl3 hcf hcd hk6 hS6 hfu hM hx hx' hn
        go_wp2_with fail
        refine hdo2.mono ?_
        rintro e w7 ⟨rfl, hk7, hS7⟩
        clear hdo2
        have hB7 : Below w2.heap.size w2 w7 := hB6.trans (hk7.below hB6.size)
        have hv7 := hv6.turO hk7
        have hS7 := hS7.mono (show _ ≤ 3300000000400 from by have := (show l'.length < 100 from HA'); omega)
-- [ENDS
        rcases Decidable.em (f2 = 0) with h0 | h0
        · have HE3' : RowKit.Hid (foldR ls2 = r2) := Lib.hid (by
            rcases (show (foldR ls2 = (if f2 = 0 ∨ f2 = 8 then r2 else foldR ls1) ∨ f2 ≠ 0 ∧ foldR ls2 = foldR ls1) from HE3) with h | h
            · rw [h, if_pos (.inl h0)]
            · exact absurd h0 h.1)
          have HN3 : RowKit.Hid ((foldR ls2).length ≤ 1000000) := Lib.hid (by rw [show foldR ls2 = r2 from HE3']; exact (Nat.le_trans (show r2.length ≤ 1000 from HN2) (by decide)))
          rw [if_pos h0] at hS7
          subst h0
          clear HE3
          have htn := rturn_says w2.heap.size _ (foldR ls1) A' c' l' w7 hB7.size hv7 (Kd.C_below hC2' hB7) hc' (by have h1 := (show (foldR ls1).length ≤ 100 from HN); have h2 := (show l'.length < 100 from HA'); omega) (ris_foldR ls1)
          rw [← (show r2 = _ from HR2)] at htn
          go_wp2_with fail
          refine htn.mono ?_
          rintro e w8 ⟨v8, rfl, hv8, hb8⟩
          have HB8 : Below w2.heap.size w2 w8 := below_then hB7 hB7.size hb8
          have HS8 := hS7.below hb8
          have Hv8 := hv7.below hb8
          have Ht8 := hv8
          clear hS7 hv7 hv8 htn
          have hsq := rsame_says _ s t _ _ _ r2 r2 _ w8 HS8 (by have := (show l'.length < 100 from HA'); omega) Ht8 (Nat.le_trans (show r2.length ≤ 1000 from HN2) (by decide)) (Nat.le_trans (show r2.length ≤ 1000 from HN2) (by decide)) hk2
          rw [sameB_self hris2] at hsq
          go_wp2_with fail
          refine hsq.mono ?_
          rintro e w9 ⟨rfl, hb9⟩
          clear hsq
          have hB9 : Below w2.heap.size w2 w9 := below_then HB8 HB8.size hb9
          have hS9 := HS8.below hb9
          have hv9 := Hv8.below hb9
          have ht9 := Ht8.below hb9
          clear HB8 HS8 Hv8 Ht8
          go_wp2_with fail
          refine (scrash_says s t _ T2 _ keep w2 w9 hS9 hG3 hkp).mono ?_
          rintro e w10 ⟨rfl, hk10, hS10⟩
          have hB10 : Below w2.heap.size w2 w10 := hB9.trans (hk10.below hB9.size)
          have hv10 := hv9.turO hk10
          have ht10 := ht9.turO hk10
          clear hv9 ht9 hS9
          go_wp2_with fail
          refine (sagain_says s t _ (T2.crash keep) _ ls2 junk hL3 Hcf Hcd w2 w10 hGL2 hB10 hS10 hG4).mono ?_
          rintro e w11 ⟨hk11, s', rfl, hs', hS11, _⟩
          have hB11 : Below w2.heap.size w2 w11 := hB10.trans (hk11.below hB10.size)
          have hv11 := hv10.turO hk11
          have ht11 := ht10.turO hk11
          clear hv10 ht10 hS10 hk11 hk10
          have hGL11 := hGL2.below hB11
          go_wp2_with fail
          refine (answers_says w11 hGL11).mono ?_
          rintro e w12 ⟨rfl, hb12⟩
          have hB12 : Below w2.heap.size w2 w12 := below_then hB11 hB11.size hb12
          have hS12 := hS11.below hb12
          have hv12 := hv11.below hb12
          have ht12 := ht11.below hb12
          clear hS11 hv11 ht11
          have hsm := rsame_says _ s' t _ _ _ (foldR ls2) _ _ w12 hS12 (by omega) ht12 (Nat.le_trans (show r2.length ≤ 1000 from HN2) (by decide)) (show (foldR ls2).length ≤ 1000000 from HN3) hk2
          rw [show foldR ls2 = r2 from HE3', sameB_self hris2] at hsm
          go_wp2_with fail
          refine hsm.mono ?_
          rintro e w13 ⟨rfl, hb13⟩
          go_wp2_with fail
          go_ret
          exact ⟨rfl, below_then hb02 hb02.size (below_then hB12 hB12.size hb13)⟩
        · rw [if_neg h0] at hS7
          have d0 : decide (f2 = 0) = false := decide_eq_false h0
          have d1 : (f2 == 0) = false := beq_false_of_ne h0
          have d2 : (f2 != 0) = true := bne_iff_ne.2 h0
          rcases Decidable.em (f2 = 8) with h8 | h8
          · have HE3' : RowKit.Hid (foldR ls2 = r2 ∨ foldR ls2 = foldR ls1) := Lib.hid (by
              rcases (show (foldR ls2 = (if f2 = 0 ∨ f2 = 8 then r2 else foldR ls1) ∨ f2 ≠ 0 ∧ foldR ls2 = foldR ls1) from HE3) with h | h
              · rw [if_pos (.inr h8)] at h; exact .inl h
              · exact .inr h.2)
            have HN3 : RowKit.Hid ((foldR ls2).length ≤ 1000000) := Lib.hid (by
              rcases (show foldR ls2 = r2 ∨ foldR ls2 = foldR ls1 from HE3') with h | h
              · rw [h]; exact (Nat.le_trans (show r2.length ≤ 1000 from HN2) (by decide))
              · rw [h]; exact (Nat.le_trans (show (foldR ls1).length ≤ 100 from HN) (by decide)))
            have d8 : decide (f2 = 8) = true := decide_eq_true h8
            subst h8
            clear HE3 h0 d0 d1 d2 d8
            have htn := rturn_says w2.heap.size _ (foldR ls1) A' c' l' w7 hB7.size hv7 (Kd.C_below hC2' hB7) hc' (by have h1 := (show (foldR ls1).length ≤ 100 from HN); have h2 := (show l'.length < 100 from HA'); omega) (ris_foldR ls1)
            rw [← (show r2 = _ from HR2)] at htn
            go_wp2_with fail
            refine htn.mono ?_
            rintro e w8 ⟨v8, rfl, hv8, hb8⟩
            have HB8 : Below w2.heap.size w2 w8 := below_then hB7 hB7.size hb8
            have HS8 := hS7.below hb8
            have Hv8 := hv7.below hb8
            have Ht8 := hv8
            clear hS7 hv7 hv8 htn
            have hsq := rsame_says _ s t _ _ _ (foldR ls1) (foldR ls1) _ w8 HS8 (by have := (show l'.length < 100 from HA'); omega) Hv8 (Nat.le_trans (show (foldR ls1).length ≤ 100 from HN) (by decide)) (Nat.le_trans (show (foldR ls1).length ≤ 100 from HN) (by decide)) hk1
            rw [sameB_self (ris_foldR ls1)] at hsq
            go_wp2_with fail
            refine hsq.mono ?_
            rintro e w9 ⟨rfl, hb9⟩
            clear hsq
            have hB9 : Below w2.heap.size w2 w9 := below_then HB8 HB8.size hb9
            have hS9 := HS8.below hb9
            have hv9 := Hv8.below hb9
            have ht9 := Ht8.below hb9
            clear HB8 HS8 Hv8 Ht8
            go_wp2_with fail
            refine (scrash_says s t _ T2 _ keep w2 w9 hS9 hG3 hkp).mono ?_
            rintro e w10 ⟨rfl, hk10, hS10⟩
            have hB10 : Below w2.heap.size w2 w10 := hB9.trans (hk10.below hB9.size)
            have hv10 := hv9.turO hk10
            have ht10 := ht9.turO hk10
            clear hv9 ht9 hS9
            go_wp2_with fail
            refine (sagain_says s t _ (T2.crash keep) _ ls2 junk hL3 Hcf Hcd w2 w10 hGL2 hB10 hS10 hG4).mono ?_
            rintro e w11 ⟨hk11, s', rfl, hs', hS11, _⟩
            have hB11 : Below w2.heap.size w2 w11 := hB10.trans (hk11.below hB10.size)
            have hv11 := hv10.turO hk11
            have ht11 := ht10.turO hk11
            clear hv10 ht10 hS10 hk11 hk10
            have hGL11 := hGL2.below hB11
            go_wp2_with fail
            refine (answers_says w11 hGL11).mono ?_
            rintro e w12 ⟨rfl, hb12⟩
            have hB12 : Below w2.heap.size w2 w12 := below_then hB11 hB11.size hb12
            have hS12 := hS11.below hb12
            have hv12 := hv11.below hb12
            have ht12 := ht11.below hb12
            clear hS11 hv11 ht11
            have hsm := rsame_says _ s' t _ _ _ (foldR ls2) _ _ w12 hS12 (by omega) ht12 (Nat.le_trans (show r2.length ≤ 1000 from HN2) (by decide)) (show (foldR ls2).length ≤ 1000000 from HN3) hk2
            have hno : sameB (foldR ls2) r2 = false → foldR ls2 = foldR ls1 := fun hf => (show foldR ls2 = r2 ∨ foldR ls2 = foldR ls1 from HE3').resolve_left (fun h => by rw [h, sameB_self hris2] at hf; cases hf)
            generalize sameB (foldR ls2) r2 = b at hsm hno
            have Hno := Lib.hid hno
            clear hno
            go_wp2_with fail
            refine hsm.mono ?_
            rintro e w13 ⟨rfl, hb13⟩
            have hB13 : Below w2.heap.size w2 w13 := below_then hB12 hB12.size hb13
            clear hsm
            cases b with
            | true =>
              go_wp2_with fail
              go_ret
              exact ⟨rfl, below_then hb02 hb02.size hB13⟩
            | false =>
              have hsm2 := rsame_says _ s' t _ _ _ (foldR ls2) _ _ w13 (hS12.below hb13) (by omega) (hv12.below hb13) (Nat.le_trans (show (foldR ls1).length ≤ 100 from HN) (by decide)) (show (foldR ls2).length ≤ 1000000 from HN3) hk1
              rw [(show false = false → foldR ls2 = foldR ls1 from Hno) rfl, sameB_self (ris_foldR ls1)] at hsm2
              go_wp2_with fail
              refine hsm2.mono ?_
              rintro e w14 ⟨rfl, hb14⟩
              go_wp2_with fail
              go_ret
              exact ⟨rfl, below_then hb02 hb02.size (below_then hB13 hB13.size hb14)⟩
          · have HE3' : RowKit.Hid (foldR ls2 = foldR ls1 ∨ foldR ls2 = foldR ls1) := Lib.hid (by
              rcases (show (foldR ls2 = (if f2 = 0 ∨ f2 = 8 then r2 else foldR ls1) ∨ f2 ≠ 0 ∧ foldR ls2 = foldR ls1) from HE3) with h | h
              · rw [if_neg (fun h => h.elim h0 h8)] at h; exact .inl h
              · exact .inr h.2)
            have HN3 : RowKit.Hid ((foldR ls2).length ≤ 1000000) := Lib.hid (by
              rcases (show foldR ls2 = foldR ls1 ∨ foldR ls2 = foldR ls1 from HE3') with h | h
              · rw [h]; exact (Nat.le_trans (show (foldR ls1).length ≤ 100 from HN) (by decide))
              · rw [h]; exact (Nat.le_trans (show (foldR ls1).length ≤ 100 from HN) (by decide)))
            have d8 : decide (f2 = 8) = false := decide_eq_false h8
            have d9 : (f2 == 8) = false := beq_false_of_ne h8
            clear HE3 h0 h8
            obtain ⟨w8, hw8⟩ : ∃ w8, w8 = w7 := ⟨_, rfl⟩
            subst hw8
            have HB8 := hB7
            have HS8 := hS7
            have Hv8 := hv7
            have Ht8 := hv7
            clear hS7 hv7 hB7
            have hsq := rsame_says _ s t _ _ _ (foldR ls1) (foldR ls1) _ w8 HS8 (by have := (show l'.length < 100 from HA'); omega) Hv8 (Nat.le_trans (show (foldR ls1).length ≤ 100 from HN) (by decide)) (Nat.le_trans (show (foldR ls1).length ≤ 100 from HN) (by decide)) hk1
            rw [sameB_self (ris_foldR ls1)] at hsq
            go_wp2_with fail
            refine hsq.mono ?_
            rintro e w9 ⟨rfl, hb9⟩
            clear hsq
            have hB9 : Below w2.heap.size w2 w9 := below_then HB8 HB8.size hb9
            have hS9 := HS8.below hb9
            have hv9 := Hv8.below hb9
            have ht9 := Ht8.below hb9
            clear HB8 HS8 Hv8 Ht8
            go_wp2_with fail
            refine (scrash_says s t _ T2 _ keep w2 w9 hS9 hG3 hkp).mono ?_
            rintro e w10 ⟨rfl, hk10, hS10⟩
            have hB10 : Below w2.heap.size w2 w10 := hB9.trans (hk10.below hB9.size)
            have hv10 := hv9.turO hk10
            have ht10 := ht9.turO hk10
            clear hv9 ht9 hS9
            go_wp2_with fail
            refine (sagain_says s t _ (T2.crash keep) _ ls2 junk hL3 Hcf Hcd w2 w10 hGL2 hB10 hS10 hG4).mono ?_
            rintro e w11 ⟨hk11, s', rfl, hs', hS11, _⟩
            have hB11 : Below w2.heap.size w2 w11 := hB10.trans (hk11.below hB10.size)
            have hv11 := hv10.turO hk11
            have ht11 := ht10.turO hk11
            clear hv10 ht10 hS10 hk11 hk10
            have hGL11 := hGL2.below hB11
            go_wp2_with fail
            refine (answers_says w11 hGL11).mono ?_
            rintro e w12 ⟨rfl, hb12⟩
            have hB12 : Below w2.heap.size w2 w12 := below_then hB11 hB11.size hb12
            have hS12 := hS11.below hb12
            have hv12 := hv11.below hb12
            have ht12 := ht11.below hb12
            clear hS11 hv11 ht11
            have hsm := rsame_says _ s' t _ _ _ (foldR ls2) _ _ w12 hS12 (by omega) ht12 (Nat.le_trans (show (foldR ls1).length ≤ 100 from HN) (by decide)) (show (foldR ls2).length ≤ 1000000 from HN3) hk1
            have hno : sameB (foldR ls2) (foldR ls1) = false → foldR ls2 = foldR ls1 := fun hf => (show foldR ls2 = (foldR ls1) ∨ foldR ls2 = foldR ls1 from HE3').resolve_left (fun h => by rw [h, sameB_self (ris_foldR ls1)] at hf; cases hf)
            generalize sameB (foldR ls2) (foldR ls1) = b at hsm hno
            have Hno := Lib.hid hno
            clear hno
            go_wp2_with fail
            refine hsm.mono ?_
            rintro e w13 ⟨rfl, hb13⟩
            have hB13 : Below w2.heap.size w2 w13 := below_then hB12 hB12.size hb13
            clear hsm
            cases b with
            | true =>
              go_wp2_with fail
              go_ret
              exact ⟨rfl, below_then hb02 hb02.size hB13⟩
            | false =>
              have hsm2 := rsame_says _ s' t _ _ _ (foldR ls2) _ _ w13 (hS12.below hb13) (by omega) (hv12.below hb13) (Nat.le_trans (show (foldR ls1).length ≤ 100 from HN) (by decide)) (show (foldR ls2).length ≤ 1000000 from HN3) hk1
              rw [(show false = false → foldR ls2 = foldR ls1 from Hno) rfl, sameB_self (ris_foldR ls1)] at hsm2
              go_wp2_with fail
              refine hsm2.mono ?_
              rintro e w14 ⟨rfl, hb14⟩
              go_wp2_with fail
              go_ret
              exact ⟨rfl, below_then hb02 hb02.size (below_then hB13 hB13.size hb14)⟩
-- ENDS]
theorem StoreAtomic_in (W : World) (a : Option Addr) (len cap : Nat) (h : ChgsIn W a len cap) (a' : Option Addr) (len' cap' : Nat) (h' : ChgsIn W a' len' cap') (n : Int) (hn : (Lit.int .u16 n).wf = true) (keep : Int) (hk : (Lit.int .i64 keep).wf = true) (hGL : GL W) :
    Calls Tryd.prog 7 #[.slice a len cap, .slice a' len' cap', .int .u16 n, .int .i64 keep] W fun e w' => e = .returned (.bool true) ∧ Below W.heap.size W w' := by
  obtain ⟨l, rfl, h1, h2, h3, h4⟩ := h
  obtain ⟨l', rfl, g1, g2, g3, g4⟩ := h'
  have hn' : 0 ≤ n ∧ n < 65536 := by simp [Lit.wf, IntKind.min, IntKind.max, IntKind.signed, IntKind.bits] at hn; omega
  have hk' : -9223372036854775808 ≤ keep ∧ keep < 9223372036854775808 := by simp [Lit.wf, IntKind.min, IntKind.max, IntKind.signed, IntKind.bits] at hk; omega
  exact StoreAtomic_walk W a cap l h1 h2 h3 h4 a' cap' l' g1 g2 g3 g4 n hn' keep hk' hGL
end Go.Proofs.YtkmokcfnfhabgaaDoor.X
