/- law12.StoreOpens. -/
import Derived.Test.YtkmokcfnfhabgaaDoorRop
set_option linter.unusedVariables false
set_option linter.unusedSimpArgs false
namespace Go.Proofs.YtkmokcfnfhabgaaDoor.X
open Go.RowKit Go.WideMaps Go.Maps Go.Proofs.YtkmokcfnfhabgaaDoorW.PrintWords Go.Proofs.YtkmokcfnfhabgaaDoorW.PrintLast Go.Proofs.YtkmokcfnfhabgaaDoorW.PrintMore Go.Proofs.YtkmokcfnfhabgaaDoor.Q

theorem sbyt_says (base s t N : Nat) (T : TapeS) (r : List S79) (w : World) (h : Sto base w s t T r N) (hl : T.b.length ≤ 70368744177664) :
  Calls Tryd.prog 16 #[.pointer (some ⟨t, 0, none⟩)] w fun e w' => ∃ v, e = .returned v ∧ Kd.R (Kd.int .u8) 5 w' w.heap.size (fun _ => True) v T.b ∧ Below w.heap.size w w' := by
 obtain ⟨m, n, D, v, h1, h2, h3, h4⟩ := h
 exact bytes_says base t v T.b T.sure T.fuse T.down w h2 hl
theorem new_swap (ys : List Int) : TapeS.new.swap ys = (⟨ys, (ys.length : Int), -1, false⟩, 0) :=
 swap_eq0 TapeS.new ys (d := (ys.length : Int) + 1) (f := -1) (g := false) (by show burnL _ (-1) false true = _; unfold burnL; rw [if_neg (by decide), if_pos (.inl (by decide)), if_neg (by decide)])
set_option maxHeartbeats 16000000 in
set_option maxRecDepth 100000 in
theorem StoreOpens_walk (w : World) (A : Option Addr) (c : Nat) (b : List Int) (hC : Kd.C (Kd.int .u8) w A b.length b) (hc : b.length ≤ c) (hb : Byt b) (hGL : GL w) :
  Calls Tryd.prog 3 #[.slice A b.length c] w fun e w' => e = .returned (.bool true) ∧ Below w.heap.size w w' := by
 go_enter Tryd.func3, Tryd.ntmps3
 by_cases h3 : 3000 < b.length
 ·
  have d1 : decide ((3000 : Int) < (b.length : Int)) = true := decide_eq_true (by omega)
  clear h3
  go_wp2_with fail
  refine (answers_says w hGL).mono ?_
  rintro e w2 ⟨rfl, hb2⟩
  go_wp2_with fail
  go_ret
  exact ⟨rfl, hb2⟩
 ·
  have d1 : decide ((3000 : Int) < (b.length : Int)) = false := decide_eq_false (by omega)
  have Hl := Lib.hid (show b.length ≤ 3000 by omega)
  clear h3
  go_wp2_with fail
  refine (tnew_says w).mono ?_
  rintro e w1 ⟨t, rfl, hT1, hb1⟩
  go_wp2_with fail
  refine (rnew_says w1).mono ?_
  rintro e w2 ⟨t', rfl, hR2, hb2⟩
  have hB2 : Below w.heap.size w w2 := below_then hb1 hb1.size hb2
  have hT2 : TpAt w2 w.heap.size t (.slice none 0 0) TapeS.new := TapeAt.kept hT1 (Tur.of_below hb2 (fun _ => False)) (fun h => h) (fun _ _ h => h)
  have htt : t ≠ t' := by have := blk_lt hT1.blk; have := hR2.ge; omega
  have hC2 := Kd.C_below hC hB2
  have hts := tswap_says w.heap.size t _ TapeS.new b A c w2 hT2 (by decide) hC2 (by have := Hl.out; omega) hB2.size
  rw [new_swap] at hts
  go_wp2_with fail
  refine hts.mono ?_
  rintro e w3 ⟨rfl, hk3, v3, hT3, hv3⟩
  clear hts
  have hB3 : Below w.heap.size w w3 := tur_below hB2 hk3 (fun k h => h ▸ hT2.ge)
  have hR3 : RTpAt w3 w1.heap.size t' (.slice none 0 0) TapeS.new := hR2.kept hk3 (fun e => htt e.symm) (fun k hk => by cases hk)
  have hz2 := hb2.size
  have hz3 := hk3.kept.1
  have hrs := rswap_says w1.heap.size t' _ TapeS.new b A c w3 hR3 (by decide) (fun w' hw' => Kd.C_below hC (tur_below hB3 hw' (fun k h => by rw [h]; have := hb1.size; have := hR2.ge; omega))) (by have := Hl.out; omega) (by omega)
  rw [new_swap] at hrs
  go_wp2_with fail
  refine hrs.mono ?_
  rintro e w4 ⟨rfl, hk4, v4, hR4, _⟩
  clear hrs
  have ht'w : t' < w2.heap.size := blk_lt hR2.blk
  have hv3' : ∀ k, v3.ownBlock = some k → w2.heap.size ≤ k := fun k hk => by
   rcases hv3 k hk with h | h
   ·
    cases h
   ·
    exact h
  have hB4 : Below w.heap.size w w4 := tur_below hB3 hk4 (fun k h => by rw [h]; have := hb1.size; have := hR2.ge; omega)
  have hT4 : TpAt w4 w.heap.size t v3 ⟨b, (b.length : Int), -1, false⟩ := TapeAt.kept hT3 hk4 htt (fun k hk e => by have := hv3' k hk; omega)
  have hz4 := hk4.kept.1
  have hG4 : TapeS.Good ⟨b, (b.length : Int), -1, false⟩ := ⟨by have := Hl.out; show b.length ≤ _; omega, by show (0 : Int) ≤ (b.length : Int) ∧ (b.length : Int) ≤ (b.length : Int); omega, (by show (-1 : Int) ≤ -1 ∧ (-1 : Int) < 9223372036854775808; decide)⟩
  have hop := topen_says t v3 ⟨b, (b.length : Int), -1, false⟩ rfl rfl w w4 hGL hB4 hT4 hG4
  go_wp2_with fail
  refine hop.mono ?_
  rintro e w5 ⟨hk5, hcase⟩
  clear hop
  have hB5 : Below w.heap.size w w5 := tur_below hB4 hk5 (fun k h => h ▸ hT4.ge)
  have hR5 : RTpAt w5 w1.heap.size t' v4 ⟨b, (b.length : Int), -1, false⟩ := hR4.kept hk5 (fun e => htt e.symm) (fun k hk e => by
   obtain ⟨cells, hcc⟩ := Kd.R_typed hR4.row k hk
   exact blk_ne hcc hT4.blk (by decide) e)
  have hz5 := hk5.kept.1
  have hro := ropen_says w1.heap.size t' v4 ⟨b, (b.length : Int), -1, false⟩ w5 hR5 rfl rfl hb (by have := Hl.out; show b.length ≤ _; omega) (Nat.le_trans (splitF_small (b.length + 1) b 0).1 (by have := Hl.out; omega)) (by omega)
  rcases open_mir (splitL b).1 Mir.empty with ⟨hn1, hn2⟩ | ⟨D', r', hs1, hs2, hMir⟩
  ·
   rcases hcase with ⟨_, rfl, hT5⟩ | ⟨D, s, m, n, v', h1, _⟩
   ·
    go_wp2_with fail
    refine hro.mono ?_
    rintro e w6 (⟨_, rfl, hb6⟩ | ⟨r, s, vr, v', h1, _⟩)
    ·
     have hB6 : Below w.heap.size w w6 := below_then hB5 hB5.size hb6
     have hGL6 := hGL.below hB6
     go_upto_region 10 with (fail)
     have hB7 := below_drew1 hB6
     have hGL7 := hGL.below hB7
-- [B
     refine start_ (n := 25) (S := fun w' => True) (ds := []) #[false, false, false, false, false, false, false, false, false, false, false, false, false, false, false, false, false, false, false, false, false, false, false, false, false] (by kernel_rfl) rfl rfl trivial (fun hHeld => ?_)
     generalize w6.drew = w7 at hB7 hGL7 hHeld ⊢
     refine one_ (i := 0) (N := some 34) #[true, false, false, false, false, false, false, false, false, false, false, false, false, false, false, false, false, false, false, false, false, false, false, false, false] rfl rfl (by kernel_rfl) (by decide) (fun K hK => ?_)
     refine goes_ Tryd.func8 (by kernel_rfl) rfl #[] (by rfl) rfl rfl (by first | (simp only [List.map_toArray, List.map_cons, List.map_nil]; done) | (simp only [List.map_toArray, List.map_cons, List.map_nil]; rfl)) ?_
     refine (answers_says w7 hGL7).mono ?_
     rintro e w8 ⟨rfl, hb8⟩
     refine ⟨_, rfl, ?_⟩
     refine hK.out _ _ trivial (fun hHeld => ?_)
     clear hK K
     refine norm_ (a' := ?_) ?_ ?_
     rotate_left
     ·
      show Act.put _ (some 34) _ = _
      simp only [Act.put, List.setIfInBounds_toArray, List.set_cons_zero, List.set_cons_succ, i64_w, i32_w]
      rfl
     refine pure_ (i := 1) (N := some 35) (v := ?_) (a' := ?_) #[true, true, false, false, false, false, false, false, false, false, false, false, false, false, false, false, false, false, false, false, false, false, false, false, false] rfl rfl (by kernel_rfl) (fun _ _ _ h => h) (Or.inl ⟨by rfl, ?_⟩) ?_ ?_
     rotate_left
     ·
      intro w'
      go_simp
      with_reducible rfl
     rotate_left
     ·
      simp only [Act.put, List.setIfInBounds_toArray, List.set_cons_zero, List.set_cons_succ, i64_w, i32_w]
      rfl
     refine pure_ (i := 2) (N := some 36) (v := ?_) (a' := ?_) #[true, true, true, false, false, false, false, false, false, false, false, false, false, false, false, false, false, false, false, false, false, false, false, false, false] rfl rfl (by kernel_rfl) (fun _ _ _ h => h) (Or.inl ⟨by rfl, ?_⟩) ?_ ?_
     rotate_left
     ·
      intro w'
      go_simp
      with_reducible rfl
     rotate_left
     ·
      simp only [Act.put, List.setIfInBounds_toArray, List.set_cons_zero, List.set_cons_succ, i64_w, i32_w]
      rfl
     refine pure_ (i := 3) (N := some 37) (v := ?_) (a' := ?_) #[true, true, true, true, false, false, false, false, false, false, false, false, false, false, false, false, false, false, false, false, false, false, false, false, false] rfl rfl (by kernel_rfl) (fun _ _ _ h => h) (Or.inl ⟨by rfl, ?_⟩) ?_ ?_
     rotate_left
     ·
      intro w'
      go_simp
      with_reducible rfl
     rotate_left
     ·
      simp only [Act.put, List.setIfInBounds_toArray, List.set_cons_zero, List.set_cons_succ, i64_w, i32_w]
      rfl
     refine pure_ (i := 4) (N := some 38) (v := ?_) (a' := ?_) #[true, true, true, true, true, false, false, false, false, false, false, false, false, false, false, false, false, false, false, false, false, false, false, false, false] rfl rfl (by kernel_rfl) (fun _ _ _ h => h) (Or.inl ⟨by rfl, ?_⟩) ?_ ?_
     rotate_left
     ·
      intro w'
      go_simp
      with_reducible rfl
     rotate_left
     ·
      simp only [Act.put, List.setIfInBounds_toArray, List.set_cons_zero, List.set_cons_succ, i64_w, i32_w]
      rfl
     refine pure_ (i := 5) (N := some 39) (v := undef) (a' := ?_) #[true, true, true, true, true, true, false, false, false, false, false, false, false, false, false, false, false, false, false, false, false, false, false, false, false] rfl rfl (by kernel_rfl) (fun _ _ _ h => h) (Or.inr ⟨by rfl, rfl⟩) ?_ ?_
     rotate_left
     ·
      simp only [Act.put, List.setIfInBounds_toArray, List.set_cons_zero, List.set_cons_succ, i64_w, i32_w]
      rfl
     refine pure_ (i := 6) (N := some 40) (v := undef) (a' := ?_) #[true, true, true, true, true, true, true, false, false, false, false, false, false, false, false, false, false, false, false, false, false, false, false, false, false] rfl rfl (by kernel_rfl) (fun _ _ _ h => h) (Or.inr ⟨by rfl, rfl⟩) ?_ ?_
     rotate_left
     ·
      simp only [Act.put, List.setIfInBounds_toArray, List.set_cons_zero, List.set_cons_succ, i64_w, i32_w]
      rfl
     refine pure_ (i := 7) (N := some 41) (v := undef) (a' := ?_) #[true, true, true, true, true, true, true, true, false, false, false, false, false, false, false, false, false, false, false, false, false, false, false, false, false] rfl rfl (by kernel_rfl) (fun _ _ _ h => h) (Or.inr ⟨by rfl, rfl⟩) ?_ ?_
     rotate_left
     ·
      simp only [Act.put, List.setIfInBounds_toArray, List.set_cons_zero, List.set_cons_succ, i64_w, i32_w]
      rfl
     refine pure_ (i := 8) (N := some 42) (v := undef) (a' := ?_) #[true, true, true, true, true, true, true, true, true, false, false, false, false, false, false, false, false, false, false, false, false, false, false, false, false] rfl rfl (by kernel_rfl) (fun _ _ _ h => h) (Or.inr ⟨by rfl, rfl⟩) ?_ ?_
     rotate_left
     ·
      simp only [Act.put, List.setIfInBounds_toArray, List.set_cons_zero, List.set_cons_succ, i64_w, i32_w]
      rfl
     refine pure_ (i := 9) (N := some 43) (v := undef) (a' := ?_) #[true, true, true, true, true, true, true, true, true, true, false, false, false, false, false, false, false, false, false, false, false, false, false, false, false] rfl rfl (by kernel_rfl) (fun _ _ _ h => h) (Or.inr ⟨by rfl, rfl⟩) ?_ ?_
     rotate_left
     ·
      simp only [Act.put, List.setIfInBounds_toArray, List.set_cons_zero, List.set_cons_succ, i64_w, i32_w]
      rfl
     refine pure_ (i := 10) (N := some 44) (v := undef) (a' := ?_) #[true, true, true, true, true, true, true, true, true, true, true, false, false, false, false, false, false, false, false, false, false, false, false, false, false] rfl rfl (by kernel_rfl) (fun _ _ _ h => h) (Or.inr ⟨by rfl, rfl⟩) ?_ ?_
     rotate_left
     ·
      simp only [Act.put, List.setIfInBounds_toArray, List.set_cons_zero, List.set_cons_succ, i64_w, i32_w]
      rfl
     refine pure_ (i := 11) (N := some 45) (v := undef) (a' := ?_) #[true, true, true, true, true, true, true, true, true, true, true, true, false, false, false, false, false, false, false, false, false, false, false, false, false] rfl rfl (by kernel_rfl) (fun _ _ _ h => h) (Or.inr ⟨by rfl, rfl⟩) ?_ ?_
     rotate_left
     ·
      simp only [Act.put, List.setIfInBounds_toArray, List.set_cons_zero, List.set_cons_succ, i64_w, i32_w]
      rfl
     refine pure_ (i := 12) (N := some 46) (v := undef) (a' := ?_) #[true, true, true, true, true, true, true, true, true, true, true, true, true, false, false, false, false, false, false, false, false, false, false, false, false] rfl rfl (by kernel_rfl) (fun _ _ _ h => h) (Or.inr ⟨by rfl, rfl⟩) ?_ ?_
     rotate_left
     ·
      simp only [Act.put, List.setIfInBounds_toArray, List.set_cons_zero, List.set_cons_succ, i64_w, i32_w]
      rfl
     refine pure_ (i := 13) (N := some 47) (v := undef) (a' := ?_) #[true, true, true, true, true, true, true, true, true, true, true, true, true, true, false, false, false, false, false, false, false, false, false, false, false] rfl rfl (by kernel_rfl) (fun _ _ _ h => h) (Or.inr ⟨by rfl, rfl⟩) ?_ ?_
     rotate_left
     ·
      simp only [Act.put, List.setIfInBounds_toArray, List.set_cons_zero, List.set_cons_succ, i64_w, i32_w]
      rfl
     refine pure_ (i := 14) (N := some 48) (v := undef) (a' := ?_) #[true, true, true, true, true, true, true, true, true, true, true, true, true, true, true, false, false, false, false, false, false, false, false, false, false] rfl rfl (by kernel_rfl) (fun _ _ _ h => h) (Or.inr ⟨by rfl, rfl⟩) ?_ ?_
     rotate_left
     ·
      simp only [Act.put, List.setIfInBounds_toArray, List.set_cons_zero, List.set_cons_succ, i64_w, i32_w]
      rfl
     refine pure_ (i := 15) (N := some 49) (v := undef) (a' := ?_) #[true, true, true, true, true, true, true, true, true, true, true, true, true, true, true, true, false, false, false, false, false, false, false, false, false] rfl rfl (by kernel_rfl) (fun _ _ _ h => h) (Or.inr ⟨by rfl, rfl⟩) ?_ ?_
     rotate_left
     ·
      simp only [Act.put, List.setIfInBounds_toArray, List.set_cons_zero, List.set_cons_succ, i64_w, i32_w]
      rfl
     refine pure_ (i := 16) (N := some 50) (v := undef) (a' := ?_) #[true, true, true, true, true, true, true, true, true, true, true, true, true, true, true, true, true, false, false, false, false, false, false, false, false] rfl rfl (by kernel_rfl) (fun _ _ _ h => h) (Or.inr ⟨by rfl, rfl⟩) ?_ ?_
     rotate_left
     ·
      simp only [Act.put, List.setIfInBounds_toArray, List.set_cons_zero, List.set_cons_succ, i64_w, i32_w]
      rfl
     refine pure_ (i := 17) (N := some 51) (v := undef) (a' := ?_) #[true, true, true, true, true, true, true, true, true, true, true, true, true, true, true, true, true, true, false, false, false, false, false, false, false] rfl rfl (by kernel_rfl) (fun _ _ _ h => h) (Or.inr ⟨by rfl, rfl⟩) ?_ ?_
     rotate_left
     ·
      simp only [Act.put, List.setIfInBounds_toArray, List.set_cons_zero, List.set_cons_succ, i64_w, i32_w]
      rfl
     refine pure_ (i := 18) (N := some 52) (v := undef) (a' := ?_) #[true, true, true, true, true, true, true, true, true, true, true, true, true, true, true, true, true, true, true, false, false, false, false, false, false] rfl rfl (by kernel_rfl) (fun _ _ _ h => h) (Or.inr ⟨by rfl, rfl⟩) ?_ ?_
     rotate_left
     ·
      simp only [Act.put, List.setIfInBounds_toArray, List.set_cons_zero, List.set_cons_succ, i64_w, i32_w]
      rfl
     refine pure_ (i := 19) (N := some 53) (v := undef) (a' := ?_) #[true, true, true, true, true, true, true, true, true, true, true, true, true, true, true, true, true, true, true, true, false, false, false, false, false] rfl rfl (by kernel_rfl) (fun _ _ _ h => h) (Or.inr ⟨by rfl, rfl⟩) ?_ ?_
     rotate_left
     ·
      simp only [Act.put, List.setIfInBounds_toArray, List.set_cons_zero, List.set_cons_succ, i64_w, i32_w]
      rfl
     refine pure_ (i := 20) (N := some 54) (v := undef) (a' := ?_) #[true, true, true, true, true, true, true, true, true, true, true, true, true, true, true, true, true, true, true, true, true, false, false, false, false] rfl rfl (by kernel_rfl) (fun _ _ _ h => h) (Or.inr ⟨by rfl, rfl⟩) ?_ ?_
     rotate_left
     ·
      simp only [Act.put, List.setIfInBounds_toArray, List.set_cons_zero, List.set_cons_succ, i64_w, i32_w]
      rfl
     refine pure_ (i := 21) (N := some 55) (v := undef) (a' := ?_) #[true, true, true, true, true, true, true, true, true, true, true, true, true, true, true, true, true, true, true, true, true, true, false, false, false] rfl rfl (by kernel_rfl) (fun _ _ _ h => h) (Or.inr ⟨by rfl, rfl⟩) ?_ ?_
     rotate_left
     ·
      simp only [Act.put, List.setIfInBounds_toArray, List.set_cons_zero, List.set_cons_succ, i64_w, i32_w]
      rfl
     refine pure_ (i := 22) (N := some 56) (v := ?_) (a' := ?_) #[true, true, true, true, true, true, true, true, true, true, true, true, true, true, true, true, true, true, true, true, true, true, true, false, false] rfl rfl (by kernel_rfl) (fun _ _ _ h => h) (Or.inl ⟨by rfl, ?_⟩) ?_ ?_
     rotate_left
     ·
      intro w'
      go_simp
      with_reducible rfl
     rotate_left
     ·
      simp only [Act.put, List.setIfInBounds_toArray, List.set_cons_zero, List.set_cons_succ, i64_w, i32_w]
      rfl
     refine pure_ (i := 23) (N := some 57) (v := ?_) (a' := ?_) #[true, true, true, true, true, true, true, true, true, true, true, true, true, true, true, true, true, true, true, true, true, true, true, true, false] rfl rfl (by kernel_rfl) (fun _ _ _ h => h) (Or.inl ⟨by rfl, ?_⟩) ?_ ?_
     rotate_left
     ·
      intro w'
      go_simp
      with_reducible rfl
     rotate_left
     ·
      simp only [Act.put, List.setIfInBounds_toArray, List.set_cons_zero, List.set_cons_succ, i64_w, i32_w]
      rfl
     refine pure_ (i := 24) (N := some 2) (v := ?_) (a' := ?_) #[true, true, true, true, true, true, true, true, true, true, true, true, true, true, true, true, true, true, true, true, true, true, true, true, true] rfl rfl (by kernel_rfl) (fun _ _ _ h => h) (Or.inl ⟨by rfl, ?_⟩) ?_ ?_
     rotate_left
     ·
      intro w'
      go_simp
      with_reducible rfl
     rotate_left
     ·
      simp only [Act.put, List.setIfInBounds_toArray, List.set_cons_zero, List.set_cons_succ, i64_w, i32_w]
      rfl
     refine done_ (by kernel_rfl) ?_
-- B]
     go_wp2_with fail
     go_ret
     exact ⟨rfl, below_then hB7 hB7.size hb8⟩
    ·
     rw [show openR (splitL b).1 [] = none from hn2] at h1; cases h1
   ·
    rw [show openD (splitL b).1 (.map []) = none from hn1] at h1; cases h1
  ·
   rcases hcase with ⟨h1, _⟩ | ⟨D, s, m, n, v', h1, rfl, hS5, hn5, hT5, hv5⟩
   ·
    rw [show openD (splitL b).1 (.map []) = _ from hs1] at h1; cases h1
   ·
    rw [show openD (splitL b).1 (.map []) = _ from hs1] at h1
    obtain rfl := Option.some.inj h1
    have hrl := openR_len (splitL b).1 (splitF_small (b.length + 1) b 0).2 List.Pairwise.nil hs2
    have hrlen : r'.length ≤ 1000000000 := by
     have h9 := hrl.2.1
     have h8 := (splitF_small (b.length + 1) b 0).1
     have h7 := Hl.out
     have : (splitL b).1.length * 32769 ≤ 3001 * 32769 := Nat.mul_le_mul_right _ (by show (splitF (b.length + 1) b 0).1.length ≤ _; omega)
     simp at h9
     omega
    have hrk := hrl.2.2 (by simp)
    have Hrl := Lib.hid hrlen
    clear hrl hrlen hs1 h1
    go_wp2_with fail
    refine hro.mono ?_
    rintro e w6 (⟨h2, _⟩ | ⟨r, s', vr, v6, h2, rfl, hSR, hRT6, hk6⟩)
    ·
     rw [show openR (splitL b).1 [] = _ from hs2] at h2; cases h2
    ·
     rw [show openR (splitL b).1 [] = _ from hs2] at h2
     obtain rfl := Option.some.inj h2
     have hst : s ≠ t := blk_ne hS5.blk hT5.blk (by decide)
     have hs5 := hS5.ge
     have hm5 := hS5.mge
     have hB6 : Below w.heap.size w w6 := tur_below hB5 hk6 (fun k h => by rw [h]; have := hb1.size; have := hR2.ge; omega)
     have hS6 := hS5.kept hk6 (by omega) (by omega)
     have hT6 : TpAt w6 w.heap.size t v' (TapeS.opened ⟨b, (b.length : Int), -1, false⟩) := TapeAt.kept hT5 hk6 htt (fun k hk e => by
      rcases hv5 k hk with h | h
      ·
       have := hv3' k h; omega
      ·
       omega)
     have hSto : Sto w.heap.size w6 s t (TapeS.opened ⟨b, (b.length : Int), -1, false⟩) r' 3300000000000 := ⟨m, n, D', v', hS6.lower hB4.size, hT6, hMir, by omega⟩
     obtain ⟨Ar, cr, rfl, hrc, _⟩ := hSR.rows.slice
     obtain ⟨A6, c6, e6⟩ := Kd.R_slice hRT6.row
     subst e6
     obtain ⟨X, hX⟩ : ∃ X, X = (TapeS.opened ⟨b, (b.length : Int), -1, false⟩) := ⟨_, rfl⟩
     rw [← hX] at hSto hRT6
     have hXl : X.b.length ≤ 3000 := by
      rw [hX]
      show (List.take _ b).length ≤ _
      rw [List.length_take]
      have := Hl.out
      omega
     have hris := hMir.ris
     go_upto_region 10 with (fail)
     have hd6 : Below w6.heap.size w6 w6.drew := below_drew1 (Below.refl _ w6)
     have hB7 := below_drew1 hB6
     have hGL7 := hGL.below hB7
     have hSto7 := hSto.below hd6
     have hRT7 := hRT6.below hd6
     have hblk7 := blk_below hSR.blk hd6
     have hrow7 := hSR.rows.below hd6
     have hK0 : ∀ w', Below w6.drew.heap.size w6.drew w' → w'.cell? ⟨s', 1, none⟩ = some (.slice Ar r'.length cr) ∧ w'.cell? ⟨t', 0, none⟩ = some (.slice A6 X.b.length c6) ∧ Sem.run Tryd.prog (convert 22 9 (.slice A6 X.b.length c6)) w' = .ok (.string (strOfNums X.b)) w' := fun w' h =>
      ⟨blk_cell (blk_below hblk7 h) 1, blk_cell (hRT7.below h).blk 0, Kd.C_string (dst := 9) Tryd.underlying22 Tryd.underlying5 Tryd.underlying9 (Kd.R_reads' (hRT7.below h).row).2.2⟩
     have hsame : ∀ w', Below w6.drew.heap.size w6.drew w' → Calls Tryd.prog 15 #[.pointer (some ⟨s, 0, none⟩), .slice Ar r'.length cr] w' fun e w2 => e = .returned (.bool true) ∧ Below w'.heap.size w' w2 := fun w' h => by
      have := rsame_big _ s t 3300000000000 _ X r' r' _ w' (hSto7.below h) (by decide) (hrow7.below h) Hrl.out Hrl.out hrk
      rw [sameB_self hris] at this
      exact this
     have hbyt := fun w' (h : Below w6.drew.heap.size w6.drew w') => sbyt_says _ s t 3300000000000 X r' w' (hSto7.below h) (by omega)
     clear hSto hRT6 hSR hSto7 hRT7 hblk7 hrow7 hd6
     generalize X.b = X at hK0 hbyt
-- [C
     refine start_ (n := 25) (S := fun w' => w'.cell? ⟨s', 1, none⟩ = some (.slice Ar r'.length cr) ∧ w'.cell? ⟨t', 0, none⟩ = some (.slice A6 X.length c6) ∧ Sem.run Tryd.prog (convert 22 9 (.slice A6 X.length c6)) w' = .ok (.string (strOfNums X)) w') (ds := []) #[false, false, false, false, false, false, false, false, false, false, false, false, false, false, false, false, false, false, false, false, false, false, false, false, false] (by kernel_rfl) rfl rfl ⟨(hK0 _ (Below.refl _ _)).1, (hK0 _ (Below.refl _ _)).2.1, (hK0 _ (Below.refl _ _)).2.2⟩ (fun hHeld => ?_)
     generalize w6.drew = w7 at hB7 hGL7 hsame hbyt hK0 hHeld ⊢
     refine one_ (i := 0) (N := some 34) #[true, false, false, false, false, false, false, false, false, false, false, false, false, false, false, false, false, false, false, false, false, false, false, false, false] rfl rfl (by kernel_rfl) (by decide) (fun K hK => ?_)
     refine goes_ Tryd.func8 (by kernel_rfl) rfl #[] (by rfl) rfl rfl (by first | (simp only [List.map_toArray, List.map_cons, List.map_nil]; done) | (simp only [List.map_toArray, List.map_cons, List.map_nil]; rfl)) ?_
     refine (answers_says w7 hGL7).mono ?_
     rintro e w8 ⟨rfl, hb8⟩
     refine ⟨_, rfl, ?_⟩
     have hb78 := hb8
     refine hK.out _ _ ⟨(hK0 _ hb8).1, (hK0 _ hb8).2.1, (hK0 _ hb8).2.2⟩ (fun hHeld => ?_)
     clear hK K
     refine norm_ (a' := ?_) ?_ ?_
     rotate_left
     ·
      show Act.put _ (some 34) _ = _
      simp only [Act.put, List.setIfInBounds_toArray, List.set_cons_zero, List.set_cons_succ, i64_w, i32_w]
      rfl
     refine pure_ (i := 1) (N := some 35) (v := ?_) (a' := ?_) #[true, true, false, false, false, false, false, false, false, false, false, false, false, false, false, false, false, false, false, false, false, false, false, false, false] rfl rfl (by kernel_rfl) (fun _ _ _ h => h) (Or.inl ⟨by rfl, ?_⟩) ?_ ?_
     rotate_left
     ·
      intro w'
      go_simp
      with_reducible rfl
     rotate_left
     ·
      simp only [Act.put, List.setIfInBounds_toArray, List.set_cons_zero, List.set_cons_succ, i64_w, i32_w]
      rfl
     refine pure_ (i := 2) (N := some 36) (v := ?_) (a' := ?_) #[true, true, true, false, false, false, false, false, false, false, false, false, false, false, false, false, false, false, false, false, false, false, false, false, false] rfl rfl (by kernel_rfl) (fun _ _ _ h => h) (Or.inl ⟨by rfl, ?_⟩) ?_ ?_
     rotate_left
     ·
      intro w'
      go_simp
      with_reducible rfl
     rotate_left
     ·
      simp only [Act.put, List.setIfInBounds_toArray, List.set_cons_zero, List.set_cons_succ, i64_w, i32_w]
      rfl
     refine pure_ (i := 3) (N := some 37) (v := ?_) (a' := ?_) #[true, true, true, true, false, false, false, false, false, false, false, false, false, false, false, false, false, false, false, false, false, false, false, false, false] rfl rfl (by kernel_rfl) (fun _ _ _ h => h) (Or.inl ⟨by rfl, ?_⟩) ?_ ?_
     rotate_left
     ·
      intro w'
      go_simp
      with_reducible rfl
     rotate_left
     ·
      simp only [Act.put, List.setIfInBounds_toArray, List.set_cons_zero, List.set_cons_succ, i64_w, i32_w]
      rfl
     refine pure_ (i := 4) (N := some 38) (v := ?_) (a' := ?_) #[true, true, true, true, true, false, false, false, false, false, false, false, false, false, false, false, false, false, false, false, false, false, false, false, false] rfl rfl (by kernel_rfl) (fun _ _ _ h => h) (Or.inl ⟨by rfl, ?_⟩) ?_ ?_
     rotate_left
     ·
      intro w'
      go_simp
      with_reducible rfl
     rotate_left
     ·
      simp only [Act.put, List.setIfInBounds_toArray, List.set_cons_zero, List.set_cons_succ, i64_w, i32_w]
      rfl
     refine pure_ (i := 5) (N := some 39) (v := ?_) (a' := ?_) #[true, true, true, true, true, true, false, false, false, false, false, false, false, false, false, false, false, false, false, false, false, false, false, false, false] rfl rfl (by kernel_rfl) (fun _ _ _ h => h) (Or.inl ⟨by rfl, ?_⟩) ?_ ?_
     rotate_left
     ·
      intro w'
      go_simp
      with_reducible rfl
     rotate_left
     ·
      simp only [Act.put, List.setIfInBounds_toArray, List.set_cons_zero, List.set_cons_succ, i64_w, i32_w]
      rfl
     refine pure_ (i := 6) (N := some 40) (v := ?_) (a' := ?_) #[true, true, true, true, true, true, true, false, false, false, false, false, false, false, false, false, false, false, false, false, false, false, false, false, false] rfl rfl (by kernel_rfl) (fun _ _ _ h => h) (Or.inl ⟨by rfl, ?_⟩) ?_ ?_
     rotate_left
     ·
      intro w'
      go_simp
      with_reducible rfl
     rotate_left
     ·
      simp only [Act.put, List.setIfInBounds_toArray, List.set_cons_zero, List.set_cons_succ, i64_w, i32_w]
      rfl
     refine pure_ (i := 7) (N := some 41) (v := ?_) (a' := ?_) #[true, true, true, true, true, true, true, true, false, false, false, false, false, false, false, false, false, false, false, false, false, false, false, false, false] rfl rfl (by kernel_rfl) (fun _ _ _ h => h) (Or.inl ⟨by rfl, ?_⟩) ?_ ?_
     rotate_left
     ·
      intro w'
      go_simp
      with_reducible rfl
     rotate_left
     ·
      simp only [Act.put, List.setIfInBounds_toArray, List.set_cons_zero, List.set_cons_succ, i64_w, i32_w]
      rfl
     refine pure_ (i := 8) (N := some 42) (v := ?_) (a' := ?_) #[true, true, true, true, true, true, true, true, true, false, false, false, false, false, false, false, false, false, false, false, false, false, false, false, false] rfl rfl (by kernel_rfl) (fun _ _ _ h => h) (Or.inl ⟨by rfl, ?_⟩) ?_ ?_
     rotate_left
     ·
      intro w'
      go_simp
      with_reducible rfl
     rotate_left
     ·
      simp only [Act.put, List.setIfInBounds_toArray, List.set_cons_zero, List.set_cons_succ, i64_w, i32_w]
      rfl
     refine take_ (i := 9) (N := some 43) (v := ?_) (a' := ?_) #[true, true, true, true, true, true, true, true, true, true, false, false, false, false, false, false, false, false, false, false, false, false, false, false, false] rfl rfl (by kernel_rfl) (fun _ _ _ h => h) (Or.inl ⟨by rfl, ?_⟩) hHeld ?_ ?_
     rotate_left
     ·
      rintro w' ⟨s0, s1, s2⟩
      go_simp
      with_reducible rfl
     rotate_left
     ·
      simp only [Act.put, List.setIfInBounds_toArray, List.set_cons_zero, List.set_cons_succ, i64_w, i32_w]
      rfl
     refine one_ (i := 10) (N := some 44) #[true, true, true, true, true, true, true, true, true, true, true, false, false, false, false, false, false, false, false, false, false, false, false, false, false] rfl rfl (by kernel_rfl) (by decide) (fun K hK => ?_)
     refine goes_ Tryd.func15 (by kernel_rfl) rfl #[.pointer (some ⟨s, 0, none⟩), .slice Ar r'.length cr] (by rfl) rfl rfl (by first | (simp only [List.map_toArray, List.map_cons, List.map_nil]; done) | (simp only [List.map_toArray, List.map_cons, List.map_nil]; rfl)) ?_
     refine (hsame w8 hb8).mono ?_
     rintro e w9 ⟨rfl, hb9⟩
     refine ⟨_, rfl, ?_⟩
     have hb79 := below_then hb8 hb8.size hb9
     refine hK.out _ _ ⟨(hK0 _ hb79).1, (hK0 _ hb79).2.1, (hK0 _ hb79).2.2⟩ (fun hHeld => ?_)
     clear hK K
     refine norm_ (a' := ?_) ?_ ?_
     rotate_left
     ·
      show Act.put _ (some 44) _ = _
      simp only [Act.put, List.setIfInBounds_toArray, List.set_cons_zero, List.set_cons_succ, i64_w, i32_w]
      rfl
     refine pure_ (i := 11) (N := some 45) (v := ?_) (a' := ?_) #[true, true, true, true, true, true, true, true, true, true, true, true, false, false, false, false, false, false, false, false, false, false, false, false, false] rfl rfl (by kernel_rfl) (fun _ _ _ h => h) (Or.inl ⟨by rfl, ?_⟩) ?_ ?_
     rotate_left
     ·
      intro w'
      go_simp
      with_reducible rfl
     rotate_left
     ·
      simp only [Act.put, List.setIfInBounds_toArray, List.set_cons_zero, List.set_cons_succ, i64_w, i32_w]
      rfl
     refine pure_ (i := 12) (N := some 46) (v := ?_) (a' := ?_) #[true, true, true, true, true, true, true, true, true, true, true, true, true, false, false, false, false, false, false, false, false, false, false, false, false] rfl rfl (by kernel_rfl) (fun _ _ _ h => h) (Or.inl ⟨by rfl, ?_⟩) ?_ ?_
     rotate_left
     ·
      intro w'
      go_simp
      with_reducible rfl
     rotate_left
     ·
      simp only [Act.put, List.setIfInBounds_toArray, List.set_cons_zero, List.set_cons_succ, i64_w, i32_w]
      rfl
     refine pure_ (i := 15) (N := some 49) (v := ?_) (a' := ?_) #[true, true, true, true, true, true, true, true, true, true, true, true, true, false, false, true, false, false, false, false, false, false, false, false, false] rfl rfl (by kernel_rfl) (fun _ _ _ h => h) (Or.inl ⟨by rfl, ?_⟩) ?_ ?_
     rotate_left
     ·
      intro w'
      go_simp
      with_reducible rfl
     rotate_left
     ·
      simp only [Act.put, List.setIfInBounds_toArray, List.set_cons_zero, List.set_cons_succ, i64_w, i32_w]
      rfl
     refine pure_ (i := 16) (N := some 50) (v := ?_) (a' := ?_) #[true, true, true, true, true, true, true, true, true, true, true, true, true, false, false, true, true, false, false, false, false, false, false, false, false] rfl rfl (by kernel_rfl) (fun _ _ _ h => h) (Or.inl ⟨by rfl, ?_⟩) ?_ ?_
     rotate_left
     ·
      intro w'
      go_simp
      with_reducible rfl
     rotate_left
     ·
      simp only [Act.put, List.setIfInBounds_toArray, List.set_cons_zero, List.set_cons_succ, i64_w, i32_w]
      rfl
     refine pure_ (i := 17) (N := some 51) (v := ?_) (a' := ?_) #[true, true, true, true, true, true, true, true, true, true, true, true, true, false, false, true, true, true, false, false, false, false, false, false, false] rfl rfl (by kernel_rfl) (fun _ _ _ h => h) (Or.inl ⟨by rfl, ?_⟩) ?_ ?_
     rotate_left
     ·
      intro w'
      go_simp
      with_reducible rfl
     rotate_left
     ·
      simp only [Act.put, List.setIfInBounds_toArray, List.set_cons_zero, List.set_cons_succ, i64_w, i32_w]
      rfl
     refine take_ (i := 18) (N := some 52) (v := ?_) (a' := ?_) #[true, true, true, true, true, true, true, true, true, true, true, true, true, false, false, true, true, true, true, false, false, false, false, false, false] rfl rfl (by kernel_rfl) (fun _ _ _ h => h) (Or.inl ⟨by rfl, ?_⟩) hHeld ?_ ?_
     rotate_left
     ·
      rintro w' ⟨s0, s1, s2⟩
      go_simp
      with_reducible rfl
     rotate_left
     ·
      simp only [Act.put, List.setIfInBounds_toArray, List.set_cons_zero, List.set_cons_succ, i64_w, i32_w]
      rfl
     refine take_ (i := 19) (N := some 53) (v := ?_) (a' := ?_) #[true, true, true, true, true, true, true, true, true, true, true, true, true, false, false, true, true, true, true, true, false, false, false, false, false] rfl rfl (by kernel_rfl) (fun _ _ _ h => h) (Or.inl ⟨by rfl, ?_⟩) hHeld ?_ ?_
     rotate_left
     ·
      rintro w' ⟨s0, s1, s2⟩
      go_simp
      with_reducible rfl
     rotate_left
     ·
      simp only [Act.put, List.setIfInBounds_toArray, List.set_cons_zero, List.set_cons_succ, i64_w, i32_w]
      rfl
     refine one_ (i := 13) (N := some 47) #[true, true, true, true, true, true, true, true, true, true, true, true, true, true, false, true, true, true, true, true, false, false, false, false, false] rfl rfl (by kernel_rfl) (by decide) (fun K hK => ?_)
     refine goes_ Tryd.func16 (by kernel_rfl) rfl #[.pointer (some ⟨t, 0, none⟩)] (by rfl) rfl rfl (by first | (simp only [List.map_toArray, List.map_cons, List.map_nil]; done) | (simp only [List.map_toArray, List.map_cons, List.map_nil]; rfl)) ?_
     refine (hbyt w9 hb79).mono ?_
     rintro e w10 ⟨v10, rfl, hr10, hb10⟩
     obtain ⟨A10, c10, e10⟩ := Kd.R_slice hr10
     subst e10
     refine ⟨_, rfl, ?_⟩
     have hb710 := below_then hb79 hb79.size hb10
     have hcv10 := Kd.C_string (P := Tryd.prog) (A := A10) (c := c10) (dst := 9) Tryd.underlying22 Tryd.underlying5 Tryd.underlying9 (Kd.R_reads' hr10).2.2
     refine hK.out _ _ ⟨(hK0 _ hb710).1, (hK0 _ hb710).2.1, (hK0 _ hb710).2.2⟩ (fun hHeld => ?_)
     clear hK K
     refine norm_ (a' := ?_) ?_ ?_
     rotate_left
     ·
      show Act.put _ (some 47) _ = _
      simp only [Act.put, List.setIfInBounds_toArray, List.set_cons_zero, List.set_cons_succ, i64_w, i32_w]
      rfl
     refine one_ (i := 14) (N := some 48) #[true, true, true, true, true, true, true, true, true, true, true, true, true, true, true, true, true, true, true, true, false, false, false, false, false] rfl rfl (by kernel_rfl) (by decide) (fun K hK => ?_)
     refine value_ (w1 := ?_) (v := ?_) (by rfl) rfl ?_ ?_
     rotate_left 2
     ·
      go_simp
      constructor
      ·
       rfl
      ·
       rfl
     refine hK.out _ _ ⟨(hK0 _ hb710).1, (hK0 _ hb710).2.1, (hK0 _ hb710).2.2⟩ (fun hHeld => ?_)
     clear hK K
     refine norm_ (a' := ?_) ?_ ?_
     rotate_left
     ·
      show Act.put _ (some 48) _ = _
      simp only [Act.put, List.setIfInBounds_toArray, List.set_cons_zero, List.set_cons_succ, i64_w, i32_w]
      rfl
     refine pure_ (i := 20) (N := some 54) (v := ?_) (a' := ?_) #[true, true, true, true, true, true, true, true, true, true, true, true, true, true, true, true, true, true, true, true, true, false, false, false, false] rfl rfl (by kernel_rfl) (fun _ _ _ h => h) (Or.inl ⟨by rfl, ?_⟩) ?_ ?_
     rotate_left
     ·
      intro w'
      go_simp
      with_reducible rfl
     rotate_left
     ·
      simp only [Act.put, List.setIfInBounds_toArray, List.set_cons_zero, List.set_cons_succ, i64_w, i32_w]
      rfl
     refine pure_ (i := 21) (N := some 55) (v := ?_) (a' := ?_) #[true, true, true, true, true, true, true, true, true, true, true, true, true, true, true, true, true, true, true, true, true, true, false, false, false] rfl rfl (by kernel_rfl) (fun _ _ _ h => h) (Or.inl ⟨by rfl, ?_⟩) ?_ ?_
     rotate_left
     ·
      intro w'
      go_simp
      with_reducible rfl
     rotate_left
     ·
      simp only [Act.put, List.setIfInBounds_toArray, List.set_cons_zero, List.set_cons_succ, i64_w, i32_w]
      rfl
     refine pure_ (i := 22) (N := some 56) (v := ?_) (a' := ?_) #[true, true, true, true, true, true, true, true, true, true, true, true, true, true, true, true, true, true, true, true, true, true, true, false, false] rfl rfl (by kernel_rfl) (fun _ _ _ h => h) (Or.inl ⟨by rfl, ?_⟩) ?_ ?_
     rotate_left
     ·
      intro w'
      go_simp
      with_reducible rfl
     rotate_left
     ·
      simp only [Act.put, List.setIfInBounds_toArray, List.set_cons_zero, List.set_cons_succ, i64_w, i32_w]
      rfl
     refine pure_ (i := 23) (N := some 57) (v := ?_) (a' := ?_) #[true, true, true, true, true, true, true, true, true, true, true, true, true, true, true, true, true, true, true, true, true, true, true, true, false] rfl rfl (by kernel_rfl) (fun _ _ _ h => h) (Or.inl ⟨by rfl, ?_⟩) ?_ ?_
     rotate_left
     ·
      intro w'
      go_simp
      with_reducible rfl
     rotate_left
     ·
      simp only [Act.put, List.setIfInBounds_toArray, List.set_cons_zero, List.set_cons_succ, i64_w, i32_w]
      rfl
     refine pure_ (i := 24) (N := some 2) (v := ?_) (a' := ?_) #[true, true, true, true, true, true, true, true, true, true, true, true, true, true, true, true, true, true, true, true, true, true, true, true, true] rfl rfl (by kernel_rfl) (fun _ _ _ h => h) (Or.inl ⟨by rfl, ?_⟩) ?_ ?_
     rotate_left
     ·
      intro w'
      go_simp
      with_reducible rfl
     rotate_left
     ·
      simp only [Act.put, List.setIfInBounds_toArray, List.set_cons_zero, List.set_cons_succ, i64_w, i32_w]
      rfl
     refine done_ (by kernel_rfl) ?_
-- C]
     go_wp2_with fail
     go_ret
     exact ⟨rfl, below_then hB7 hB7.size hb710⟩
theorem StoreOpens_in (W : World) (a : Option Addr) (len cap : Nat) (z : List Int) (h : (a = none ∧ len = 0 ∧ cap = 0 ∧ z = []) ∨ ∃ x, a = some x ∧ len ≤ cap ∧ cap ≤ maxLen ∧ z.length = cap ∧ (∀ i, i < z.length → W.cell? (x.add i) = some (.int .u8 (z.getD i 0))) ∧ ∀ n ∈ z, (Lit.int .u8 n).wf = true) (hGL : GL W) :
  Calls Tryd.prog 3 #[.slice a len cap] W fun e w' => e = .returned (.bool true) ∧ Below W.heap.size W w' := by
 obtain ⟨l, rfl, hr, hm, hw, hc⟩ := ReadsInt.ofRowC h
 refine StoreOpens_walk W a cap l (Kd.C_of_reads (d := (0 : Int)) (h1 := fun _ => rfl) hr) hc (fun x hx => ?_) hGL
 have := hw x hx
 simp [Lit.wf, IntKind.min, IntKind.max, IntKind.signed, IntKind.bits] at this
 omega
end Go.Proofs.YtkmokcfnfhabgaaDoor.X
