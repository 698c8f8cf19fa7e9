/- law12.StoreRenews. -/
import Derived.Test.YtkmokcfnfhabgaaDoorLatom
set_option linter.unusedVariables false
set_option linter.unusedSimpArgs false
namespace Go.Proofs.YtkmokcfnfhabgaaDoor.X
open Go.RowKit Go.WideMaps Go.Maps Go.Proofs.YtkmokcfnfhabgaaDoorW.PrintWords Go.Proofs.YtkmokcfnfhabgaaDoorW.PrintLast Go.Proofs.YtkmokcfnfhabgaaDoorW.PrintMore Go.Proofs.YtkmokcfnfhabgaaDoor.Q

/-- Rows of four keys of one letter, none too long. -/
def RenR (r : List S79) : Prop := Ris r ∧ ∀ x ∈ r, x.f1.size ≤ 5999 ∧ ∃ b : UInt8, x.f0 = ⟨#[b]⟩ ∧ 97 ≤ b.toNat ∧ b.toNat < 101
theorem kl_one (a b : UInt8) : kl (⟨#[a]⟩ : ByteArray) < kl (⟨#[b]⟩ : ByteArray) ↔ a < b := by
  show List.Lex (fun x y : UInt8 => x < y) [a] [b] ↔ a < b
  constructor
  · intro h
    cases h with
    | rel h => exact h
    | cons h => cases h
  · exact fun h => List.Lex.rel h
theorem ren_len : ∀ (r : List S79) (n : Nat), RenR r → (∀ x ∈ r, ∀ b : UInt8, x.f0 = ⟨#[b]⟩ → n ≤ b.toNat) → n ≤ 101 → r.length ≤ 101 - n := by
  intro r
  induction r with
  | nil => intro n _ _ _; simp
  | cons x r ih =>
    intro n h hn h101
    obtain ⟨hx, hr⟩ := List.pairwise_cons.1 h.1
    obtain ⟨_, b, hb, _, hb2⟩ := h.2 x (List.mem_cons_self ..)
    have h1 := hn x (List.mem_cons_self ..) b hb
    have h2 := ih (b.toNat + 1) ⟨hr, fun y hy => h.2 y (List.mem_cons_of_mem _ hy)⟩ (by
      intro y hy c hc
      have := hx y hy
      rw [hb, hc, kl_one] at this
      have := UInt8.lt_iff_toNat_lt.1 this
      omega) (by omega)
    rw [List.length_cons]; omega
theorem ren_wgt {r : List S79} (h : RenR r) : wgt r ≤ 24048 := by
  have h1 := ren_len r 97 h (fun x hx b hb => by obtain ⟨_, c, hc, h97, _⟩ := h.2 x hx; rw [hb] at hc; have : b = c := by simpa using hc
                                                 rw [this]; exact h97) (by omega)
  have h2 : wgt r ≤ 6012 * r.length := by
    unfold wgt
    have hx := h.2
    clear h1 h
    induction r with
    | nil => simp
    | cons x r ih =>
      obtain ⟨hs, b, hb, _⟩ := hx x (List.mem_cons_self ..)
      have := ih (fun y hy => hx y (List.mem_cons_of_mem _ hy))
      have hsz : x.f0.size = 1 := by rw [hb]; rfl
      simp only [List.map_cons, List.sum_cons, List.length_cons]
      omega
  omega
theorem ren_turn {r : List S79} (h : RenR r) (k v : ByteArray) (b : UInt8) (hk : k = ⟨#[b]⟩) (h1 : 97 ≤ b.toNat) (h2 : b.toNat < 101) (hv : v.size ≤ 5999) : RenR (turnR r [⟨k, v, false⟩]) := by
  refine ⟨h.1.turn1 _, fun x hx => ?_⟩
  rcases (turn1_mem h.1 ⟨k, v, false⟩ x).1 hx with h' | ⟨_, h'⟩
  · exact h.2 x h'.1
  · rw [h']; exact ⟨hv, b, hk, h1, h2⟩
/-- Between two rounds. -/
structure RenI (w0 : World) (s t : Nat) (i : Nat) (T : TapeS) (ls : List (List S49)) (w : World) : Prop where
  below : Below w0.heap.size w0 w
  sto : Sto w0.heap.size w s t T (foldR ls) (3300000000000 + i)
  wel : Wel T ls
  fuse : T.fuse = -1
  len : T.b.length ≤ 65536
  good : T.Good
  rows : RenR (foldR ls)
theorem sbytes_says (base s t N : Nat) (T : TapeS) (r : List S79) (w : World) (h : Sto base w s t T r N) (hl : T.b.length ≤ 70368744177664) :
    Calls Tryd.prog 16 #[.pointer (some ⟨t, 0, none⟩)] w fun e w' => ∃ v, e = .returned v ∧ Kd.R (Kd.int .u8) 5 w' w.heap.size (fun _ => True) v T.b ∧ Below w.heap.size w w' := by
  obtain ⟨m, n, D, v, h1, h2, h3, h4⟩ := h
  exact bytes_says base t v T.b T.sure T.fuse T.down w h2 hl
/-- One call of Do. -/
theorem ren_do {T : TapeS} {ls : List (List S49)} (h : Wel T ls) (hf : T.fuse = -1) (hl : T.b.length ≤ 65536) (hr : RenR (foldR ls)) (k v : ByteArray) (b : UInt8) (hk : k = ⟨#[b]⟩) (h1 : 97 ≤ b.toNat) (h2 : b.toNat < 101) (hv : v.size ≤ 5999) :
    (doR T (foldR ls) [⟨k, v, false⟩]).2 = 0 ∧ ∃ ls', Wel (doR T (foldR ls) [⟨k, v, false⟩]).1 ls' ∧ (doR T (foldR ls) [⟨k, v, false⟩]).1.fuse = -1 ∧ (doR T (foldR ls) [⟨k, v, false⟩]).1.b.length ≤ 65536 ∧ foldR ls' = turnR (foldR ls) [⟨k, v, false⟩] ∧ RenR (foldR ls') := by
  obtain ⟨ls', g1, g2, g3, g4, g5⟩ := do_ok h hf [⟨k, v, false⟩]
  have hr' := ren_turn hr k v b hk h1 h2 hv
  have h0 : (doR T (foldR ls) [⟨k, v, false⟩]).2 = 0 := by
    rcases g4 with g4 | ⟨_, g4⟩ | ⟨_, g4⟩
    · exact g4
    · have := recL_small [⟨k, v, false⟩]
      have hs : wgtS [⟨k, v, false⟩] = k.size + v.size := by simp [wgtS]
      have hk1 : k.size = 1 := by rw [hk]; rfl
      simp only [List.length_singleton] at this
      omega
    · rw [recAll_len] at g4
      have := ren_wgt hr'
      omega
  rw [if_pos h0] at g3
  exact ⟨h0, ls', g1, g2, by omega, g3, by rw [g3]; exact hr'⟩
set_option maxHeartbeats 16000000 in
set_option maxRecDepth 100000 in
theorem StoreRenews_walk (w : World) (n m0 k0 : Nat) (hn : n < 256) (hm : m0 < 65536) (hk : k0 < 256) (hGL : GL w) :
    Calls Tryd.prog 5 #[.int .u8 n, .int .u16 m0, .int .u8 k0] w fun e w' => e = .returned (.bool true) ∧ Below w.heap.size w w' := by
  go_enter Tryd.func5, Tryd.ntmps5
  go_wp2_with fail
  refine (tnew_says w).mono ?_
  rintro e w1 ⟨t, rfl, hT1, hb1⟩
  go_wp2_with fail
  refine (snew_says w w1 hGL hb1 t _ hT1).mono ?_
  rintro e w2 ⟨hk2, s, rfl, hs2, hS2⟩
  have hB2 : Below w.heap.size w w2 := tur_below hb1 hk2 (fun k h => h ▸ hT1.ge)
  have hI2 : RenI w s t 0 TapeS.new [] w2 := ⟨hB2, hS2, Wel.new, rfl, by show (0 : Nat) ≤ _; omega, TapeS.new_good, ⟨List.Pairwise.nil, by intro x hx; cases hx⟩⟩
  have q1 : Int.tmod (m0 : Int) 6000 = ((m0 % 6000 : Nat) : Int) := by rw [Int.tmod_eq_emod_of_nonneg (by omega)]; rfl
  have q2 : Int.tmod (k0 : Int) 4 = ((k0 % 4 : Nat) : Int) := by rw [Int.tmod_eq_emod_of_nonneg (by omega)]; rfl
  have q3 : Int.tmod (n : Int) 40 = ((n % 40 : Nat) : Int) := by rw [Int.tmod_eq_emod_of_nonneg (by omega)]; rfl
  obtain ⟨m, hmm⟩ : ∃ m, m = m0 % 6000 := ⟨_, rfl⟩
  obtain ⟨k, hkk⟩ : ∃ k, k = k0 % 4 := ⟨_, rfl⟩
  obtain ⟨N, hNN⟩ : ∃ N, N = n % 40 := ⟨_, rfl⟩
  rw [← hmm] at q1
  rw [← hkk] at q2
  rw [← hNN] at q3
  have hm6 : m < 6000 := by omega
  have hk4 : k < 4 := by omega
  have hN4 : N < 40 := by omega
  clear hmm hkk hNN hn hm hk hT1 hk2 hb1
  have hmk := print_make (P := Tryd.prog) 22 5 .u8 1 Tryd.underlying22 (by kernel_rfl) (by decide) m (by omega)
  go_wp2_with fail
  have Hm := Lib.hid hm6
  have Hk := Lib.hid hk4
  have HN := Lib.hid hN4
  clear hm6 hk4 hN4
  go_loopw [12] (fun v12 wr => ∃ (i : Nat) (T : TapeS) (ls : List (List S49)), v12 = .int .i64 i ∧ i ≤ N ∧ RenI w s t i T ls wr) (fun v12 _ => N - (intOf v12).toNat)
  case atStart => exact ⟨0, TapeS.new, [], rfl, Nat.zero_le _, hI2⟩
  case round =>
    clear hI2 hS2 hB2
    obtain ⟨i, T, ls, rfl, hi, hI⟩ := hrel
    have hN4 := (show N < 40 from HN)
    have hm6 := (show m < 6000 from Hm)
    have hk4 := (show k < 4 from Hk)
    by_cases hlt : i < N
    · have d1 : decide ((i : Int) < (N : Int)) = true := decide_eq_true (by omega)
      obtain ⟨w9, hw9⟩ : ∃ x, x = wr := ⟨_, rfl⟩
      subst hw9
      have hown0 := own_made w9 w9.heap.size 5 .u8 m (Nat.le_refl _) (by omega)
      have hb0 : Below w9.heap.size w9 (w9.alloc (.cells (madeCells #[.int .u8 0] m) 5)) := (Below.refl _ w9).alloc (Nat.le_refl _) _
      have Hi := Lib.hid (show i + 1 ≤ N by omega)
      clear hm6 hk4 hlt hi
      go_wp2_with fail
      clear hN4
      go_loopw [14] (fun v14 wq => ∃ (j : Nat) (xs : List Int), v14 = .int .i64 j ∧ j ≤ m ∧ wq.ownsRow w9.heap.size 5 1 (.slice (some ⟨w9.heap.size, 0, none⟩) m m) m (nums .u8 xs) ∧ Below w9.heap.size w9 wq) (fun v14 _ => m - (intOf v14).toNat)
      case atStart => exact ⟨0, List.replicate m 0, rfl, Nat.zero_le _, hown0, hb0⟩
      case round =>
        clear hown0 hb0
        obtain ⟨j, xs, rfl, hj, hown, hbq⟩ := hrel
        by_cases hjl : j < m
        · have d2 : decide ((j : Int) < (m : Int)) = true := decide_eq_true (by omega)
          obtain ⟨hc, hf⟩ := own_at hown (j : Int) (by omega) (by omega)
          have hst := own_store hown (j : Int) (IntKind.u8.wrap (i : Int))
          rw [Int.toNat_natCast] at hc hf hst
          have hbs : Below w9.heap.size w9 (wr.setCell ⟨w9.heap.size, j, none⟩ (.int .u8 (IntKind.u8.wrap (i : Int)))) := hbq.setCell (Nat.le_refl _) _
          have j3 : ((j : Int) < (m : Int)) = True := eq_true (by omega)
          have j0 : (0 ≤ (j : Int)) = True := eq_true (by omega)
          have e2 : IntKind.i64.wrap ((j : Int) + 1) = (j : Int) + 1 := IntWalk.i64_in _ (by have := (show m < 6000 from Hm); omega)
          have Hj := Lib.hid (show j + 1 ≤ m by omega)
          generalize hww : IntKind.u8.wrap (i : Int) = bi at hst hbs
          clear hjl hj
          go_wp2_with fail
          refine ⟨⟨j + 1, xs.set j bi, rfl, Hj, hst.1, hbs⟩, ?_⟩
          have := (show j + 1 ≤ m from Hj); simp only [intOf]; omega
        · have d2 : decide ((j : Int) < (m : Int)) = false := decide_eq_false (by omega)
          have hjm : j = m := by omega
          obtain ⟨q, hq, hq4⟩ : ∃ q : Nat, Int.tmod (i : Int) ((k : Int) + 1) = (q : Int) ∧ q < 4 := ⟨i % (k + 1), by rw [Int.tmod_eq_emod_of_nonneg (by omega)]; rfl, by have := Nat.mod_lt i (show 0 < k + 1 by omega); have := (show k < 4 from Hk); omega⟩
          have hk0 : ((k : Int) + 1 = 0) = False := eq_false (by omega)
          have hk1 : ((k : Int) + 1 == 0) = false := beq_false_of_ne (by omega)
          have hq1 : IntKind.u8.wrap (q : Int) = (q : Int) := by rw [IntKind.wrap_u8]; omega
          have hq2 : IntKind.u8.wrap (97 + (q : Int)) = 97 + (q : Int) := by rw [IntKind.wrap_u8]; omega
          have hq3 : (q : Int) % 256 = (q : Int) := by omega
          have hq5 : (97 + (q : Int)) % 256 = 97 + (q : Int) := by omega
          have hks0 : strOfNums [97 + (q : Int)] = ⟨#[UInt8.ofNat (97 + q)]⟩ := by
            have : (97 + (q : Int)).toNat = 97 + q := by omega
            simp [strOfNums, this]
          have hb97 : 97 ≤ (UInt8.ofNat (97 + q)).toNat ∧ (UInt8.ofNat (97 + q)).toNat < 101 := by rw [UInt8.toNat_ofNat']; omega
          obtain ⟨ks, hks⟩ : ∃ ks, strOfNums [97 + (q : Int)] = ks := ⟨_, rfl⟩
          rw [hks] at hks0
          obtain ⟨vs, hvs⟩ : ∃ vs, strOfNums xs = vs := ⟨_, rfl⟩
          have hxl : xs.length = m := by have := hown.1; simp [nums] at this; exact this
          have hvl : vs.size = m := by rw [← hvs, ← hxl]; show (strOfNums xs).data.size = _; simp [strOfNums]
          obtain ⟨hd0, ls', hw', hf', hl', hf2, hr'⟩ := ren_do hI.wel hI.fuse hI.len hI.rows ks vs (UInt8.ofNat (97 + q)) hks0 hb97.1 hb97.2 (by have := (show m < 6000 from Hm); omega)
          have hgd := do_good hI.good (by have := hI.len; omega) (r := foldR ls) [⟨ks, vs, false⟩]
          have hi4 : 3300000000000 + i + 1 ≤ 3400000000000 := by have := (show i + 1 ≤ N from Hi); have := (show N < 40 from HN); omega
          have hks1 : ks.size = 1 := by rw [hks0]; rfl
          have hw4 : 4 + wgt (foldR ls) + wgtC [⟨ks, vs, false⟩] ≤ 80000000 := by
            have := ren_wgt hI.rows
            have e : wgtC [⟨ks, vs, false⟩] = 12 + ks.size + vs.size := by simp [wgtC]
            have := (show m < 6000 from Hm)
            omega
          have hl4 : T.b.length ≤ 1000000 := by have := hI.len; omega
          have hsz4 : ks.size ≤ maxLen ∧ vs.size ≤ maxLen := by have := (show m < 6000 from Hm); unfold maxLen; omega
          have hG := hI.good
          have hB9 : Below w.heap.size w wr := below_then hI.below hI.below.size hbq
          have hS9 := hI.sto.below hbq
          generalize hRR : doR T (foldR ls) [⟨ks, vs, false⟩] = R at hd0 hw' hf' hl' hgd
          have hl5 : R.1.b.length ≤ 70368744177664 := by omega
          have hd3 : decide ((65536 : Int) < (R.1.b.length : Int)) = false := decide_eq_false (by omega)
          have HI : RowKit.Hid (Wel R.1 ls' ∧ R.1.fuse = -1 ∧ R.1.b.length ≤ 65536 ∧ R.1.Good ∧ RenR (foldR ls')) := Lib.hid ⟨hw', hf', hl', hgd.1, hr'⟩
          have Hks := Lib.hid hks
          have Hi4 := Lib.hid hi4
          clear hw' hf' hl' hgd hr' hxl hvl hks0 hb97 hks1 hj hjl hI hq4
          go_upto_region 14 with (fail)
          have hown6 : wr.drew.ownsRow w9.heap.size 5 1 (.slice (some ⟨w9.heap.size, 0, none⟩) m m) m (nums .u8 xs) := hown
          have hb6 : Below w9.heap.size w9 wr.drew := below_drew1 hbq
          have hB6 : Below w.heap.size w wr.drew := below_drew1 hB9
          have hS6 := hS9.below (below_drew1 (Below.refl _ wr))
          have hS0 : ∀ w', Below wr.drew.heap.size wr.drew w' → Sem.run Tryd.prog (convert 22 9 (.slice (some ⟨w9.heap.size, 0, none⟩) m m)) w' = .ok (.string vs) w' := fun w' hbw => by
            rw [← hvs]; exact own_string (dst := 9) Tryd.underlying22 Tryd.underlying5 Tryd.underlying9 (pw_own_below hown6 hbw)
-- [R14
          refine start_ (n := 20) (S := fun w' => Sem.run Tryd.prog (convert 22 9 (.slice (some ⟨w9.heap.size, 0, none⟩) m m)) w' = .ok (.string vs) w') (ds := [12, 16]) #[false, false, false, false, false, false, false, false, false, false, false, false, false, false, false, false, false, false, false, false] (by kernel_rfl) rfl rfl (hS0 _ (Below.refl _ _)) (fun hHeld => ?_)
          generalize wr.drew = w6 at hown6 hb6 hB6 hS6 hS0 hHeld ⊢
          refine pure_ (i := 0) (N := some 57) (v := ?_) (a' := ?_) #[true, false, false, false, false, false, false, false, false, false, false, false, false, false, false, false, false, false, false, false] rfl rfl (by kernel_rfl) (fun _ _ _ h => h) (Or.inl ⟨by rfl, ?_⟩) ?_ ?_
          rotate_left
          · intro w'
            go_simp
            with_reducible rfl
          rotate_left
          · simp only [Act.put, List.setIfInBounds_toArray, List.set_cons_zero, List.set_cons_succ, i64_w, i32_w]
            rfl
          refine pure_ (i := 1) (N := some 58) (v := ?_) (a' := ?_) #[true, true, false, false, false, false, false, false, false, false, false, false, false, false, false, false, false, false, false, false] rfl rfl (by kernel_rfl) (fun _ _ _ h => h) (Or.inl ⟨by rfl, ?_⟩) ?_ ?_
          rotate_left
          · intro w'
            go_simp
            with_reducible rfl
          rotate_left
          · simp only [Act.put, List.setIfInBounds_toArray, List.set_cons_zero, List.set_cons_succ, i64_w, i32_w]
            rfl
          refine pure_ (i := 2) (N := some 59) (v := ?_) (a' := ?_) #[true, true, true, false, false, false, false, false, false, false, false, false, false, false, false, false, false, false, false, false] rfl rfl (by kernel_rfl) (fun _ _ _ h => h) (Or.inl ⟨by rfl, ?_⟩) ?_ ?_
          rotate_left
          · intro w'
            go_simp
            with_reducible rfl
          rotate_left
          · simp only [Act.put, List.setIfInBounds_toArray, List.set_cons_zero, List.set_cons_succ, i64_w, i32_w]
            rfl
          refine pure_ (i := 3) (N := some 60) (v := ?_) (a' := ?_) #[true, true, true, true, false, false, false, false, false, false, false, false, false, false, false, false, false, false, false, false] rfl rfl (by kernel_rfl) (fun _ _ _ h => h) (Or.inl ⟨by rfl, ?_⟩) ?_ ?_
          rotate_left
          · intro w'
            go_simp
            with_reducible rfl
          rotate_left
          · simp only [Act.put, List.setIfInBounds_toArray, List.set_cons_zero, List.set_cons_succ, i64_w, i32_w]
            rfl
          refine pure_ (i := 4) (N := some 61) (v := ?_) (a' := ?_) #[true, true, true, true, true, false, false, false, false, false, false, false, false, false, false, false, false, false, false, false] rfl rfl (by kernel_rfl) (fun _ _ _ h => h) (Or.inl ⟨by rfl, ?_⟩) ?_ ?_
          rotate_left
          · intro w'
            go_simp
            with_reducible rfl
          rotate_left
          · simp only [Act.put, List.setIfInBounds_toArray, List.set_cons_zero, List.set_cons_succ, i64_w, i32_w]
            rfl
          refine pure_ (i := 5) (N := some 62) (v := ?_) (a' := ?_) #[true, true, true, true, true, true, false, false, false, false, false, false, false, false, false, false, false, false, false, false] rfl rfl (by kernel_rfl) (fun _ _ _ h => h) (Or.inl ⟨by rfl, ?_⟩) ?_ ?_
          rotate_left
          · intro w'
            go_simp
            with_reducible rfl
          rotate_left
          · simp only [Act.put, List.setIfInBounds_toArray, List.set_cons_zero, List.set_cons_succ, i64_w, i32_w]
            rfl
          refine pure_ (i := 8) (N := some 65) (v := ?_) (a' := ?_) #[true, true, true, true, true, true, false, false, true, false, false, false, false, false, false, false, false, false, false, false] rfl rfl (by kernel_rfl) (fun _ _ _ h => h) (Or.inl ⟨by rfl, ?_⟩) ?_ ?_
          rotate_left
          · intro w'
            go_simp
            with_reducible rfl
          rotate_left
          · simp only [Act.put, List.setIfInBounds_toArray, List.set_cons_zero, List.set_cons_succ, i64_w, i32_w]
            rfl
          refine take_ (i := 9) (N := some 66) (v := ?_) (a' := ?_) #[true, true, true, true, true, true, false, false, true, true, false, false, false, false, false, false, false, false, false, false] rfl rfl (by kernel_rfl) (fun _ _ _ h => h) (Or.inl ⟨by rfl, ?_⟩) hHeld ?_ ?_
          rotate_left
          · intro w' s0
            go_simp
            with_reducible rfl
          rotate_left
          · simp only [Act.put, List.setIfInBounds_toArray, List.set_cons_zero, List.set_cons_succ, i64_w, i32_w]
            rfl
          refine one_ (i := 6) (N := some 63) #[true, true, true, true, true, true, true, false, true, true, false, false, false, false, false, false, false, false, false, false] rfl rfl (by kernel_rfl) (by decide) (fun K hK => ?_)
          refine value_ (w1 := ?_) (v := ?_) (by rfl) rfl ?_ ?_
          rotate_left 2
          · go_simp
            constructor
            · rfl
            · rfl
          have hR7 : Kd.R (Kd.int .u8) 5 (w6.alloc (.cells #[.int .u8 (97 + (q : Int))] 5)) w6.heap.size (fun _ => True) (.slice (some ⟨w6.heap.size, 0, none⟩) 1 1) [(97 + (q : Int))] := C_made (d := Kd.int .u8) (e := 5) w6 [(97 + (q : Int))] [.int .u8 (97 + (q : Int))] (show (1 : Nat) ≤ maxLen by decide) (Reps.one rfl (Reps.none _ _))
          have hb7 : Below w6.heap.size w6 (w6.alloc (.cells #[.int .u8 (97 + (q : Int))] 5)) := (Below.refl _ w6).alloc (Nat.le_refl _) _
          generalize w6.alloc (.cells #[.int .u8 (97 + (q : Int))] 5) = w7 at hR7 hb7 ⊢
          have hcv7 := own_string (P := Tryd.prog) (dst := 9) Tryd.underlying22 Tryd.underlying5 Tryd.underlying9 (Kd.own_of_R hR7)
          rw [hks] at hcv7
          refine hK.out _ _ (hS0 _ hb7) (fun hHeld => ?_)
          clear hK K
          refine norm_ (a' := ?_) ?_ ?_
          rotate_left
          · show Act.put _ (some 63) _ = _
            simp only [Act.put, List.setIfInBounds_toArray, List.set_cons_zero, List.set_cons_succ, i64_w, i32_w]
            rfl
          refine one_ (i := 7) (N := some 64) #[true, true, true, true, true, true, true, true, true, true, false, false, false, false, false, false, false, false, false, false] rfl rfl (by kernel_rfl) (by decide) (fun K hK => ?_)
          refine value_ (w1 := ?_) (v := ?_) (by rfl) rfl ?_ ?_
          rotate_left 2
          · go_simp
            constructor
            · rfl
            · rfl
          refine hK.out _ _ (hS0 _ hb7) (fun hHeld => ?_)
          clear hK K
          refine norm_ (a' := ?_) ?_ ?_
          rotate_left
          · show Act.put _ (some 64) _ = _
            simp only [Act.put, List.setIfInBounds_toArray, List.set_cons_zero, List.set_cons_succ, i64_w, i32_w]
            rfl
          refine pure_ (i := 10) (N := some 67) (v := ?_) (a' := ?_) #[true, true, true, true, true, true, true, true, true, true, true, false, false, false, false, false, false, false, false, false] rfl rfl (by kernel_rfl) (fun _ _ _ h => h) (Or.inl ⟨by rfl, ?_⟩) ?_ ?_
          rotate_left
          · intro w'
            go_simp
            with_reducible rfl
          rotate_left
          · simp only [Act.put, List.setIfInBounds_toArray, List.set_cons_zero, List.set_cons_succ, i64_w, i32_w]
            rfl
          refine one_ (i := 11) (N := some 68) #[true, true, true, true, true, true, true, true, true, true, true, true, false, false, false, false, false, false, false, false] rfl rfl (by kernel_rfl) (by decide) (fun K hK => ?_)
          refine value_ (w1 := ?_) (v := ?_) (by rfl) rfl ?_ ?_
          rotate_left 2
          · go_simp
            constructor
            · rfl
            · rfl
          have hR8 : Kd.R k49 49 (w7.alloc (.cells #[.string ks, .string vs, .bool false] 49)) w7.heap.size (fun _ => True) (.slice (some ⟨w7.heap.size, 0, none⟩) 1 1) [⟨ks, vs, false⟩] := C_made (d := k49) (e := 49) w7 [⟨ks, vs, false⟩] [.string ks, .string vs, .bool false] (show (1 : Nat) ≤ maxLen by decide) (Reps.c3 (k49_mkM _ _ _ ⟨ks, vs, false⟩) (Reps.none _ _))
          have hb8 : Below w6.heap.size w6 (w7.alloc (.cells #[.string ks, .string vs, .bool false] 49)) := below_then hb7 hb7.size ((Below.refl _ w7).alloc (Nat.le_refl _) _)
          generalize w7.alloc (.cells #[.string ks, .string vs, .bool false] 49) = w8 at hR8 hb8 ⊢
          have hC8 := (Kd.R_reads' hR8).2.2
          have hB8 : Below w.heap.size w w8 := below_then hB6 hB6.size hb8
          have hdo := sdo_says s t (3300000000000 + i) T (foldR ls) (some ⟨w7.heap.size, 0, none⟩) 1 [⟨ks, vs, false⟩] w w8 hGL hB8 (hS6.below hb8) hG hC8 (Nat.le_refl _) (show 3300000000000 + i + 1 ≤ 3400000000000 from hi4) (show 4 + wgt (foldR ls) + wgtC [⟨ks, vs, false⟩] ≤ 80000000 from hw4) hl4 (by intro x hx; rw [List.mem_singleton.1 hx]; exact hsz4)
          rw [hRR, if_pos hd0, ← hf2, hd0] at hdo
          refine hK.out _ _ (hS0 _ hb8) (fun hHeld => ?_)
          clear hK K
          refine norm_ (a' := ?_) ?_ ?_
          rotate_left
          · show Act.put _ (some 68) _ = _
            simp only [Act.put, List.setIfInBounds_toArray, List.set_cons_zero, List.set_cons_succ, i64_w, i32_w]
            rfl
          refine last_ (i := 12) (N := some 69) #[true, true, true, true, true, true, true, true, true, true, true, true, true, false, false, false, false, false, false, false] rfl rfl (by kernel_rfl) (by decide) (fun K hK => ?_)
          refine goes_ Tryd.func18 (by kernel_rfl) rfl #[.pointer (some ⟨s, 0, none⟩), .slice (some ⟨w7.heap.size, 0, none⟩) 1 1] (by rfl) rfl rfl (by simp only [List.map_toArray, List.map_cons, List.map_nil]; rfl) ?_
          refine hdo.mono ?_
          rintro e w10 ⟨rfl, hk10, hS10⟩
          refine ⟨_, rfl, ?_⟩
          have hB10 : Below w.heap.size w w10 := hB8.trans (hk10.below hB8.size)
          refine hK.out _ _ ?_
          clear hK K
          refine norm_ (a' := ?_) ?_ ?_
          rotate_left
          · show Act.put _ (some 69) _ = _
            simp only [Act.put, List.setIfInBounds_toArray, List.set_cons_zero, List.set_cons_succ, i64_w, i32_w]
            rfl
          refine pure_ (i := 13) (N := some 70) (v := ?_) (a' := ?_) #[true, true, true, true, true, true, true, true, true, true, true, true, true, true, false, false, false, false, false, false] rfl rfl (by kernel_rfl) (fun _ _ _ h => h) (Or.inl ⟨by rfl, ?_⟩) ?_ ?_
          rotate_left
          · intro w'
            go_simp
            with_reducible rfl
          rotate_left
          · simp only [Act.put, List.setIfInBounds_toArray, List.set_cons_zero, List.set_cons_succ, i64_w, i32_w]
            rfl
          refine pure_ (i := 14) (N := some 71) (v := ?_) (a' := ?_) #[true, true, true, true, true, true, true, true, true, true, true, true, true, true, true, false, false, false, false, false] rfl rfl (by kernel_rfl) (fun _ _ _ h => h) (Or.inl ⟨by rfl, ?_⟩) ?_ ?_
          rotate_left
          · intro w'
            go_simp
            with_reducible rfl
          rotate_left
          · simp only [Act.put, List.setIfInBounds_toArray, List.set_cons_zero, List.set_cons_succ, i64_w, i32_w]
            rfl
          refine pure_ (i := 15) (N := some 72) (v := ?_) (a' := ?_) #[true, true, true, true, true, true, true, true, true, true, true, true, true, true, true, true, false, false, false, false] rfl rfl (by kernel_rfl) (fun _ _ _ h => h) (Or.inl ⟨by rfl, ?_⟩) ?_ ?_
          rotate_left
          · intro w'
            go_simp
            with_reducible rfl
          rotate_left
          · simp only [Act.put, List.setIfInBounds_toArray, List.set_cons_zero, List.set_cons_succ, i64_w, i32_w]
            rfl
          refine last_ (i := 16) (N := some 73) #[true, true, true, true, true, true, true, true, true, true, true, true, true, true, true, true, true, false, false, false] rfl rfl (by kernel_rfl) (by decide) (fun K hK => ?_)
          refine goes_ Tryd.func16 (by kernel_rfl) rfl #[.pointer (some ⟨t, 0, none⟩)] (by rfl) rfl rfl (by simp only [List.map_toArray, List.map_cons, List.map_nil]; rfl) ?_
          refine (sbytes_says _ s t _ _ _ w10 hS10 hl5).mono ?_
          rintro e w11 ⟨v11, rfl, hr11, hb11⟩
          obtain ⟨A11, c11, e11⟩ := Kd.R_slice hr11
          subst e11
          refine ⟨_, rfl, ?_⟩
          refine hK.out _ _ ?_
          clear hK K
          refine norm_ (a' := ?_) ?_ ?_
          rotate_left
          · show Act.put _ (some 73) _ = _
            simp only [Act.put, List.setIfInBounds_toArray, List.set_cons_zero, List.set_cons_succ, i64_w, i32_w]
            rfl
          refine pure_ (i := 17) (N := some 74) (v := ?_) (a' := ?_) #[true, true, true, true, true, true, true, true, true, true, true, true, true, true, true, true, true, true, false, false] rfl rfl (by kernel_rfl) (fun _ _ _ h => h) (Or.inl ⟨by rfl, ?_⟩) ?_ ?_
          rotate_left
          · intro w'
            go_simp
            with_reducible rfl
          rotate_left
          · simp only [Act.put, List.setIfInBounds_toArray, List.set_cons_zero, List.set_cons_succ, i64_w, i32_w]
            rfl
          refine pure_ (i := 18) (N := some 75) (v := ?_) (a' := ?_) #[true, true, true, true, true, true, true, true, true, true, true, true, true, true, true, true, true, true, true, false] rfl rfl (by kernel_rfl) (fun _ _ _ h => h) (Or.inl ⟨by rfl, ?_⟩) ?_ ?_
          rotate_left
          · intro w'
            go_simp
            with_reducible rfl
          rotate_left
          · simp only [Act.put, List.setIfInBounds_toArray, List.set_cons_zero, List.set_cons_succ, i64_w, i32_w]
            rfl
          refine pure_ (i := 19) (N := some 76) (v := ?_) (a' := ?_) #[true, true, true, true, true, true, true, true, true, true, true, true, true, true, true, true, true, true, true, true] rfl rfl (by kernel_rfl) (fun _ _ _ h => h) (Or.inl ⟨by rfl, ?_⟩) ?_ ?_
          rotate_left
          · intro w'
            go_simp
            with_reducible rfl
          rotate_left
          · simp only [Act.put, List.setIfInBounds_toArray, List.set_cons_zero, List.set_cons_succ, i64_w, i32_w]
            rfl
          refine done_ (by kernel_rfl) ?_
-- R14]
          clear hdo hS0 hown6 hR7 hR8 hC8 hcv7 hS6
          go_wp2_with fail
          refine ⟨⟨i + 1, R.1, ls', rfl, Hi, ?_⟩, ?_⟩
          · obtain ⟨g1, g2, g3, g4, g5⟩ := (show Wel R.1 ls' ∧ R.1.fuse = -1 ∧ R.1.b.length ≤ 65536 ∧ R.1.Good ∧ RenR (foldR ls') from HI)
            exact ⟨below_then hB10 hB10.size hb11, (hS10.below hb11).mono (by show 3300000000000 + i + 1 ≤ 3300000000000 + (i + 1); omega), g1, g2, g3, g4, g5⟩
          · have := (show i + 1 ≤ N from Hi); simp only [intOf]; omega
    · have d1 : decide ((i : Int) < (N : Int)) = false := decide_eq_false (by omega)
      have d1' : decide (i < N) = false := decide_eq_false (by omega)
      have hcr := scrash_says s t _ T (foldR ls) 0 w wr hI.sto hI.good (by decide)
      have hL := hI.wel.crash 0
      have hGc := TapeS.crash_good T 0 hI.good
      have hcf : (T.crash 0).fuse = -1 := rfl
      have hcd : (T.crash 0).down = false := rfl
      have hBi := hI.below
      have hrl : (foldR ls).length ≤ 4 := by
        have := ren_len (foldR ls) 97 hI.rows (fun x hx b hb => by
          obtain ⟨_, c, hc, h97, _⟩ := hI.rows.2 x hx
          rw [hb] at hc
          have : b = c := by simpa using hc
          rw [this]; exact h97) (by omega)
        omega
      have hks : ∀ key ∈ (foldR ls).map (fun x => x.f0), key.size ≤ maxLen := fun key hkey => by
        obtain ⟨x, hx, rfl⟩ := List.mem_map.1 hkey
        obtain ⟨_, b, hb, _⟩ := hI.rows.2 x hx
        show x.f0.size ≤ maxLen
        rw [hb]; exact (show (1 : Nat) ≤ maxLen by decide)
      generalize T.crash 0 = T2 at hcr hL hGc hcf hcd
      have Hcf := Lib.hid hcf
      have Hcd := Lib.hid hcd
      have Hi := Lib.hid (show i < 41 by omega)
      have hrr := ris_foldR ls
      have HrL := Lib.hid hrl
      clear hcf hcd hI hi hlt hm6 hk4 hrl
      go_wp2_with fail
      clear hN4
      have hrl := (show (foldR ls).length ≤ 4 from HrL)
      refine hcr.mono ?_
      rintro e w3 ⟨rfl, hk3, hS3⟩
      have hB3 : Below w.heap.size w w3 := hBi.trans (hk3.below hBi.size)
      clear hcr
      go_wp2_with fail
      refine (sagain_says s t _ T2 (foldR ls) ls [] hL Hcf Hcd w w3 hGL hB3 hS3 hGc).mono ?_
      rintro e w4 ⟨hk4, s', rfl, hs', hR4, hS4⟩
      have hB4 : Below w.heap.size w w4 := hB3.trans (hk4.below hB3.size)
      have hS4 := hS4.mono (show _ ≤ 3400000000000 from by have := (show i < 41 from Hi); omega)
      have hkk := skeys_says _ s t _ _ (foldR ls) ⟨#[]⟩ w4 hS4 (Nat.le_refl _)
      have hkr := fun w5 h5 => skeys_says w.heap.size s' t _ T2.opened (foldR ls) ⟨#[]⟩ w5 h5 (show 3300000000000 ≤ 3400000000000 by decide)
      rw [filter_nil] at hkk hkr
      have hgs := fun key w5 h5 => sget_says w.heap.size s t 3400000000000 T2.opened (foldR ls) key (show key.size ≤ maxLen from h5) w5
      have hgr := fun key w5 h5 => sget_says w.heap.size s' t 3300000000000 T2.opened (foldR ls) key (show key.size ≤ maxLen from h5) w5
      have hmm : ∀ key ∈ (foldR ls).map (fun x => x.f0), ∃ v, getR (foldR ls) key = some v := fun key hkey => by
        obtain ⟨x, hx, rfl⟩ := List.mem_map.1 hkey
        exact ⟨x.f1, getR_mem hrr hx⟩
      have hkl : ((foldR ls).map fun x => x.f0).length ≤ 4 := by rw [List.length_map]; exact hrl
      generalize foldR ls = r at hR4 hS4 hkk hkr hgs hgr hmm hkl hks
      generalize (r.map fun x => x.f0) = ks at hkk hkr hmm hkl hks
      have Hkl := Lib.hid hkl
      clear hkl hrl hrr hL hk3 hS3
      go_wp2_with fail
      refine hkk.mono ?_
      rintro e w5 ⟨v5, rfl, hr5, hb5⟩
      obtain ⟨A5, c5, e5⟩ := Kd.R_slice hr5
      subst e5
      have hrd5 := Kd.R_reads' hr5
      have hB5 : Below w.heap.size w w5 := below_then hB4 hB4.size hb5
      have hR5 := hR4.below hb5
      have hS5 := hS4.below hb5
      clear hkk hr5 hR4 hS4
      go_wp2_with fail
      go_loopw [18] (fun v18 wq => ∃ i : Nat, v18 = .int .i64 i ∧ i ≤ ks.length ∧ Below w5.heap.size w5 wq) (fun v18 _ => ks.length - (intOf v18).toNat)
      case atStart => exact ⟨0, rfl, Nat.zero_le _, Below.refl _ w5⟩
      case round =>
        obtain ⟨i, rfl, hi, hb⟩ := hrel
        have hkl := (show ks.length ≤ 4 from Hkl)
        have hC := Kd.C_below hrd5.2.2 hb
        by_cases hlt : i < ks.length
        · have d1 : decide ((i : Int) < (ks.length : Int)) = true := decide_eq_true (by omega)
          have d1' : decide (i < ks.length) = true := decide_eq_true hlt
          obtain ⟨ad, rfl, hx⟩ := Kd.at_string hC (i : Int) (by omega) (by omega)
          have i3 : ((i : Int) < (ks.length : Int)) = True := eq_true (by omega)
          have i0 : (0 ≤ (i : Int)) = True := eq_true (by omega)
          have e1 : IntKind.i64.wrap ((i : Int) + 1) = (i : Int) + 1 := IntWalk.i64_in _ (by omega)
          simp only [Int.toNat_natCast] at hx
          have hxg : rdOf ByteArray.empty ks (i : Int) = ks.getD i ByteArray.empty := by unfold rdOf; rw [Int.toNat_natCast]
          rw [hxg] at hx
          have hmem : ks.getD i ByteArray.empty ∈ ks := by simp [List.getD_eq_getElem?_getD, List.getElem?_eq_getElem hlt]
          obtain ⟨v, hv⟩ := hmm _ hmem
          have hsz := hks _ hmem
          have g1 := hgs _ wr hsz (hS5.below hb)
          have g2 := hgr _ wr hsz (hR5.below hb)
          clear hxg hmem
          generalize ks.getD i ByteArray.empty = key at hx hv g1 g2 hsz
          rw [hv] at g1 g2
          simp only [Option.getD_some, Option.isSome_some] at g1 g2
          have hbb : (v.toList != v.toList) = false := by simp
          have Hi2 := Lib.hid (show i + 1 ≤ ks.length by omega)
          clear hlt hi hkl hv hsz
          go_wp2_with fail
          refine g1.mono ?_
          rintro e w7 ⟨rfl, rfl⟩
          go_wp2_with fail
          refine g2.mono ?_
          rintro e w8 ⟨rfl, rfl⟩
          go_wp2_with fail
          refine ⟨⟨i + 1, rfl, Hi2, hb⟩, ?_⟩
          have := (show i + 1 ≤ ks.length from Hi2); simp only [intOf]; omega
        · have d1 : decide ((i : Int) < (ks.length : Int)) = false := decide_eq_false (by omega)
          have d1' : decide (i < ks.length) = false := decide_eq_false hlt
          have hB6 : Below w.heap.size w wr := below_then hB5 hB5.size hb
          have hGL6 := hGL.below hB6
          have hR6 := hR5.below hb
          clear hi hlt hkl
          go_wp2_with fail
          refine (answers_says wr hGL6).mono ?_
          rintro e w7 ⟨rfl, hb7⟩
          have hk7 := hkr w7 (hR6.below hb7)
          go_wp2_with fail
          refine hk7.mono ?_
          rintro e w8 ⟨v8, rfl, hr8, hb8⟩
          obtain ⟨A8, c8, e8⟩ := Kd.R_slice hr8
          subst e8
          have hrd8 := Kd.R_reads' hr8
          have hb58 : Below w5.heap.size w5 w8 := below_then (below_then hb hb.size hb7) (below_then hb hb.size hb7).size hb8
          have htx := texts_says A5 A8 c5 c8 ks ks w8 (Kd.C_below hrd5.2.2 hb58) hrd5.2.1 hrd8.2.2 hrd8.2.1 (Nat.le_trans (show ks.length ≤ 4 from Hkl) (by decide))
          rw [decide_eq_true rfl] at htx
          clear hk7
          go_wp2_with fail
          refine htx.mono ?_
          rintro e w9 ⟨rfl, hb9⟩
          go_wp2_with fail
          go_ret
          exact ⟨rfl, below_then (below_then hB5 hB5.size hb58) (below_then hB5 hB5.size hb58).size hb9⟩
theorem StoreRenews_in (W : World) (n : Int) (hn : (Lit.int .u8 n).wf = true) (m : Int) (hm : (Lit.int .u16 m).wf = true) (k : Int) (hk : (Lit.int .u8 k).wf = true) (hGL : GL W) :
    Calls Tryd.prog 5 #[.int .u8 n, .int .u16 m, .int .u8 k] W fun e w' => e = .returned (.bool true) ∧ Below W.heap.size W w' := by
  have hn' : 0 ≤ n ∧ n < 256 := by simp [Lit.wf, IntKind.min, IntKind.max, IntKind.signed, IntKind.bits] at hn; omega
  have hm' : 0 ≤ m ∧ m < 65536 := by simp [Lit.wf, IntKind.min, IntKind.max, IntKind.signed, IntKind.bits] at hm; omega
  have hk' : 0 ≤ k ∧ k < 256 := by simp [Lit.wf, IntKind.min, IntKind.max, IntKind.signed, IntKind.bits] at hk; omega
  have h := StoreRenews_walk W n.toNat m.toNat k.toNat (by omega) (by omega) (by omega) hGL
  rw [Int.toNat_of_nonneg hn'.1, Int.toNat_of_nonneg hm'.1, Int.toNat_of_nonneg hk'.1] at h
  exact h
end Go.Proofs.YtkmokcfnfhabgaaDoor.X
