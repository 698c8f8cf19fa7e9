/- What a record says: the store's changes. -/
import Derived.Test.YtkmokcfnfhabgaaDoorRdr
import Derived.Lib.Hide
set_option linter.unusedVariables false
set_option linter.unusedSimpArgs false
namespace Go.Proofs.YtkmokcfnfhabgaaDoor.X
open Go.RowKit Go.Proofs.YtkmokcfnfhabgaaDoorW.PrintWords Go.Proofs.YtkmokcfnfhabgaaDoorW.PrintLast Go.Proofs.YtkmokcfnfhabgaaDoorW.PrintMore Go.Proofs.YtkmokcfnfhabgaaDoor.Q

/-- One change of a record, what is left of it, and whether it is none. -/
def oneC (xs : List Int) (bad : Bool) : S49 × List Int × Bool :=
  let a := rnumL xs bad
  let k := rtextL a.2.1 a.2.2
  let v := rtextL k.2.1 k.2.2
  (⟨k.1, v.1, a.1 == 1⟩, v.2.1, v.2.2)
/-- So many changes. -/
def chF : Nat → List Int → Bool → List S49 → List S49 × Bool
  | 0, _, bad, out => (out, bad)
  | n + 1, xs, bad, out => if bad = true then (out, true) else chF n (oneC xs bad).2.1 (oneC xs bad).2.2 (out ++ [(oneC xs bad).1])
def chL (b : List Int) : List S49 × Bool := chF (rnumL b false).1.toNat (rnumL b false).2.1 (rnumL b false).2.2 []
def chOk (b : List Int) : Bool := !(chL b).2 && ((strOfNums (recL (chL b).1)).toList == (strOfNums b).toList)
theorem rnumL_len (xs : List Int) (bad : Bool) : ((rnumL xs bad).2.2 = false → bad = false ∧ (rnumL xs bad).2.1.length + 4 = xs.length) ∧ (rnumL xs bad).2.1.length ≤ xs.length := by
  by_cases h : xs.length < 4
  · have e : rnumL xs bad = (0, xs, true) := if_pos h
    rw [e]
    exact ⟨fun h => (by cases h), Nat.le_refl _⟩
  · have e : rnumL xs bad = (getL (xs.take 4), xs.drop 4, bad) := if_neg h
    rw [e]
    refine ⟨fun h => ⟨h, ?_⟩, ?_⟩
    · show (xs.drop 4).length + 4 = xs.length
      rw [List.length_drop]; omega
    · show (xs.drop 4).length ≤ xs.length
      rw [List.length_drop]; omega
theorem rtextL_len (xs : List Int) (bad : Bool) : ((rtextL xs bad).2.2 = false → bad = false ∧ (rtextL xs bad).1.size + (rtextL xs bad).2.1.length + 4 = xs.length) ∧ ((rtextL xs bad).2.2 = true → (rtextL xs bad).1.size = 0) ∧ (rtextL xs bad).1.size + (rtextL xs bad).2.1.length ≤ xs.length := by
  have h1 := rnumL_len xs bad
  have h2 := rnumL_range xs bad
  by_cases h : (rnumL xs bad).2.2 = true ∨ ((rnumL xs bad).2.1.length : Int) < (rnumL xs bad).1
  · have e : rtextL xs bad = (⟨#[]⟩, (rnumL xs bad).2.1, true) := if_pos h
    rw [e]
    exact ⟨fun h => (by cases h), fun _ => rfl, by show 0 + (rnumL xs bad).2.1.length ≤ _; omega⟩
  · have e : rtextL xs bad = (strOfNums ((rnumL xs bad).2.1.take (rnumL xs bad).1.toNat), (rnumL xs bad).2.1.drop (rnumL xs bad).1.toNat, (rnumL xs bad).2.2) := if_neg h
    rw [e]
    simp only [not_or, Bool.not_eq_true] at h
    have h3 := h1.1 h.1
    have hs : (strOfNums ((rnumL xs bad).2.1.take (rnumL xs bad).1.toNat)).size = (rnumL xs bad).1.toNat := by rw [strOfNums_size, List.length_take]; omega
    have hd : ((rnumL xs bad).2.1.drop (rnumL xs bad).1.toNat).length = (rnumL xs bad).2.1.length - (rnumL xs bad).1.toNat := List.length_drop
    refine ⟨fun _ => ⟨h3.1, ?_⟩, fun h9 => ?_, ?_⟩
    · show (strOfNums _).size + (List.drop _ _).length + 4 = _; omega
    · exact absurd (h.1.symm.trans h9) (by decide)
    · show (strOfNums _).size + (List.drop _ _).length ≤ _; omega
/-- How long the changes read so far are. -/
def Bd (b xs : List Int) (bad : Bool) (out : List S49) : Prop := if bad = true then (out.flatMap chgL).length ≤ b.length + 12 else (out.flatMap chgL).length + xs.length + 4 ≤ b.length
theorem Bd.step {b xs : List Int} {out : List S49} (h : Bd b xs false out) : Bd b (oneC xs false).2.1 (oneC xs false).2.2 (out ++ [(oneC xs false).1]) := by
  have h1 := rnumL_len xs false
  have h2 := rtextL_len (rnumL xs false).2.1 (rnumL xs false).2.2
  have h3 := rtextL_len (rtextL (rnumL xs false).2.1 (rnumL xs false).2.2).2.1 (rtextL (rnumL xs false).2.1 (rnumL xs false).2.2).2.2
  unfold Bd at h
  rw [if_neg (by decide)] at h
  have hl : ((out ++ [(oneC xs false).1]).flatMap chgL).length ≤ (out.flatMap chgL).length + 12 + (oneC xs false).1.f0.size + (oneC xs false).1.f1.size := by
    rw [List.flatMap_append, List.length_append, List.flatMap_cons, List.flatMap_nil, List.append_nil, chgL_len]
    split <;> omega
  unfold Bd
  split
  · rename_i hb
    have h4 := h3.2.1 hb
    have e0 : (oneC xs false).1.f0.size = (rtextL (rnumL xs false).2.1 (rnumL xs false).2.2).1.size := rfl
    have e1 : (oneC xs false).1.f1.size = (rtextL (rtextL (rnumL xs false).2.1 (rnumL xs false).2.2).2.1 (rtextL (rnumL xs false).2.1 (rnumL xs false).2.2).2.2).1.size := rfl
    omega
  · rename_i hb
    have hb' : (oneC xs false).2.2 = false := by simpa using hb
    have h4 := h3.1 hb'
    have h5 := h2.1 h4.1
    have h6 := h1.1 h5.1
    have e0 : (oneC xs false).1.f0.size = (rtextL (rnumL xs false).2.1 (rnumL xs false).2.2).1.size := rfl
    have e1 : (oneC xs false).1.f1.size = (rtextL (rtextL (rnumL xs false).2.1 (rnumL xs false).2.2).2.1 (rtextL (rnumL xs false).2.1 (rnumL xs false).2.2).2.2).1.size := rfl
    have e2 : (oneC xs false).2.1.length = (rtextL (rtextL (rnumL xs false).2.1 (rnumL xs false).2.2).2.1 (rtextL (rnumL xs false).2.1 (rnumL xs false).2.2).2.2).2.1.length := rfl
    omega
theorem Bd.rec_le {b xs : List Int} {bad : Bool} {out : List S49} (h : Bd b xs bad out) : (recL out).length ≤ b.length + 16 := by
  unfold Bd at h
  unfold recL
  rw [List.length_append]
  show 4 + _ ≤ _
  split at h <;> omega
theorem chF_bad (n : Nat) (xs : List Int) (out : List S49) : chF n xs true out = (out, true) := by cases n <;> rfl
theorem R_mono49 {e : Nat} {W : World} {base : Nat} {ok : Nat → Prop} {v : Value} {xs : List S49} {g : Nat} (h : Kd.R k49 e W base ok v xs) (hg : ∀ k, v.ownBlock = some k → k ≠ g) : Kd.R k49 e W base (fun k => k ≠ g) v xs := by
  obtain ⟨h0, inner, ho, hr⟩ := h
  exact ⟨fun k hk => hg k hk, inner, ho, hr.imp_ (fun x cs hp => by rw [k49_openM hp]; exact k49_mkM _ _ _ x)⟩
set_option maxHeartbeats 8000000 in
set_option maxRecDepth 100000 in
theorem changes_says (A : Option Addr) (c : Nat) (b : List Int) (w : World) (hC : Kd.C (Kd.int .u8) w A b.length b) (hc : b.length ≤ c) (hl : b.length ≤ 100000000) :
    Calls Tryd.prog 31 #[.slice A b.length c] w fun e w' => ∃ v, e = .returned (.tuple #[v, .bool (chOk b)]) ∧ Kd.R k49 49 w' w.heap.size (fun _ => True) v (chL b).1 ∧ Below w.heap.size w w' := by
  go_enter Tryd.func31, Tryd.ntmps31
  go_wp2_with fail
  obtain ⟨⟨n, xs, bad⟩, hn⟩ : ∃ p, rnumL b false = p := ⟨_, rfl⟩
  have hrg := rnumL_range b false
  rw [hn] at hrg
  simp only at hrg
  obtain ⟨m, rfl⟩ : ∃ m : Nat, n = (m : Int) := ⟨n.toNat, by omega⟩
  have hch : chL b = chF m xs bad [] := by unfold chL; rw [hn]; rfl
  have hBd : Bd b xs bad [] := by
    have h1 := rnumL_len b false
    rw [hn] at h1
    unfold Bd
    cases bad with
    | true => simp
    | false => have := (h1.1 rfl).2; simp only at this; simp; omega
  have hba : Below w.heap.size w (w.alloc (.cells #[.slice A b.length c, .bool false] 91)) := (Below.refl _ w).alloc (Nat.le_refl _) _
  refine (rnum_says2 w.heap.size A c b false (m : Int) xs bad hn w _ hba ⟨heap_alloc_new w _, fun W' hb => Kd.C_below hC hb, hc⟩).mono ?_
  rintro e w1 ⟨rfl, hk1, A1, c1, hR1⟩
  have hb1 : Below w.heap.size w w1 := tur_below hba hk1 (fun k hk => by omega)
  go_wp2_with fail
  go_loopw [5, 6] (fun v5 v6 wr => ∃ (k : Nat) (xs : List Int) (bad : Bool) (out : List S49) (A' : Option Addr) (c' : Nat), v6 = .int .i64 k ∧ RdAt w wr w.heap.size A' c' xs bad ∧ Kd.R k49 49 wr w.heap.size (fun _ => True) v5 out ∧ Below w.heap.size w wr ∧ chL b = chF k xs bad out ∧ out.length + k ≤ m ∧ Bd b xs bad out) (fun _ v6 _ => (intOf v6).toNat)
  case atStart => exact ⟨m, xs, bad, [], A1, c1, rfl, hR1, Kd.R_nil _ _ _ _ _, hb1, hch, by simp, hBd⟩
  case round =>
    clear hR1 hb1 hch hBd hk1 hba
    obtain ⟨k, xs, bad, out, A', c', rfl, hR, hr, hb, hch, hkm, hBd⟩ := hrel
    have c1' := blk_cell hR.blk 1
    match k with
    | 0 =>
      have hfin : chL b = (out, bad) := by rw [hch]; rfl
      have hrl := Bd.rec_le hBd
      clear hch hkm hBd
      go_wp2_with fail
      cases bad with
      | true =>
-- [B0
        obtain ⟨Ao, co, eo⟩ := Kd.R_slice hr
        subst eo
        have hg7 : wr.drew.heap[w.heap.size]? = some (.cells #[.slice A' xs.length c', .bool true] 91 (0, 0)) := hR.blk
        have hb7 : Below w.heap.size w wr.drew := below_drew hb
        have hr7 := Kd.R_drew hr
        clear c1' hR hr hb
        refine start_ (n := 16) (S := fun w' => w'.cell? ⟨w.heap.size, 1, none⟩ = some (.bool true)) (ds := []) #[false, false, false, false, false, false, false, false, false, false, false, false, false, false, false, false] (by kernel_rfl) rfl rfl (blk_cell hg7 1) (fun hHeld => ?_)
        generalize wr.drew = w7 at hg7 hb7 hr7 hHeld ⊢
        refine pure_ (i := 0) (N := some 36) (v := ?_) (a' := ?_) #[true, false, false, false, false, false, false, false, false, false, false, false, false, false, false, false] rfl rfl (by kernel_rfl) (fun _ _ _ h => h) (Or.inl ⟨by rfl, ?_⟩) ?_ ?_
        rotate_left
        · intro w'
          go_simp
          with_reducible rfl
        rotate_left
        · simp only [Act.put, List.setIfInBounds_toArray, List.set_cons_zero, List.set_cons_succ, i64_w, i32_w]
          rfl
        refine pure_ (i := 1) (N := some 37) (v := ?_) (a' := ?_) #[true, true, false, false, false, false, false, false, false, false, false, false, false, false, false, false] rfl rfl (by kernel_rfl) (fun _ _ _ h => h) (Or.inl ⟨by rfl, ?_⟩) ?_ ?_
        rotate_left
        · intro w'
          go_simp
          with_reducible rfl
        rotate_left
        · simp only [Act.put, List.setIfInBounds_toArray, List.set_cons_zero, List.set_cons_succ, i64_w, i32_w]
          rfl
        refine pure_ (i := 2) (N := some 38) (v := ?_) (a' := ?_) #[true, true, true, false, false, false, false, false, false, false, false, false, false, false, false, false] rfl rfl (by kernel_rfl) (fun _ _ _ h => h) (Or.inl ⟨by rfl, ?_⟩) ?_ ?_
        rotate_left
        · intro w'
          go_simp
          with_reducible rfl
        rotate_left
        · simp only [Act.put, List.setIfInBounds_toArray, List.set_cons_zero, List.set_cons_succ, i64_w, i32_w]
          rfl
        refine pure_ (i := 3) (N := some 39) (v := ?_) (a' := ?_) #[true, true, true, true, false, false, false, false, false, false, false, false, false, false, false, false] rfl rfl (by kernel_rfl) (fun _ _ _ h => h) (Or.inl ⟨by rfl, ?_⟩) ?_ ?_
        rotate_left
        · intro w'
          go_simp
          with_reducible rfl
        rotate_left
        · simp only [Act.put, List.setIfInBounds_toArray, List.set_cons_zero, List.set_cons_succ, i64_w, i32_w]
          rfl
        refine take_ (i := 4) (N := some 40) (v := ?_) (a' := ?_) #[true, true, true, true, true, false, false, false, false, false, false, false, false, false, false, false] rfl rfl (by kernel_rfl) (fun _ _ _ h => h) (Or.inl ⟨by rfl, ?_⟩) hHeld ?_ ?_
        rotate_left
        · intro w' s0
          go_simp
          with_reducible rfl
        rotate_left
        · simp only [Act.put, List.setIfInBounds_toArray, List.set_cons_zero, List.set_cons_succ, i64_w, i32_w]
          rfl
        refine pure_ (i := 5) (N := some 41) (v := ?_) (a' := ?_) #[true, true, true, true, true, true, false, false, false, false, false, false, false, false, false, false] rfl rfl (by kernel_rfl) (fun _ _ _ h => h) (Or.inl ⟨by rfl, ?_⟩) ?_ ?_
        rotate_left
        · intro w'
          go_simp
          with_reducible rfl
        rotate_left
        · simp only [Act.put, List.setIfInBounds_toArray, List.set_cons_zero, List.set_cons_succ, i64_w, i32_w]
          rfl
        refine pure_ (i := 6) (N := some 42) (v := ?_) (a' := ?_) #[true, true, true, true, true, true, true, false, false, false, false, false, false, false, false, false] rfl rfl (by kernel_rfl) (fun _ _ _ h => h) (Or.inl ⟨by rfl, ?_⟩) ?_ ?_
        rotate_left
        · intro w'
          go_simp
          with_reducible rfl
        rotate_left
        · simp only [Act.put, List.setIfInBounds_toArray, List.set_cons_zero, List.set_cons_succ, i64_w, i32_w]
          rfl
        refine pure_ (i := 7) (N := some 43) (v := undef) (a' := ?_) #[true, true, true, true, true, true, true, true, false, false, false, false, false, false, false, false] rfl rfl (by kernel_rfl) (fun _ _ _ h => h) (Or.inr ⟨by rfl, rfl⟩) ?_ ?_
        rotate_left
        · simp only [Act.put, List.setIfInBounds_toArray, List.set_cons_zero, List.set_cons_succ, i64_w, i32_w]
          rfl
        refine pure_ (i := 8) (N := some 44) (v := undef) (a' := ?_) #[true, true, true, true, true, true, true, true, true, false, false, false, false, false, false, false] rfl rfl (by kernel_rfl) (fun _ _ _ h => h) (Or.inr ⟨by rfl, rfl⟩) ?_ ?_
        rotate_left
        · simp only [Act.put, List.setIfInBounds_toArray, List.set_cons_zero, List.set_cons_succ, i64_w, i32_w]
          rfl
        refine pure_ (i := 9) (N := some 45) (v := undef) (a' := ?_) #[true, true, true, true, true, true, true, true, true, true, false, false, false, false, false, false] rfl rfl (by kernel_rfl) (fun _ _ _ h => h) (Or.inr ⟨by rfl, rfl⟩) ?_ ?_
        rotate_left
        · simp only [Act.put, List.setIfInBounds_toArray, List.set_cons_zero, List.set_cons_succ, i64_w, i32_w]
          rfl
        refine pure_ (i := 10) (N := some 46) (v := undef) (a' := ?_) #[true, true, true, true, true, true, true, true, true, true, true, false, false, false, false, false] rfl rfl (by kernel_rfl) (fun _ _ _ h => h) (Or.inr ⟨by rfl, rfl⟩) ?_ ?_
        rotate_left
        · simp only [Act.put, List.setIfInBounds_toArray, List.set_cons_zero, List.set_cons_succ, i64_w, i32_w]
          rfl
        refine pure_ (i := 11) (N := some 47) (v := undef) (a' := ?_) #[true, true, true, true, true, true, true, true, true, true, true, true, false, false, false, false] rfl rfl (by kernel_rfl) (fun _ _ _ h => h) (Or.inr ⟨by rfl, rfl⟩) ?_ ?_
        rotate_left
        · simp only [Act.put, List.setIfInBounds_toArray, List.set_cons_zero, List.set_cons_succ, i64_w, i32_w]
          rfl
        refine pure_ (i := 12) (N := some 48) (v := undef) (a' := ?_) #[true, true, true, true, true, true, true, true, true, true, true, true, true, false, false, false] rfl rfl (by kernel_rfl) (fun _ _ _ h => h) (Or.inr ⟨by rfl, rfl⟩) ?_ ?_
        rotate_left
        · simp only [Act.put, List.setIfInBounds_toArray, List.set_cons_zero, List.set_cons_succ, i64_w, i32_w]
          rfl
        refine pure_ (i := 13) (N := some 49) (v := ?_) (a' := ?_) #[true, true, true, true, true, true, true, true, true, true, true, true, true, true, false, false] rfl rfl (by kernel_rfl) (fun _ _ _ h => h) (Or.inl ⟨by rfl, ?_⟩) ?_ ?_
        rotate_left
        · intro w'
          go_simp
          with_reducible rfl
        rotate_left
        · simp only [Act.put, List.setIfInBounds_toArray, List.set_cons_zero, List.set_cons_succ, i64_w, i32_w]
          rfl
        refine pure_ (i := 14) (N := some 2) (v := ?_) (a' := ?_) #[true, true, true, true, true, true, true, true, true, true, true, true, true, true, true, false] rfl rfl (by kernel_rfl) (fun _ _ _ h => h) (Or.inl ⟨by rfl, ?_⟩) ?_ ?_
        rotate_left
        · intro w'
          go_simp
          with_reducible rfl
        rotate_left
        · simp only [Act.put, List.setIfInBounds_toArray, List.set_cons_zero, List.set_cons_succ, i64_w, i32_w]
          rfl
        refine pure_ (i := 15) (N := some 3) (v := ?_) (a' := ?_) #[true, true, true, true, true, true, true, true, true, true, true, true, true, true, true, true] rfl rfl (by kernel_rfl) (fun _ _ _ h => h) (Or.inl ⟨by rfl, ?_⟩) ?_ ?_
        rotate_left
        · intro w'
          go_simp
          with_reducible rfl
        rotate_left
        · simp only [Act.put, List.setIfInBounds_toArray, List.set_cons_zero, List.set_cons_succ, i64_w, i32_w]
          rfl
        refine done_ (by kernel_rfl) ?_
        go_wp2_with fail
        go_ret2
        exact ⟨_, by rw [show chOk b = false by unfold chOk; rw [hfin]; rfl]; rfl, by rw [hfin]; exact hr7, hb7⟩
-- B0]
      | false =>
-- [G0
        have Hrl := Lib.hid (show (recL out).length ≤ 1000000000 by omega)
        have hconv : ∀ W', Below w.heap.size w W' → Sem.run Tryd.prog (convert 22 9 (.slice A b.length c)) W' = .ok (.string (strOfNums b)) W' := fun W' hb => Kd.C_string (P := Tryd.prog) (A := A) (c := c) Tryd.underlying22 Tryd.underlying5 Tryd.underlying9 (Kd.C_below hC hb)
        clear hrl
        obtain ⟨Ao, co, eo⟩ := Kd.R_slice hr
        subst eo
        have hg7 : wr.drew.heap[w.heap.size]? = some (.cells #[.slice A' xs.length c', .bool false] 91 (0, 0)) := hR.blk
        have hb7 : Below w.heap.size w wr.drew := below_drew hb
        have hr7 := Kd.R_drew hr
        clear c1' hR hr hb
        refine start_ (n := 16) (S := fun w' => w'.cell? ⟨w.heap.size, 1, none⟩ = some (.bool false) ∧ Sem.run Tryd.prog (convert 22 9 (.slice A b.length c)) w' = .ok (.string (strOfNums b)) w') (ds := []) #[false, false, false, false, false, false, false, false, false, false, false, false, false, false, false, false] (by kernel_rfl) rfl rfl ⟨blk_cell hg7 1, hconv _ hb7⟩ (fun hHeld => ?_)
        generalize wr.drew = w7 at hg7 hb7 hr7 hHeld ⊢
        refine pure_ (i := 0) (N := some 36) (v := ?_) (a' := ?_) #[true, false, false, false, false, false, false, false, false, false, false, false, false, false, false, false] rfl rfl (by kernel_rfl) (fun _ _ _ h => h) (Or.inl ⟨by rfl, ?_⟩) ?_ ?_
        rotate_left
        · intro w'
          go_simp
          with_reducible rfl
        rotate_left
        · simp only [Act.put, List.setIfInBounds_toArray, List.set_cons_zero, List.set_cons_succ, i64_w, i32_w]
          rfl
        refine pure_ (i := 1) (N := some 37) (v := ?_) (a' := ?_) #[true, true, false, false, false, false, false, false, false, false, false, false, false, false, false, false] rfl rfl (by kernel_rfl) (fun _ _ _ h => h) (Or.inl ⟨by rfl, ?_⟩) ?_ ?_
        rotate_left
        · intro w'
          go_simp
          with_reducible rfl
        rotate_left
        · simp only [Act.put, List.setIfInBounds_toArray, List.set_cons_zero, List.set_cons_succ, i64_w, i32_w]
          rfl
        refine pure_ (i := 2) (N := some 38) (v := ?_) (a' := ?_) #[true, true, true, false, false, false, false, false, false, false, false, false, false, false, false, false] rfl rfl (by kernel_rfl) (fun _ _ _ h => h) (Or.inl ⟨by rfl, ?_⟩) ?_ ?_
        rotate_left
        · intro w'
          go_simp
          with_reducible rfl
        rotate_left
        · simp only [Act.put, List.setIfInBounds_toArray, List.set_cons_zero, List.set_cons_succ, i64_w, i32_w]
          rfl
        refine pure_ (i := 3) (N := some 39) (v := ?_) (a' := ?_) #[true, true, true, true, false, false, false, false, false, false, false, false, false, false, false, false] rfl rfl (by kernel_rfl) (fun _ _ _ h => h) (Or.inl ⟨by rfl, ?_⟩) ?_ ?_
        rotate_left
        · intro w'
          go_simp
          with_reducible rfl
        rotate_left
        · simp only [Act.put, List.setIfInBounds_toArray, List.set_cons_zero, List.set_cons_succ, i64_w, i32_w]
          rfl
        refine take_ (i := 4) (N := some 40) (v := ?_) (a' := ?_) #[true, true, true, true, true, false, false, false, false, false, false, false, false, false, false, false] rfl rfl (by kernel_rfl) (fun _ _ _ h => h) (Or.inl ⟨by rfl, ?_⟩) hHeld ?_ ?_
        rotate_left
        · rintro w' ⟨s0, s1⟩
          go_simp
          with_reducible rfl
        rotate_left
        · simp only [Act.put, List.setIfInBounds_toArray, List.set_cons_zero, List.set_cons_succ, i64_w, i32_w]
          rfl
        refine pure_ (i := 5) (N := some 41) (v := ?_) (a' := ?_) #[true, true, true, true, true, true, false, false, false, false, false, false, false, false, false, false] rfl rfl (by kernel_rfl) (fun _ _ _ h => h) (Or.inl ⟨by rfl, ?_⟩) ?_ ?_
        rotate_left
        · intro w'
          go_simp
          with_reducible rfl
        rotate_left
        · simp only [Act.put, List.setIfInBounds_toArray, List.set_cons_zero, List.set_cons_succ, i64_w, i32_w]
          rfl
        refine pure_ (i := 6) (N := some 42) (v := ?_) (a' := ?_) #[true, true, true, true, true, true, true, false, false, false, false, false, false, false, false, false] rfl rfl (by kernel_rfl) (fun _ _ _ h => h) (Or.inl ⟨by rfl, ?_⟩) ?_ ?_
        rotate_left
        · intro w'
          go_simp
          with_reducible rfl
        rotate_left
        · simp only [Act.put, List.setIfInBounds_toArray, List.set_cons_zero, List.set_cons_succ, i64_w, i32_w]
          rfl
        refine pure_ (i := 7) (N := some 43) (v := ?_) (a' := ?_) #[true, true, true, true, true, true, true, true, false, false, false, false, false, false, false, false] rfl rfl (by kernel_rfl) (fun _ _ _ h => h) (Or.inl ⟨by rfl, ?_⟩) ?_ ?_
        rotate_left
        · intro w'
          go_simp
          with_reducible rfl
        rotate_left
        · simp only [Act.put, List.setIfInBounds_toArray, List.set_cons_zero, List.set_cons_succ, i64_w, i32_w]
          rfl
        refine pure_ (i := 10) (N := some 46) (v := ?_) (a' := ?_) #[true, true, true, true, true, true, true, true, false, false, true, false, false, false, false, false] rfl rfl (by kernel_rfl) (fun _ _ _ h => h) (Or.inl ⟨by rfl, ?_⟩) ?_ ?_
        rotate_left
        · intro w'
          go_simp
          with_reducible rfl
        rotate_left
        · simp only [Act.put, List.setIfInBounds_toArray, List.set_cons_zero, List.set_cons_succ, i64_w, i32_w]
          rfl
        refine take_ (i := 11) (N := some 47) (v := ?_) (a' := ?_) #[true, true, true, true, true, true, true, true, false, false, true, true, false, false, false, false] rfl rfl (by kernel_rfl) (fun _ _ _ h => h) (Or.inl ⟨by rfl, ?_⟩) hHeld ?_ ?_
        rotate_left
        · rintro w' ⟨s0, s1⟩
          go_simp
          with_reducible rfl
        rotate_left
        · simp only [Act.put, List.setIfInBounds_toArray, List.set_cons_zero, List.set_cons_succ, i64_w, i32_w]
          rfl
        refine one_ (i := 8) (N := some 44) #[true, true, true, true, true, true, true, true, true, false, true, true, false, false, false, false] rfl rfl (by kernel_rfl) (by decide) (fun K hK => ?_)
        refine goes_ Tryd.func35 (by kernel_rfl) rfl #[.slice Ao out.length co] (by rfl) rfl rfl (by simp only [List.map_toArray, List.map_cons, List.map_nil]; rfl) ?_
        refine (record_says Ao co out w7 (Kd.R_reads' hr7).2.2 Hrl).mono ?_
        rintro e w8 ⟨v8, rfl, hr8, hb9⟩
        refine ⟨_, rfl, ?_⟩
        have hg8 := blk_below hg7 hb9
        have ho8 := Kd.R_below hr7 hb9
        have hb8 := below_then hb7 hb7.size hb9
        obtain ⟨rs, hrs⟩ : ∃ rs, rs = recL out := ⟨_, rfl⟩
        rw [← hrs] at hr8
        have Hrs := Lib.hid hrs
        clear hrs
        obtain ⟨A8, c8, e8⟩ := Kd.R_slice hr8
        subst e8
        refine hK.out _ _ ⟨blk_cell hg8 1, hconv _ hb8⟩ (fun hHeld => ?_)
        clear hK K
        refine norm_ (a' := ?_) ?_ ?_
        rotate_left
        · show Act.put _ (some 44) _ = _
          simp only [Act.put, List.setIfInBounds_toArray, List.set_cons_zero, List.set_cons_succ, i64_w, i32_w]
          rfl
        refine pure_ (i := 14) (N := some 2) (v := ?_) (a' := ?_) #[true, true, true, true, true, true, true, true, true, false, true, true, false, false, true, false] rfl rfl (by kernel_rfl) (fun _ _ _ h => h) (Or.inl ⟨by rfl, ?_⟩) ?_ ?_
        rotate_left
        · intro w'
          go_simp
          with_reducible rfl
        rotate_left
        · simp only [Act.put, List.setIfInBounds_toArray, List.set_cons_zero, List.set_cons_succ, i64_w, i32_w]
          rfl
        refine one_ (i := 9) (N := some 45) #[true, true, true, true, true, true, true, true, true, true, true, true, false, false, true, false] rfl rfl (by kernel_rfl) (by decide) (fun K hK => ?_)
        have hc8 := Kd.C_string (P := Tryd.prog) (A := A8) (c := c8) Tryd.underlying22 Tryd.underlying5 Tryd.underlying9 (Kd.R_reads' hr8).2.2
        refine value_ (w1 := ?_) (v := ?_) (by rfl) rfl ?_ ?_
        rotate_left 2
        · go_simp
          constructor
          · rfl
          · rfl
        clear hc8
        refine hK.out _ _ ⟨hHeld.1, hHeld.2⟩ (fun hHeld => ?_)
        clear hK K
        refine norm_ (a' := ?_) ?_ ?_
        rotate_left
        · show Act.put _ (some 45) _ = _
          simp only [Act.put, List.setIfInBounds_toArray, List.set_cons_zero, List.set_cons_succ, i64_w, i32_w]
          rfl
        refine pure_ (i := 12) (N := some 48) (v := ?_) (a' := ?_) #[true, true, true, true, true, true, true, true, true, true, true, true, true, false, true, false] rfl rfl (by kernel_rfl) (fun _ _ _ h => h) (Or.inl ⟨by rfl, ?_⟩) ?_ ?_
        rotate_left
        · intro w'
          go_simp
          with_reducible rfl
        rotate_left
        · simp only [Act.put, List.setIfInBounds_toArray, List.set_cons_zero, List.set_cons_succ, i64_w, i32_w]
          rfl
        refine pure_ (i := 13) (N := some 49) (v := ?_) (a' := ?_) #[true, true, true, true, true, true, true, true, true, true, true, true, true, true, true, false] rfl rfl (by kernel_rfl) (fun _ _ _ h => h) (Or.inl ⟨by rfl, ?_⟩) ?_ ?_
        rotate_left
        · intro w'
          go_simp
          with_reducible rfl
        rotate_left
        · simp only [Act.put, List.setIfInBounds_toArray, List.set_cons_zero, List.set_cons_succ, i64_w, i32_w]
          rfl
        refine pure_ (i := 15) (N := some 3) (v := ?_) (a' := ?_) #[true, true, true, true, true, true, true, true, true, true, true, true, true, true, true, true] rfl rfl (by kernel_rfl) (fun _ _ _ h => h) (Or.inl ⟨by rfl, ?_⟩) ?_ ?_
        rotate_left
        · intro w'
          go_simp
          with_reducible rfl
        rotate_left
        · simp only [Act.put, List.setIfInBounds_toArray, List.set_cons_zero, List.set_cons_succ, i64_w, i32_w]
          rfl
        refine done_ (by kernel_rfl) ?_
        go_wp2_with fail
        go_ret2
        exact ⟨_, by rw [show chOk b = ((strOfNums rs).toList == (strOfNums b).toList) by unfold chOk; rw [hfin, (show rs = recL out from Hrs)]; rfl]; rfl, by rw [hfin]; exact Kd.R_mono ho8 (fun _ _ => trivial), hb8⟩
-- G0]
    | k + 1 =>
      cases bad with
      | true =>
        have hfin : chL b = (out, true) := by rw [hch]; rfl
        have hrl := Bd.rec_le hBd
        have d1 : decide (((k + 1 : Nat) : Int) > 0) = true := decide_eq_true (by omega)
        have d2 : ((0 : Int) < (k : Int) + 1) = True := eq_true (by omega)
        clear hch hkm hBd
        go_wp2_with fail
-- [B1
        obtain ⟨Ao, co, eo⟩ := Kd.R_slice hr
        subst eo
        have hg7 : wr.drew.heap[w.heap.size]? = some (.cells #[.slice A' xs.length c', .bool true] 91 (0, 0)) := hR.blk
        have hb7 : Below w.heap.size w wr.drew := below_drew hb
        have hr7 := Kd.R_drew hr
        clear c1' hR hr hb
        refine start_ (n := 16) (S := fun w' => w'.cell? ⟨w.heap.size, 1, none⟩ = some (.bool true)) (ds := []) #[false, false, false, false, false, false, false, false, false, false, false, false, false, false, false, false] (by kernel_rfl) rfl rfl (blk_cell hg7 1) (fun hHeld => ?_)
        generalize wr.drew = w7 at hg7 hb7 hr7 hHeld ⊢
        refine pure_ (i := 0) (N := some 36) (v := ?_) (a' := ?_) #[true, false, false, false, false, false, false, false, false, false, false, false, false, false, false, false] rfl rfl (by kernel_rfl) (fun _ _ _ h => h) (Or.inl ⟨by rfl, ?_⟩) ?_ ?_
        rotate_left
        · intro w'
          go_simp
          with_reducible rfl
        rotate_left
        · simp only [Act.put, List.setIfInBounds_toArray, List.set_cons_zero, List.set_cons_succ, i64_w, i32_w]
          rfl
        refine pure_ (i := 1) (N := some 37) (v := ?_) (a' := ?_) #[true, true, false, false, false, false, false, false, false, false, false, false, false, false, false, false] rfl rfl (by kernel_rfl) (fun _ _ _ h => h) (Or.inl ⟨by rfl, ?_⟩) ?_ ?_
        rotate_left
        · intro w'
          go_simp
          with_reducible rfl
        rotate_left
        · simp only [Act.put, List.setIfInBounds_toArray, List.set_cons_zero, List.set_cons_succ, i64_w, i32_w]
          rfl
        refine pure_ (i := 2) (N := some 38) (v := ?_) (a' := ?_) #[true, true, true, false, false, false, false, false, false, false, false, false, false, false, false, false] rfl rfl (by kernel_rfl) (fun _ _ _ h => h) (Or.inl ⟨by rfl, ?_⟩) ?_ ?_
        rotate_left
        · intro w'
          go_simp
          with_reducible rfl
        rotate_left
        · simp only [Act.put, List.setIfInBounds_toArray, List.set_cons_zero, List.set_cons_succ, i64_w, i32_w]
          rfl
        refine pure_ (i := 3) (N := some 39) (v := ?_) (a' := ?_) #[true, true, true, true, false, false, false, false, false, false, false, false, false, false, false, false] rfl rfl (by kernel_rfl) (fun _ _ _ h => h) (Or.inl ⟨by rfl, ?_⟩) ?_ ?_
        rotate_left
        · intro w'
          go_simp
          with_reducible rfl
        rotate_left
        · simp only [Act.put, List.setIfInBounds_toArray, List.set_cons_zero, List.set_cons_succ, i64_w, i32_w]
          rfl
        refine take_ (i := 4) (N := some 40) (v := ?_) (a' := ?_) #[true, true, true, true, true, false, false, false, false, false, false, false, false, false, false, false] rfl rfl (by kernel_rfl) (fun _ _ _ h => h) (Or.inl ⟨by rfl, ?_⟩) hHeld ?_ ?_
        rotate_left
        · intro w' s0
          go_simp
          with_reducible rfl
        rotate_left
        · simp only [Act.put, List.setIfInBounds_toArray, List.set_cons_zero, List.set_cons_succ, i64_w, i32_w]
          rfl
        refine pure_ (i := 5) (N := some 41) (v := ?_) (a' := ?_) #[true, true, true, true, true, true, false, false, false, false, false, false, false, false, false, false] rfl rfl (by kernel_rfl) (fun _ _ _ h => h) (Or.inl ⟨by rfl, ?_⟩) ?_ ?_
        rotate_left
        · intro w'
          go_simp
          with_reducible rfl
        rotate_left
        · simp only [Act.put, List.setIfInBounds_toArray, List.set_cons_zero, List.set_cons_succ, i64_w, i32_w]
          rfl
        refine pure_ (i := 6) (N := some 42) (v := ?_) (a' := ?_) #[true, true, true, true, true, true, true, false, false, false, false, false, false, false, false, false] rfl rfl (by kernel_rfl) (fun _ _ _ h => h) (Or.inl ⟨by rfl, ?_⟩) ?_ ?_
        rotate_left
        · intro w'
          go_simp
          with_reducible rfl
        rotate_left
        · simp only [Act.put, List.setIfInBounds_toArray, List.set_cons_zero, List.set_cons_succ, i64_w, i32_w]
          rfl
        refine pure_ (i := 7) (N := some 43) (v := undef) (a' := ?_) #[true, true, true, true, true, true, true, true, false, false, false, false, false, false, false, false] rfl rfl (by kernel_rfl) (fun _ _ _ h => h) (Or.inr ⟨by rfl, rfl⟩) ?_ ?_
        rotate_left
        · simp only [Act.put, List.setIfInBounds_toArray, List.set_cons_zero, List.set_cons_succ, i64_w, i32_w]
          rfl
        refine pure_ (i := 8) (N := some 44) (v := undef) (a' := ?_) #[true, true, true, true, true, true, true, true, true, false, false, false, false, false, false, false] rfl rfl (by kernel_rfl) (fun _ _ _ h => h) (Or.inr ⟨by rfl, rfl⟩) ?_ ?_
        rotate_left
        · simp only [Act.put, List.setIfInBounds_toArray, List.set_cons_zero, List.set_cons_succ, i64_w, i32_w]
          rfl
        refine pure_ (i := 9) (N := some 45) (v := undef) (a' := ?_) #[true, true, true, true, true, true, true, true, true, true, false, false, false, false, false, false] rfl rfl (by kernel_rfl) (fun _ _ _ h => h) (Or.inr ⟨by rfl, rfl⟩) ?_ ?_
        rotate_left
        · simp only [Act.put, List.setIfInBounds_toArray, List.set_cons_zero, List.set_cons_succ, i64_w, i32_w]
          rfl
        refine pure_ (i := 10) (N := some 46) (v := undef) (a' := ?_) #[true, true, true, true, true, true, true, true, true, true, true, false, false, false, false, false] rfl rfl (by kernel_rfl) (fun _ _ _ h => h) (Or.inr ⟨by rfl, rfl⟩) ?_ ?_
        rotate_left
        · simp only [Act.put, List.setIfInBounds_toArray, List.set_cons_zero, List.set_cons_succ, i64_w, i32_w]
          rfl
        refine pure_ (i := 11) (N := some 47) (v := undef) (a' := ?_) #[true, true, true, true, true, true, true, true, true, true, true, true, false, false, false, false] rfl rfl (by kernel_rfl) (fun _ _ _ h => h) (Or.inr ⟨by rfl, rfl⟩) ?_ ?_
        rotate_left
        · simp only [Act.put, List.setIfInBounds_toArray, List.set_cons_zero, List.set_cons_succ, i64_w, i32_w]
          rfl
        refine pure_ (i := 12) (N := some 48) (v := undef) (a' := ?_) #[true, true, true, true, true, true, true, true, true, true, true, true, true, false, false, false] rfl rfl (by kernel_rfl) (fun _ _ _ h => h) (Or.inr ⟨by rfl, rfl⟩) ?_ ?_
        rotate_left
        · simp only [Act.put, List.setIfInBounds_toArray, List.set_cons_zero, List.set_cons_succ, i64_w, i32_w]
          rfl
        refine pure_ (i := 13) (N := some 49) (v := ?_) (a' := ?_) #[true, true, true, true, true, true, true, true, true, true, true, true, true, true, false, false] rfl rfl (by kernel_rfl) (fun _ _ _ h => h) (Or.inl ⟨by rfl, ?_⟩) ?_ ?_
        rotate_left
        · intro w'
          go_simp
          with_reducible rfl
        rotate_left
        · simp only [Act.put, List.setIfInBounds_toArray, List.set_cons_zero, List.set_cons_succ, i64_w, i32_w]
          rfl
        refine pure_ (i := 14) (N := some 2) (v := ?_) (a' := ?_) #[true, true, true, true, true, true, true, true, true, true, true, true, true, true, true, false] rfl rfl (by kernel_rfl) (fun _ _ _ h => h) (Or.inl ⟨by rfl, ?_⟩) ?_ ?_
        rotate_left
        · intro w'
          go_simp
          with_reducible rfl
        rotate_left
        · simp only [Act.put, List.setIfInBounds_toArray, List.set_cons_zero, List.set_cons_succ, i64_w, i32_w]
          rfl
        refine pure_ (i := 15) (N := some 3) (v := ?_) (a' := ?_) #[true, true, true, true, true, true, true, true, true, true, true, true, true, true, true, true] rfl rfl (by kernel_rfl) (fun _ _ _ h => h) (Or.inl ⟨by rfl, ?_⟩) ?_ ?_
        rotate_left
        · intro w'
          go_simp
          with_reducible rfl
        rotate_left
        · simp only [Act.put, List.setIfInBounds_toArray, List.set_cons_zero, List.set_cons_succ, i64_w, i32_w]
          rfl
        refine done_ (by kernel_rfl) ?_
        go_wp2_with fail
        go_ret2
        exact ⟨_, by rw [show chOk b = false by unfold chOk; rw [hfin]; rfl]; rfl, by rw [hfin]; exact hr7, hb7⟩
-- B1]
      | false =>
        obtain ⟨K, hK⟩ : ∃ K : Int, K = ((k + 1 : Nat) : Int) := ⟨_, rfl⟩
        have d1 : decide (K > 0) = true := decide_eq_true (by omega)
        have e1 : IntKind.i64.wrap (K - 1) = (k : Int) := by rw [IntWalk.i64_in _ (by omega)]; omega
        rw [← hK]
        have hBd2 := hBd.step
        have hch2 : chL b = chF k (oneC xs false).2.1 (oneC xs false).2.2 (out ++ [(oneC xs false).1]) := by rw [hch]; rfl
        have hKn : K.toNat = k + 1 := by omega
        have hkn : out.length + (k + 1) ≤ m := hkm
        clear hK hch hBd hkm
        obtain ⟨⟨a, xs1, bad1⟩, h1⟩ : ∃ p, rnumL xs false = p := ⟨_, rfl⟩
        obtain ⟨⟨s2, xs2, bad2⟩, h2⟩ : ∃ p, rtextL xs1 bad1 = p := ⟨_, rfl⟩
        obtain ⟨⟨s3, xs3, bad3⟩, h3⟩ : ∃ p, rtextL xs2 bad2 = p := ⟨_, rfl⟩
        have ho : oneC xs false = (⟨s2, s3, a == 1⟩, xs3, bad3) := by unfold oneC; rw [h1]; simp only; rw [h2]; simp only; rw [h3]
        rw [ho] at hBd2 hch2
        simp only at hBd2 hch2
        clear ho
        have LB := Lib.hid (show (out.length + 1) * 40 ≤ 140737488355328 by omega)
        have Hm := Lib.hid (show out.length + 1 + k ≤ m by omega)
        have HBd := Lib.hid hBd2
        have Hch := Lib.hid hch2
        have HKn := Lib.hid hKn
        clear hBd2 hch2 hkn hKn hl hrg
        go_wp2_with fail
        refine (rnum_says2 w.heap.size A' c' xs false a xs1 bad1 h1 w wr hb hR).mono ?_
        rintro e w2 ⟨rfl, hk2, A2, c2, hR2⟩
        have hb2 : Below w.heap.size w w2 := tur_below hb hk2 (fun k hk => by omega)
        have hr2 := Kd.R_kept (R_mono49 hr (fun k hk => by obtain ⟨cs, hc⟩ := Kd.R_typed hr k hk; exact blk_ne hc hR.blk (by decide))) hk2.kept (fun k hk h => hk h)
        clear hR hk2 hr hb
        go_wp2_with fail
        refine (rtext_says w.heap.size A2 c2 xs1 bad1 s2 xs2 bad2 h2 w w2 (Nat.le_refl _) hb2 hR2).mono ?_
        rintro e w3 ⟨rfl, hk3, A3, c3, hR3⟩
        have hb3 : Below w.heap.size w w3 := tur_below hb2 hk3 (fun k hk => by omega)
        have hr3 := Kd.R_kept hr2 hk3.kept (fun k hk h => hk h)
        clear hR2 hk3 hr2 hb2
        go_wp2_with fail
        refine (rtext_says w.heap.size A3 c3 xs2 bad2 s3 xs3 bad3 h3 w w3 (Nat.le_refl _) hb3 hR3).mono ?_
        rintro e w4 ⟨rfl, hk4, A4, c4, hR4⟩
        have hb4 : Below w.heap.size w w4 := tur_below hb3 hk4 (fun k hk => by omega)
        have hr4 := Kd.R_kept hr3 hk4.kept (fun k hk h => hk h)
        clear hR3 hk4 hr3 hb3
        have hra := Kd.R_alloc hr4 (.cells #[.string s2, .string s3, .bool (a == 1)] 49)
        go_wp2_with ((with_reducible refine gate_builtin (b := .append) (xs := #[.tmp 26, .tmp 34]) rfl ?_); at_builtin; refine Kd.R_append k49 (w0 := w) w.heap.size rfl (.tmp 26) (.tmp 34) 57 49 (.agg #[.string ⟨#[]⟩, .string ⟨#[]⟩, .bool false]) 40 rfl Tryd.underlying57 (by kernel_rfl) rfl (by decide) (by decide) u5 out ⟨s2, s3, a == 1⟩ [.string s2, .string s3, .bool (a == 1)] (fun _ => True) (fun _ => False) rfl rfl (k49_mkM _ _ _ ⟨s2, s3, a == 1⟩) (fun _ h => h.elim) (fun _ _ => trivial) (Kd.R_mono hr4 (fun _ _ => trivial)) hb4 hb4.size LB ?_; intro v5 w5 ho5 hb5 hg5 hat5)
        have hR5 : RdAt w w5 w.heap.size A4 c4 xs3 bad3 := ⟨blk_grown hR4.blk hg5 (fun e => by exact (hr4.1 _ e.symm) rfl), hR4.row, hR4.le⟩
        refine ⟨⟨k, xs3, bad3, out ++ [⟨s2, s3, a == 1⟩], A4, c4, rfl, hR5, ho5, hb5, by exact Hch, ?_, by exact HBd⟩, ?_⟩
        · have := (show out.length + 1 + k ≤ m from Hm); rw [List.length_append, List.length_singleton]; exact this
        · have := (show K.toNat = k + 1 from HKn); simp only [intOf]; omega
end Go.Proofs.YtkmokcfnfhabgaaDoor.X
