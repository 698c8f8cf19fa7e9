/- The store's records: changes as bytes, and back. -/
import Derived.Test.YtkmokcfnfhabgaaDoorQ3
import Derived.Test.YtkmokcfnfhabgaaDoorHsh
import Derived.Test.YtkmokcfnfhabgaaDoorSto
import Derived.Lib.Hide
set_option linter.unusedVariables false
set_option linter.unusedSimpArgs false
namespace Go.Proofs.YtkmokcfnfhabgaaDoor.X
open Go.RowKit Go.Proofs.YtkmokcfnfhabgaaDoorW.PrintWords Go.Proofs.YtkmokcfnfhabgaaDoorW.PrintLast Go.Proofs.YtkmokcfnfhabgaaDoorW.PrintMore Go.Proofs.YtkmokcfnfhabgaaDoor.Q

/-- A change as bytes. -/
def chgL (c : S49) : List Int := four (if c.f2 = true then 1 else 0) ++ four (c.f0.size : Int) ++ bytesOf c.f0 ++ four (if c.f2 = true then 0 else (c.f1.size : Int)) ++ (if c.f2 = true then [] else bytesOf c.f1)
/-- Changes as bytes. -/
def recL (l : List S49) : List Int := four (l.length : Int) ++ l.flatMap chgL
theorem recL_take (l : List S49) (i : Nat) (h : i < l.length) : (l.take (i + 1)).flatMap chgL = (l.take i).flatMap chgL ++ chgL (l.getD i z49) := by
  rw [List.take_add_one, List.flatMap_append]
  simp [List.getD_eq_getElem?_getD, List.getElem?_eq_getElem h]
theorem number_says (P0 : Nat → Prop) (v : Value) (l0 : List Int) (a1 : Int) (w0 w : World) (hB : Below w0.heap.size w0 w) (ho : Kd.R (Kd.int .u8) 5 w w0.heap.size P0 v l0) (ha : 0 ≤ a1 ∧ a1 < 4294967296) (hl : l0.length + 4 < 140737488355328) :
    Calls Tryd.prog 50 #[v, .int .i64 a1] w fun e w' => ∃ v', e = .returned v' ∧ Kd.R (Kd.int .u8) 5 w' w0.heap.size (fun k => P0 k ∨ w.heap.size ≤ k) v' (l0 ++ four a1) ∧ Below w0.heap.size w0 w' ∧ Kept w w' P0 := by
  have hf : store_number.f l0 a1 = some (l0 ++ four a1) := by
    unfold store_number.f
    rw [show a1 % 4294967296 = a1 by omega, put_is l0 a1 hl, Option.bind_some]
  exact store_number.calls P0 v l0 a1 _ w0 w hB ho hf
theorem chgL_len (c : S49) : (chgL c).length = 12 + c.f0.size + (if c.f2 = true then 0 else c.f1.size) := by
  unfold chgL
  cases c.f2 <;> simp [bytesOf_length, four] <;> omega
theorem recL_len (l : List S49) (i : Nat) : (four (l.length : Int) ++ (l.take i).flatMap chgL).length ≤ (recL l).length := by
  unfold recL
  rw [List.length_append, List.length_append]
  have : (l.flatMap chgL).length = ((l.take i).flatMap chgL).length + ((l.drop i).flatMap chgL).length := by rw [← List.length_append, ← List.flatMap_append, List.take_append_drop]
  omega
set_option maxHeartbeats 8000000 in
set_option maxRecDepth 100000 in
theorem record_says (A : Option Addr) (c : Nat) (l : List S49) (w : World) (hC : Kd.C k49 w A l.length l) (hl : (recL l).length ≤ 1000000000) :
    Calls Tryd.prog 35 #[.slice A l.length c] w fun e w' => ∃ v, e = .returned v ∧ Kd.R (Kd.int .u8) 5 w' w.heap.size (fun _ => True) v (recL l) ∧ Below w.heap.size w w' := by
  go_enter Tryd.func35, Tryd.ntmps35
  go_wp2_with fail
  have hln : l.length ≤ 1000000000 := by
    have h1 : ∀ (l : List S49), l.length ≤ (l.flatMap chgL).length := by
      intro l
      induction l with
      | nil => simp
      | cons x r ih => rw [List.flatMap_cons, List.length_append, chgL_len, List.length_cons]; omega
    have := h1 l
    unfold recL at hl
    rw [List.length_append] at hl
    omega
  refine (number_says (fun _ => True) (.slice none 0 0) [] (l.length : Int) w w (Below.refl _ _) (Kd.R_nil _ _ _ _ _) (by omega) (by rw [List.length_nil]; omega)).mono ?_
  rintro e w1 ⟨v1, rfl, hr1, hb1, _⟩
  have hr1 := Kd.R_mono (ok' := fun _ => True) hr1 (fun _ _ => trivial)
  rw [List.nil_append] at hr1
  go_wp2_with fail
  go_loopw [3, 12] (fun v3 v12 wr => ∃ i : Nat, v12 = .int .i64 i ∧ i ≤ l.length ∧ Kd.R (Kd.int .u8) 5 wr w.heap.size (fun _ => True) v3 (four (l.length : Int) ++ (l.take i).flatMap chgL) ∧ Below w.heap.size w wr) (fun _ v12 _ => l.length - (intOf v12).toNat)
  case atStart => exact ⟨0, rfl, Nat.zero_le _, by simpa using hr1, hb1⟩
  case round =>
    obtain ⟨i, rfl, hi, hr, hb⟩ := hrel
    by_cases hlt : i < l.length
    · have d1 : decide ((i : Int) < (l.length : Int)) = true := decide_eq_true (by omega)
      have hCr := Kd.C_below hC hb
      obtain ⟨ad, rfl, hx0, hx1, hx2⟩ := at_T49 hCr (i : Int) (by omega) (by omega)
      have hstep := recL_take l i hlt
      have hrl := recL_len l (i + 1)
      have hrd : rd_T49 l (i : Int) = l.getD i z49 := by unfold rd_T49; rw [Int.toNat_natCast]
      rw [hrd] at hx0 hx1 hx2
      obtain ⟨x, hx⟩ : ∃ x, x = l.getD i z49 := ⟨_, rfl⟩
      rw [← hx] at hx0 hx1 hx2 hstep
      clear hx hrd
      simp only [Int.toNat_natCast] at hx0 hx1 hx2
      have i3 : ((i : Int) < (l.length : Int)) = True := eq_true (by omega)
      have i0 : (0 ≤ (i : Int)) = True := eq_true (by omega)
      have e1 : IntKind.i64.wrap ((i : Int) + 1) = (i : Int) + 1 := IntWalk.i64_in _ (by have := hC.2.1; omega)
      rw [hstep, ← List.append_assoc, List.length_append, chgL_len] at hrl
      obtain ⟨xs, hxs⟩ : ∃ xs, xs = four (l.length : Int) ++ (l.take i).flatMap chgL := ⟨_, rfl⟩
      rw [← hxs] at hr hrl
      have Hfin := Lib.hid (show four (l.length : Int) ++ (l.take (i + 1)).flatMap chgL = xs ++ chgL x by rw [hstep, hxs, List.append_assoc])
      have Hi := Lib.hid (show i + 1 ≤ l.length by omega)
      obtain ⟨f0, f1, f2⟩ := x
      simp only at hrl
      have L0 := Lib.hid (show xs.length + 12 + f0.size + (if f2 = true then 0 else f1.size) ≤ 1000000000 by omega)
      clear hxs hstep hrl hlt hCr hi hl hln hr1 hb1
      cases f2 with
      | true =>
-- [T
        go_wp2_with fail
        refine wp_world ?_
        intro w7 hw7
        have hg7 : w7.drew.heap[wr.heap.size]? = some (.cells #[.string f0, .string ⟨#[]⟩, .bool true] 49 (0, 0)) := by rw [hw7]; exact heap_alloc_new wr _
        have hb7 : Below w.heap.size w w7.drew := by rw [hw7]; exact below_drew (below_then hb hb.size ((Below.refl _ wr).alloc (Nat.le_refl _) _))
        have hr7 : Kd.R (Kd.int .u8) 5 w7.drew w.heap.size (fun k => k ≠ wr.heap.size) u3 xs := by rw [hw7]; exact Kd.R_drew (Kd.R_alloc (Kd.R_mono (Kd.R_elderB hr wr.heap.size (Nat.le_refl _)) (fun _ h => h.2)) _)
        clear hw7 hr hb
        have L0 : xs.length + 12 + f0.size + 0 ≤ 1000000000 := L0
        have K1 := Lib.hid (show xs.length + 4 < 140737488355328 by omega)
        have K2 := Lib.hid (show (xs ++ four 1).length + 4 < 140737488355328 by rw [List.length_append]; show xs.length + 4 + 4 < _; omega)
        have K3 := Lib.hid (show (xs ++ four 1 ++ four (f0.size : Int)).length + f0.size ≤ 140737488355328 by rw [List.length_append, List.length_append]; show xs.length + 4 + 4 + _ ≤ _; omega)
        have N1 : 0 ≤ (1 : Int) ∧ (1 : Int) < 4294967296 := by omega
        have N2 : 0 ≤ (f0.size : Int) ∧ (f0.size : Int) < 4294967296 := by omega
        have N3 : 0 ≤ (0 : Int) ∧ (0 : Int) < 4294967296 := by omega
        have L1 := Lib.hid L0
        clear L0
        refine start_ (n := 11) (S := fun w' => w'.heap[wr.heap.size]? = some (.cells #[.string f0, .string ⟨#[]⟩, .bool true] 49 (0, 0)) ∧ w'.cell? ⟨wr.heap.size, 0, none⟩ = some (.string f0) ∧ w'.cell? ⟨wr.heap.size, 1, none⟩ = some (.string ⟨#[]⟩)) (ds := []) #[false, false, false, false, false, false, false, false, false, false, false] (by kernel_rfl) rfl rfl ⟨hg7, blk_cell hg7 0, blk_cell hg7 1⟩ (fun hHeld => ?_)
        generalize w7.drew = w7 at hg7 hb7 hr7 hHeld ⊢
        refine pure_ (i := 0) (N := some 19) (v := ?_) (a' := ?_) #[true, false, false, false, false, false, false, false, false, false, false] rfl rfl (by kernel_rfl) (fun _ _ _ h => h) (Or.inl ⟨by rfl, ?_⟩) ?_ ?_
        rotate_left
        · intro w'
          go_simp
          with_reducible rfl
        rotate_left
        · simp only [Act.put, List.setIfInBounds_toArray, List.set_cons_zero, List.set_cons_succ, i64_w, i32_w]
          rfl
        refine pure_ (i := 1) (N := some 20) (v := ?_) (a' := ?_) #[true, true, false, false, false, false, false, false, false, false, false] rfl rfl (by kernel_rfl) (fun _ _ _ h => h) (Or.inl ⟨by rfl, ?_⟩) ?_ ?_
        rotate_left
        · intro w'
          go_simp
          with_reducible rfl
        rotate_left
        · simp only [Act.put, List.setIfInBounds_toArray, List.set_cons_zero, List.set_cons_succ, i64_w, i32_w]
          rfl
        refine pure_ (i := 3) (N := some 22) (v := ?_) (a' := ?_) #[true, true, false, true, false, false, false, false, false, false, false] rfl rfl (by kernel_rfl) (fun _ _ _ h => h) (Or.inl ⟨by rfl, ?_⟩) ?_ ?_
        rotate_left
        · intro w'
          go_simp
          with_reducible rfl
        rotate_left
        · simp only [Act.put, List.setIfInBounds_toArray, List.set_cons_zero, List.set_cons_succ, i64_w, i32_w]
          rfl
        refine pure_ (i := 7) (N := some 26) (v := ?_) (a' := ?_) #[true, true, false, true, false, false, false, true, false, false, false] rfl rfl (by kernel_rfl) (fun _ _ _ h => h) (Or.inl ⟨by rfl, ?_⟩) ?_ ?_
        rotate_left
        · intro w'
          go_simp
          with_reducible rfl
        rotate_left
        · simp only [Act.put, List.setIfInBounds_toArray, List.set_cons_zero, List.set_cons_succ, i64_w, i32_w]
          rfl
        refine take_ (i := 4) (N := some 23) (v := ?_) (a' := ?_) #[true, true, false, true, true, false, false, true, false, false, false] rfl rfl (by kernel_rfl) (fun _ _ _ h => h) (Or.inl ⟨by rfl, ?_⟩) hHeld ?_ ?_
        rotate_left
        · rintro w' ⟨s0, s1, s2⟩
          go_simp
          with_reducible rfl
        rotate_left
        · simp only [Act.put, List.setIfInBounds_toArray, List.set_cons_zero, List.set_cons_succ, i64_w, i32_w]
          rfl
        refine pure_ (i := 5) (N := some 24) (v := ?_) (a' := ?_) #[true, true, false, true, true, true, false, true, false, false, false] rfl rfl (by kernel_rfl) (fun _ _ _ h => h) (Or.inl ⟨by rfl, ?_⟩) ?_ ?_
        rotate_left
        · intro w'
          go_simp
          with_reducible rfl
        rotate_left
        · simp only [Act.put, List.setIfInBounds_toArray, List.set_cons_zero, List.set_cons_succ, i64_w, i32_w]
          rfl
        refine take_ (i := 8) (N := some 27) (v := ?_) (a' := ?_) #[true, true, false, true, true, true, false, true, true, false, false] rfl rfl (by kernel_rfl) (fun _ _ _ h => h) (Or.inl ⟨by rfl, ?_⟩) hHeld ?_ ?_
        rotate_left
        · rintro w' ⟨s0, s1, s2⟩
          go_simp
          with_reducible rfl
        rotate_left
        · simp only [Act.put, List.setIfInBounds_toArray, List.set_cons_zero, List.set_cons_succ, i64_w, i32_w]
          rfl
        refine one_ (i := 2) (N := some 21) #[true, true, true, true, true, true, false, true, true, false, false] rfl rfl (by kernel_rfl) (by decide) (fun K hK => ?_)
        refine goes_ Tryd.func50 (by kernel_rfl) rfl #[u3, .int .i64 1] (by rfl) rfl rfl (by simp only [List.map_toArray, List.map_cons, List.map_nil]; rfl) ?_
        refine (number_says (fun k => k ≠ wr.heap.size) u3 (xs) 1 w w7 hb7 hr7 N1 K1).mono ?_
        rintro e w8 ⟨v8, rfl, hr8, hb8, hk8⟩
        refine ⟨_, rfl, ?_⟩
        have hg8 := blk_kept hg7 hk8 (fun h => h rfl)
        have hr8 := Kd.R_mono (ok' := fun k => k ≠ wr.heap.size) hr8 (fun k hk => hk.elim id (fun h => by have := blk_lt hg7; omega))
        refine hK.out _ _ ⟨hg8, blk_cell hg8 0, blk_cell hg8 1⟩ (fun hHeld => ?_)
        clear hK K
        refine norm_ (a' := ?_) ?_ ?_
        rotate_left
        · show Act.put _ (some 21) _ = _
          simp only [Act.put, List.setIfInBounds_toArray, List.set_cons_zero, List.set_cons_succ, i64_w, i32_w]
          rfl
        refine one_ (i := 6) (N := some 25) #[true, true, true, true, true, true, true, true, true, false, false] rfl rfl (by kernel_rfl) (by decide) (fun K hK => ?_)
        refine goes_ Tryd.func50 (by kernel_rfl) rfl #[v8, .int .i64 (f0.size : Int)] (by rfl) rfl rfl (by simp only [List.map_toArray, List.map_cons, List.map_nil]; rfl) ?_
        refine (number_says (fun k => k ≠ wr.heap.size) v8 (xs ++ four 1) (f0.size : Int) w w8 hb8 hr8 N2 K2).mono ?_
        rintro e w9 ⟨v9, rfl, hr9, hb9, hk9⟩
        refine ⟨_, rfl, ?_⟩
        have hg9 := blk_kept hg8 hk9 (fun h => h rfl)
        have hr9 := Kd.R_mono (ok' := fun k => k ≠ wr.heap.size) hr9 (fun k hk => hk.elim id (fun h => by have := blk_lt hg8; omega))
        refine hK.out _ _ ⟨hg9, blk_cell hg9 0, blk_cell hg9 1⟩ (fun hHeld => ?_)
        clear hK K
        refine norm_ (a' := ?_) ?_ ?_
        rotate_left
        · show Act.put _ (some 25) _ = _
          simp only [Act.put, List.setIfInBounds_toArray, List.set_cons_zero, List.set_cons_succ, i64_w, i32_w]
          rfl
        refine one_ (i := 9) (N := some 28) #[true, true, true, true, true, true, true, true, true, true, false] rfl rfl (by kernel_rfl) (by decide) (fun K hK => ?_)
        refine append_str_step (W := w9) w.heap.size ?hw (.tmp 25) (.tmp 27) 22 9 5 rfl Tryd.underlying22 Tryd.underlying9 (show (Tryd.prog.info? 5).map (fun i => (i.zero, i.size, i.bytes)) = some (some (.int .u8 0), 1, 1) by kernel_rfl) v9 (xs ++ four 1 ++ four (f0.size : Int)) f0 rfl rfl hr9 hb9.size K3 ?_
        (case hw => rfl)
        intro v10 w10 hr10 hgw10
        obtain ⟨ys10, hys10⟩ : ∃ ys, ys = xs ++ four 1 ++ four (f0.size : Int) ++ bytesOf f0 := ⟨_, rfl⟩
        rw [← hys10] at hr10
        have Hys10 := Lib.hid hys10
        clear hys10
        obtain ⟨Aq10, cq10, eq10⟩ := Kd.R_slice hr10
        subst eq10
        have hg10 := blk_grown hg9 hgw10 (fun e => absurd rfl (hr9.1 _ e.symm))
        have hb10 := hb9.grown hgw10 hb9.size (fun k e => Kd.R_base hr9 k e)
        refine hK.out _ _ ⟨hg10, blk_cell hg10 0, blk_cell hg10 1⟩ (fun hHeld => ?_)
        clear hK K
        refine norm_ (a' := ?_) ?_ ?_
        rotate_left
        · show Act.put _ (some 28) _ = _
          simp only [Act.put, List.setIfInBounds_toArray, List.set_cons_zero, List.set_cons_succ, i64_w, i32_w]
          rfl
        refine pure_ (i := 10) (N := some 3) (v := ?_) (a' := ?_) #[true, true, true, true, true, true, true, true, true, true, true] rfl rfl (by kernel_rfl) (fun _ _ _ h => h) (Or.inl ⟨by rfl, ?_⟩) ?_ ?_
        rotate_left
        · intro w'
          go_simp
          with_reducible rfl
        rotate_left
        · simp only [Act.put, List.setIfInBounds_toArray, List.set_cons_zero, List.set_cons_succ, i64_w, i32_w]
          rfl
        refine done_ (by kernel_rfl) ?_
        go_wp2_with fail
        have hyl : ys10.length = xs.length + 8 + f0.size := by rw [(show ys10 = xs ++ four 1 ++ four (f0.size : Int) ++ bytesOf f0 from Hys10), List.length_append, List.length_append, List.length_append, bytesOf_length]; rfl
        have L0 : xs.length + 12 + f0.size + 0 ≤ 1000000000 := L1
        have K4 := Lib.hid (show ys10.length + 4 < 140737488355328 by omega)
        have K5 := Lib.hid (show (ys10 ++ four (0 : Int)).length + (⟨#[]⟩ : ByteArray).size ≤ 140737488355328 by rw [List.length_append]; show ys10.length + 4 + 0 ≤ _; omega)
        clear hyl L0
        have hr11 : Kd.R (Kd.int .u8) 5 w10.drew w.heap.size (fun k => k ≠ wr.heap.size) _ ys10 := Kd.R_drew (R_own_ok hr10 (fun k hk => by obtain ⟨cs, hc⟩ := Kd.R_typed hr10 k hk; exact blk_ne hc hg10 (by decide)))
        have hb11 : Below w.heap.size w w10.drew := below_drew hb10
        have hg11 : w10.drew.heap[wr.heap.size]? = _ := hg10
        refine start_ (n := 9) (S := fun w' => w'.heap[wr.heap.size]? = some (.cells #[.string f0, .string ⟨#[]⟩, .bool true] 49 (0, 0)) ∧ w'.cell? ⟨wr.heap.size, 0, none⟩ = some (.string f0) ∧ w'.cell? ⟨wr.heap.size, 1, none⟩ = some (.string ⟨#[]⟩)) (ds := []) #[false, false, false, false, false, false, false, false, false] (by kernel_rfl) rfl rfl ⟨hg11, blk_cell hg11 0, blk_cell hg11 1⟩ (fun hHeld => ?_)
        generalize w10.drew = w11 at hg11 hb11 hr11 hHeld ⊢
        refine pure_ (i := 0) (N := some 29) (v := ?_) (a' := ?_) #[true, false, false, false, false, false, false, false, false] rfl rfl (by kernel_rfl) (fun _ _ _ h => h) (Or.inl ⟨by rfl, ?_⟩) ?_ ?_
        rotate_left
        · intro w'
          go_simp
          with_reducible rfl
        rotate_left
        · simp only [Act.put, List.setIfInBounds_toArray, List.set_cons_zero, List.set_cons_succ, i64_w, i32_w]
          rfl
        refine pure_ (i := 1) (N := some 30) (v := ?_) (a' := ?_) #[true, true, false, false, false, false, false, false, false] rfl rfl (by kernel_rfl) (fun _ _ _ h => h) (Or.inl ⟨by rfl, ?_⟩) ?_ ?_
        rotate_left
        · intro w'
          go_simp
          with_reducible rfl
        rotate_left
        · simp only [Act.put, List.setIfInBounds_toArray, List.set_cons_zero, List.set_cons_succ, i64_w, i32_w]
          rfl
        refine pure_ (i := 5) (N := some 34) (v := ?_) (a' := ?_) #[true, true, false, false, false, true, false, false, false] rfl rfl (by kernel_rfl) (fun _ _ _ h => h) (Or.inl ⟨by rfl, ?_⟩) ?_ ?_
        rotate_left
        · intro w'
          go_simp
          with_reducible rfl
        rotate_left
        · simp only [Act.put, List.setIfInBounds_toArray, List.set_cons_zero, List.set_cons_succ, i64_w, i32_w]
          rfl
        refine take_ (i := 2) (N := some 31) (v := ?_) (a' := ?_) #[true, true, true, false, false, true, false, false, false] rfl rfl (by kernel_rfl) (fun _ _ _ h => h) (Or.inl ⟨by rfl, ?_⟩) hHeld ?_ ?_
        rotate_left
        · rintro w' ⟨s0, s1, s2⟩
          go_simp
          with_reducible rfl
        rotate_left
        · simp only [Act.put, List.setIfInBounds_toArray, List.set_cons_zero, List.set_cons_succ, i64_w, i32_w]
          rfl
        refine pure_ (i := 3) (N := some 32) (v := ?_) (a' := ?_) #[true, true, true, true, false, true, false, false, false] rfl rfl (by kernel_rfl) (fun _ _ _ h => h) (Or.inl ⟨by rfl, ?_⟩) ?_ ?_
        rotate_left
        · intro w'
          go_simp
          with_reducible rfl
        rotate_left
        · simp only [Act.put, List.setIfInBounds_toArray, List.set_cons_zero, List.set_cons_succ, i64_w, i32_w]
          rfl
        refine take_ (i := 6) (N := some 35) (v := ?_) (a' := ?_) #[true, true, true, true, false, true, true, false, false] rfl rfl (by kernel_rfl) (fun _ _ _ h => h) (Or.inl ⟨by rfl, ?_⟩) hHeld ?_ ?_
        rotate_left
        · rintro w' ⟨s0, s1, s2⟩
          go_simp
          with_reducible rfl
        rotate_left
        · simp only [Act.put, List.setIfInBounds_toArray, List.set_cons_zero, List.set_cons_succ, i64_w, i32_w]
          rfl
        refine one_ (i := 4) (N := some 33) #[true, true, true, true, true, true, true, false, false] rfl rfl (by kernel_rfl) (by decide) (fun K hK => ?_)
        refine goes_ Tryd.func50 (by kernel_rfl) rfl #[(.slice Aq10 ys10.length cq10), .int .i64 (0 : Int)] (by rfl) rfl rfl (by simp only [List.map_toArray, List.map_cons, List.map_nil]; rfl) ?_
        refine (number_says (fun k => k ≠ wr.heap.size) (.slice Aq10 ys10.length cq10) (ys10) (0 : Int) w w11 hb11 hr11 N3 K4).mono ?_
        rintro e w12 ⟨v12, rfl, hr12, hb12, hk12⟩
        refine ⟨_, rfl, ?_⟩
        have hg12 := blk_kept hg11 hk12 (fun h => h rfl)
        have hr12 := Kd.R_mono (ok' := fun k => k ≠ wr.heap.size) hr12 (fun k hk => hk.elim id (fun h => by have := blk_lt hg11; omega))
        refine hK.out _ _ ⟨hg12, blk_cell hg12 0, blk_cell hg12 1⟩ (fun hHeld => ?_)
        clear hK K
        refine norm_ (a' := ?_) ?_ ?_
        rotate_left
        · show Act.put _ (some 33) _ = _
          simp only [Act.put, List.setIfInBounds_toArray, List.set_cons_zero, List.set_cons_succ, i64_w, i32_w]
          rfl
        refine one_ (i := 7) (N := some 36) #[true, true, true, true, true, true, true, true, false] rfl rfl (by kernel_rfl) (by decide) (fun K hK => ?_)
        refine append_str_step (W := w12) w.heap.size ?hw (.tmp 33) (.tmp 35) 22 9 5 rfl Tryd.underlying22 Tryd.underlying9 (show (Tryd.prog.info? 5).map (fun i => (i.zero, i.size, i.bytes)) = some (some (.int .u8 0), 1, 1) by kernel_rfl) v12 (ys10 ++ four (0 : Int)) ⟨#[]⟩ rfl rfl hr12 hb12.size K5 ?_
        (case hw => rfl)
        intro v13 w13 hr13 hgw13
        obtain ⟨ys13, hys13⟩ : ∃ ys, ys = ys10 ++ four (0 : Int) ++ bytesOf ⟨#[]⟩ := ⟨_, rfl⟩
        rw [← hys13] at hr13
        have Hys13 := Lib.hid hys13
        clear hys13
        obtain ⟨Aq13, cq13, eq13⟩ := Kd.R_slice hr13
        subst eq13
        have hg13 := blk_grown hg12 hgw13 (fun e => absurd rfl (hr12.1 _ e.symm))
        have hb13 := hb12.grown hgw13 hb12.size (fun k e => Kd.R_base hr12 k e)
        refine hK.out _ _ ⟨hg13, blk_cell hg13 0, blk_cell hg13 1⟩ (fun hHeld => ?_)
        clear hK K
        refine norm_ (a' := ?_) ?_ ?_
        rotate_left
        · show Act.put _ (some 36) _ = _
          simp only [Act.put, List.setIfInBounds_toArray, List.set_cons_zero, List.set_cons_succ, i64_w, i32_w]
          rfl
        refine pure_ (i := 8) (N := some 3) (v := ?_) (a' := ?_) #[true, true, true, true, true, true, true, true, true] rfl rfl (by kernel_rfl) (fun _ _ _ h => h) (Or.inl ⟨by rfl, ?_⟩) ?_ ?_
        rotate_left
        · intro w'
          go_simp
          with_reducible rfl
        rotate_left
        · simp only [Act.put, List.setIfInBounds_toArray, List.set_cons_zero, List.set_cons_succ, i64_w, i32_w]
          rfl
        refine done_ (by kernel_rfl) ?_
        go_wp2_with fail
        refine ⟨⟨i + 1, rfl, Hi, ?_, hb13⟩, ?_⟩
        · rw [(show four (l.length : Int) ++ (l.take (i + 1)).flatMap chgL = xs ++ chgL _ from Hfin)]
          have e : xs ++ chgL ⟨f0, f1, true⟩ = ys13 := by rw [(show ys13 = _ from Hys13), (show ys10 = _ from Hys10)]; simp [chgL, bytesOf]
          rw [e]
          exact hr13
        · have := (show i + 1 ≤ l.length from Hi); simp only [intOf]; omega
-- T]
      | false =>
-- [F
        go_wp2_with fail
        refine wp_world ?_
        intro w7 hw7
        have hg7 : w7.drew.heap[wr.heap.size]? = some (.cells #[.string f0, .string f1, .bool false] 49 (0, 0)) := by rw [hw7]; exact heap_alloc_new wr _
        have hb7 : Below w.heap.size w w7.drew := by rw [hw7]; exact below_drew (below_then hb hb.size ((Below.refl _ wr).alloc (Nat.le_refl _) _))
        have hr7 : Kd.R (Kd.int .u8) 5 w7.drew w.heap.size (fun k => k ≠ wr.heap.size) u3 xs := by rw [hw7]; exact Kd.R_drew (Kd.R_alloc (Kd.R_mono (Kd.R_elderB hr wr.heap.size (Nat.le_refl _)) (fun _ h => h.2)) _)
        clear hw7 hr hb
        have L0 : xs.length + 12 + f0.size + f1.size ≤ 1000000000 := L0
        have K1 := Lib.hid (show xs.length + 4 < 140737488355328 by omega)
        have K2 := Lib.hid (show (xs ++ four 0).length + 4 < 140737488355328 by rw [List.length_append]; show xs.length + 4 + 4 < _; omega)
        have K3 := Lib.hid (show (xs ++ four 0 ++ four (f0.size : Int)).length + f0.size ≤ 140737488355328 by rw [List.length_append, List.length_append]; show xs.length + 4 + 4 + _ ≤ _; omega)
        have N1 : 0 ≤ (0 : Int) ∧ (0 : Int) < 4294967296 := by omega
        have N2 : 0 ≤ (f0.size : Int) ∧ (f0.size : Int) < 4294967296 := by omega
        have N3 : 0 ≤ (f1.size : Int) ∧ (f1.size : Int) < 4294967296 := by omega
        have L1 := Lib.hid L0
        clear L0
        refine start_ (n := 11) (S := fun w' => w'.heap[wr.heap.size]? = some (.cells #[.string f0, .string f1, .bool false] 49 (0, 0)) ∧ w'.cell? ⟨wr.heap.size, 0, none⟩ = some (.string f0) ∧ w'.cell? ⟨wr.heap.size, 1, none⟩ = some (.string f1)) (ds := []) #[false, false, false, false, false, false, false, false, false, false, false] (by kernel_rfl) rfl rfl ⟨hg7, blk_cell hg7 0, blk_cell hg7 1⟩ (fun hHeld => ?_)
        generalize w7.drew = w7 at hg7 hb7 hr7 hHeld ⊢
        refine pure_ (i := 0) (N := some 19) (v := ?_) (a' := ?_) #[true, false, false, false, false, false, false, false, false, false, false] rfl rfl (by kernel_rfl) (fun _ _ _ h => h) (Or.inl ⟨by rfl, ?_⟩) ?_ ?_
        rotate_left
        · intro w'
          go_simp
          with_reducible rfl
        rotate_left
        · simp only [Act.put, List.setIfInBounds_toArray, List.set_cons_zero, List.set_cons_succ, i64_w, i32_w]
          rfl
        refine pure_ (i := 1) (N := some 20) (v := ?_) (a' := ?_) #[true, true, false, false, false, false, false, false, false, false, false] rfl rfl (by kernel_rfl) (fun _ _ _ h => h) (Or.inl ⟨by rfl, ?_⟩) ?_ ?_
        rotate_left
        · intro w'
          go_simp
          with_reducible rfl
        rotate_left
        · simp only [Act.put, List.setIfInBounds_toArray, List.set_cons_zero, List.set_cons_succ, i64_w, i32_w]
          rfl
        refine pure_ (i := 3) (N := some 22) (v := ?_) (a' := ?_) #[true, true, false, true, false, false, false, false, false, false, false] rfl rfl (by kernel_rfl) (fun _ _ _ h => h) (Or.inl ⟨by rfl, ?_⟩) ?_ ?_
        rotate_left
        · intro w'
          go_simp
          with_reducible rfl
        rotate_left
        · simp only [Act.put, List.setIfInBounds_toArray, List.set_cons_zero, List.set_cons_succ, i64_w, i32_w]
          rfl
        refine pure_ (i := 7) (N := some 26) (v := ?_) (a' := ?_) #[true, true, false, true, false, false, false, true, false, false, false] rfl rfl (by kernel_rfl) (fun _ _ _ h => h) (Or.inl ⟨by rfl, ?_⟩) ?_ ?_
        rotate_left
        · intro w'
          go_simp
          with_reducible rfl
        rotate_left
        · simp only [Act.put, List.setIfInBounds_toArray, List.set_cons_zero, List.set_cons_succ, i64_w, i32_w]
          rfl
        refine take_ (i := 4) (N := some 23) (v := ?_) (a' := ?_) #[true, true, false, true, true, false, false, true, false, false, false] rfl rfl (by kernel_rfl) (fun _ _ _ h => h) (Or.inl ⟨by rfl, ?_⟩) hHeld ?_ ?_
        rotate_left
        · rintro w' ⟨s0, s1, s2⟩
          go_simp
          with_reducible rfl
        rotate_left
        · simp only [Act.put, List.setIfInBounds_toArray, List.set_cons_zero, List.set_cons_succ, i64_w, i32_w]
          rfl
        refine pure_ (i := 5) (N := some 24) (v := ?_) (a' := ?_) #[true, true, false, true, true, true, false, true, false, false, false] rfl rfl (by kernel_rfl) (fun _ _ _ h => h) (Or.inl ⟨by rfl, ?_⟩) ?_ ?_
        rotate_left
        · intro w'
          go_simp
          with_reducible rfl
        rotate_left
        · simp only [Act.put, List.setIfInBounds_toArray, List.set_cons_zero, List.set_cons_succ, i64_w, i32_w]
          rfl
        refine take_ (i := 8) (N := some 27) (v := ?_) (a' := ?_) #[true, true, false, true, true, true, false, true, true, false, false] rfl rfl (by kernel_rfl) (fun _ _ _ h => h) (Or.inl ⟨by rfl, ?_⟩) hHeld ?_ ?_
        rotate_left
        · rintro w' ⟨s0, s1, s2⟩
          go_simp
          with_reducible rfl
        rotate_left
        · simp only [Act.put, List.setIfInBounds_toArray, List.set_cons_zero, List.set_cons_succ, i64_w, i32_w]
          rfl
        refine one_ (i := 2) (N := some 21) #[true, true, true, true, true, true, false, true, true, false, false] rfl rfl (by kernel_rfl) (by decide) (fun K hK => ?_)
        refine goes_ Tryd.func50 (by kernel_rfl) rfl #[u3, .int .i64 0] (by rfl) rfl rfl (by simp only [List.map_toArray, List.map_cons, List.map_nil]; rfl) ?_
        refine (number_says (fun k => k ≠ wr.heap.size) u3 (xs) 0 w w7 hb7 hr7 N1 K1).mono ?_
        rintro e w8 ⟨v8, rfl, hr8, hb8, hk8⟩
        refine ⟨_, rfl, ?_⟩
        have hg8 := blk_kept hg7 hk8 (fun h => h rfl)
        have hr8 := Kd.R_mono (ok' := fun k => k ≠ wr.heap.size) hr8 (fun k hk => hk.elim id (fun h => by have := blk_lt hg7; omega))
        refine hK.out _ _ ⟨hg8, blk_cell hg8 0, blk_cell hg8 1⟩ (fun hHeld => ?_)
        clear hK K
        refine norm_ (a' := ?_) ?_ ?_
        rotate_left
        · show Act.put _ (some 21) _ = _
          simp only [Act.put, List.setIfInBounds_toArray, List.set_cons_zero, List.set_cons_succ, i64_w, i32_w]
          rfl
        refine one_ (i := 6) (N := some 25) #[true, true, true, true, true, true, true, true, true, false, false] rfl rfl (by kernel_rfl) (by decide) (fun K hK => ?_)
        refine goes_ Tryd.func50 (by kernel_rfl) rfl #[v8, .int .i64 (f0.size : Int)] (by rfl) rfl rfl (by simp only [List.map_toArray, List.map_cons, List.map_nil]; rfl) ?_
        refine (number_says (fun k => k ≠ wr.heap.size) v8 (xs ++ four 0) (f0.size : Int) w w8 hb8 hr8 N2 K2).mono ?_
        rintro e w9 ⟨v9, rfl, hr9, hb9, hk9⟩
        refine ⟨_, rfl, ?_⟩
        have hg9 := blk_kept hg8 hk9 (fun h => h rfl)
        have hr9 := Kd.R_mono (ok' := fun k => k ≠ wr.heap.size) hr9 (fun k hk => hk.elim id (fun h => by have := blk_lt hg8; omega))
        refine hK.out _ _ ⟨hg9, blk_cell hg9 0, blk_cell hg9 1⟩ (fun hHeld => ?_)
        clear hK K
        refine norm_ (a' := ?_) ?_ ?_
        rotate_left
        · show Act.put _ (some 25) _ = _
          simp only [Act.put, List.setIfInBounds_toArray, List.set_cons_zero, List.set_cons_succ, i64_w, i32_w]
          rfl
        refine one_ (i := 9) (N := some 28) #[true, true, true, true, true, true, true, true, true, true, false] rfl rfl (by kernel_rfl) (by decide) (fun K hK => ?_)
        refine append_str_step (W := w9) w.heap.size ?hw (.tmp 25) (.tmp 27) 22 9 5 rfl Tryd.underlying22 Tryd.underlying9 (show (Tryd.prog.info? 5).map (fun i => (i.zero, i.size, i.bytes)) = some (some (.int .u8 0), 1, 1) by kernel_rfl) v9 (xs ++ four 0 ++ four (f0.size : Int)) f0 rfl rfl hr9 hb9.size K3 ?_
        (case hw => rfl)
        intro v10 w10 hr10 hgw10
        obtain ⟨ys10, hys10⟩ : ∃ ys, ys = xs ++ four 0 ++ four (f0.size : Int) ++ bytesOf f0 := ⟨_, rfl⟩
        rw [← hys10] at hr10
        have Hys10 := Lib.hid hys10
        clear hys10
        obtain ⟨Aq10, cq10, eq10⟩ := Kd.R_slice hr10
        subst eq10
        have hg10 := blk_grown hg9 hgw10 (fun e => absurd rfl (hr9.1 _ e.symm))
        have hb10 := hb9.grown hgw10 hb9.size (fun k e => Kd.R_base hr9 k e)
        refine hK.out _ _ ⟨hg10, blk_cell hg10 0, blk_cell hg10 1⟩ (fun hHeld => ?_)
        clear hK K
        refine norm_ (a' := ?_) ?_ ?_
        rotate_left
        · show Act.put _ (some 28) _ = _
          simp only [Act.put, List.setIfInBounds_toArray, List.set_cons_zero, List.set_cons_succ, i64_w, i32_w]
          rfl
        refine pure_ (i := 10) (N := some 3) (v := ?_) (a' := ?_) #[true, true, true, true, true, true, true, true, true, true, true] rfl rfl (by kernel_rfl) (fun _ _ _ h => h) (Or.inl ⟨by rfl, ?_⟩) ?_ ?_
        rotate_left
        · intro w'
          go_simp
          with_reducible rfl
        rotate_left
        · simp only [Act.put, List.setIfInBounds_toArray, List.set_cons_zero, List.set_cons_succ, i64_w, i32_w]
          rfl
        refine done_ (by kernel_rfl) ?_
        go_wp2_with fail
        have hyl : ys10.length = xs.length + 8 + f0.size := by rw [(show ys10 = xs ++ four 0 ++ four (f0.size : Int) ++ bytesOf f0 from Hys10), List.length_append, List.length_append, List.length_append, bytesOf_length]; rfl
        have L0 : xs.length + 12 + f0.size + f1.size ≤ 1000000000 := L1
        have K4 := Lib.hid (show ys10.length + 4 < 140737488355328 by omega)
        have K5 := Lib.hid (show (ys10 ++ four (f1.size : Int)).length + f1.size ≤ 140737488355328 by rw [List.length_append]; show ys10.length + 4 + _ ≤ _; omega)
        clear hyl L0
        have hr11 : Kd.R (Kd.int .u8) 5 w10.drew w.heap.size (fun k => k ≠ wr.heap.size) _ ys10 := Kd.R_drew (R_own_ok hr10 (fun k hk => by obtain ⟨cs, hc⟩ := Kd.R_typed hr10 k hk; exact blk_ne hc hg10 (by decide)))
        have hb11 : Below w.heap.size w w10.drew := below_drew hb10
        have hg11 : w10.drew.heap[wr.heap.size]? = _ := hg10
        refine start_ (n := 9) (S := fun w' => w'.heap[wr.heap.size]? = some (.cells #[.string f0, .string f1, .bool false] 49 (0, 0)) ∧ w'.cell? ⟨wr.heap.size, 0, none⟩ = some (.string f0) ∧ w'.cell? ⟨wr.heap.size, 1, none⟩ = some (.string f1)) (ds := []) #[false, false, false, false, false, false, false, false, false] (by kernel_rfl) rfl rfl ⟨hg11, blk_cell hg11 0, blk_cell hg11 1⟩ (fun hHeld => ?_)
        generalize w10.drew = w11 at hg11 hb11 hr11 hHeld ⊢
        refine pure_ (i := 0) (N := some 29) (v := ?_) (a' := ?_) #[true, false, false, false, false, false, false, false, false] rfl rfl (by kernel_rfl) (fun _ _ _ h => h) (Or.inl ⟨by rfl, ?_⟩) ?_ ?_
        rotate_left
        · intro w'
          go_simp
          with_reducible rfl
        rotate_left
        · simp only [Act.put, List.setIfInBounds_toArray, List.set_cons_zero, List.set_cons_succ, i64_w, i32_w]
          rfl
        refine pure_ (i := 1) (N := some 30) (v := ?_) (a' := ?_) #[true, true, false, false, false, false, false, false, false] rfl rfl (by kernel_rfl) (fun _ _ _ h => h) (Or.inl ⟨by rfl, ?_⟩) ?_ ?_
        rotate_left
        · intro w'
          go_simp
          with_reducible rfl
        rotate_left
        · simp only [Act.put, List.setIfInBounds_toArray, List.set_cons_zero, List.set_cons_succ, i64_w, i32_w]
          rfl
        refine pure_ (i := 5) (N := some 34) (v := ?_) (a' := ?_) #[true, true, false, false, false, true, false, false, false] rfl rfl (by kernel_rfl) (fun _ _ _ h => h) (Or.inl ⟨by rfl, ?_⟩) ?_ ?_
        rotate_left
        · intro w'
          go_simp
          with_reducible rfl
        rotate_left
        · simp only [Act.put, List.setIfInBounds_toArray, List.set_cons_zero, List.set_cons_succ, i64_w, i32_w]
          rfl
        refine take_ (i := 2) (N := some 31) (v := ?_) (a' := ?_) #[true, true, true, false, false, true, false, false, false] rfl rfl (by kernel_rfl) (fun _ _ _ h => h) (Or.inl ⟨by rfl, ?_⟩) hHeld ?_ ?_
        rotate_left
        · rintro w' ⟨s0, s1, s2⟩
          go_simp
          with_reducible rfl
        rotate_left
        · simp only [Act.put, List.setIfInBounds_toArray, List.set_cons_zero, List.set_cons_succ, i64_w, i32_w]
          rfl
        refine pure_ (i := 3) (N := some 32) (v := ?_) (a' := ?_) #[true, true, true, true, false, true, false, false, false] rfl rfl (by kernel_rfl) (fun _ _ _ h => h) (Or.inl ⟨by rfl, ?_⟩) ?_ ?_
        rotate_left
        · intro w'
          go_simp
          with_reducible rfl
        rotate_left
        · simp only [Act.put, List.setIfInBounds_toArray, List.set_cons_zero, List.set_cons_succ, i64_w, i32_w]
          rfl
        refine take_ (i := 6) (N := some 35) (v := ?_) (a' := ?_) #[true, true, true, true, false, true, true, false, false] rfl rfl (by kernel_rfl) (fun _ _ _ h => h) (Or.inl ⟨by rfl, ?_⟩) hHeld ?_ ?_
        rotate_left
        · rintro w' ⟨s0, s1, s2⟩
          go_simp
          with_reducible rfl
        rotate_left
        · simp only [Act.put, List.setIfInBounds_toArray, List.set_cons_zero, List.set_cons_succ, i64_w, i32_w]
          rfl
        refine one_ (i := 4) (N := some 33) #[true, true, true, true, true, true, true, false, false] rfl rfl (by kernel_rfl) (by decide) (fun K hK => ?_)
        refine goes_ Tryd.func50 (by kernel_rfl) rfl #[(.slice Aq10 ys10.length cq10), .int .i64 (f1.size : Int)] (by rfl) rfl rfl (by simp only [List.map_toArray, List.map_cons, List.map_nil]; rfl) ?_
        refine (number_says (fun k => k ≠ wr.heap.size) (.slice Aq10 ys10.length cq10) (ys10) (f1.size : Int) w w11 hb11 hr11 N3 K4).mono ?_
        rintro e w12 ⟨v12, rfl, hr12, hb12, hk12⟩
        refine ⟨_, rfl, ?_⟩
        have hg12 := blk_kept hg11 hk12 (fun h => h rfl)
        have hr12 := Kd.R_mono (ok' := fun k => k ≠ wr.heap.size) hr12 (fun k hk => hk.elim id (fun h => by have := blk_lt hg11; omega))
        refine hK.out _ _ ⟨hg12, blk_cell hg12 0, blk_cell hg12 1⟩ (fun hHeld => ?_)
        clear hK K
        refine norm_ (a' := ?_) ?_ ?_
        rotate_left
        · show Act.put _ (some 33) _ = _
          simp only [Act.put, List.setIfInBounds_toArray, List.set_cons_zero, List.set_cons_succ, i64_w, i32_w]
          rfl
        refine one_ (i := 7) (N := some 36) #[true, true, true, true, true, true, true, true, false] rfl rfl (by kernel_rfl) (by decide) (fun K hK => ?_)
        refine append_str_step (W := w12) w.heap.size ?hw (.tmp 33) (.tmp 35) 22 9 5 rfl Tryd.underlying22 Tryd.underlying9 (show (Tryd.prog.info? 5).map (fun i => (i.zero, i.size, i.bytes)) = some (some (.int .u8 0), 1, 1) by kernel_rfl) v12 (ys10 ++ four (f1.size : Int)) f1 rfl rfl hr12 hb12.size K5 ?_
        (case hw => rfl)
        intro v13 w13 hr13 hgw13
        obtain ⟨ys13, hys13⟩ : ∃ ys, ys = ys10 ++ four (f1.size : Int) ++ bytesOf f1 := ⟨_, rfl⟩
        rw [← hys13] at hr13
        have Hys13 := Lib.hid hys13
        clear hys13
        obtain ⟨Aq13, cq13, eq13⟩ := Kd.R_slice hr13
        subst eq13
        have hg13 := blk_grown hg12 hgw13 (fun e => absurd rfl (hr12.1 _ e.symm))
        have hb13 := hb12.grown hgw13 hb12.size (fun k e => Kd.R_base hr12 k e)
        refine hK.out _ _ ⟨hg13, blk_cell hg13 0, blk_cell hg13 1⟩ (fun hHeld => ?_)
        clear hK K
        refine norm_ (a' := ?_) ?_ ?_
        rotate_left
        · show Act.put _ (some 36) _ = _
          simp only [Act.put, List.setIfInBounds_toArray, List.set_cons_zero, List.set_cons_succ, i64_w, i32_w]
          rfl
        refine pure_ (i := 8) (N := some 3) (v := ?_) (a' := ?_) #[true, true, true, true, true, true, true, true, true] rfl rfl (by kernel_rfl) (fun _ _ _ h => h) (Or.inl ⟨by rfl, ?_⟩) ?_ ?_
        rotate_left
        · intro w'
          go_simp
          with_reducible rfl
        rotate_left
        · simp only [Act.put, List.setIfInBounds_toArray, List.set_cons_zero, List.set_cons_succ, i64_w, i32_w]
          rfl
        refine done_ (by kernel_rfl) ?_
        go_wp2_with fail
        refine ⟨⟨i + 1, rfl, Hi, ?_, hb13⟩, ?_⟩
        · rw [(show four (l.length : Int) ++ (l.take (i + 1)).flatMap chgL = xs ++ chgL _ from Hfin)]
          have e : xs ++ chgL ⟨f0, f1, false⟩ = ys13 := by rw [(show ys13 = _ from Hys13), (show ys10 = _ from Hys10)]; simp [chgL, bytesOf]
          rw [e]
          exact hr13
        · have := (show i + 1 ≤ l.length from Hi); simp only [intOf]; omega
-- F]
    · have d1 : decide ((i : Int) < (l.length : Int)) = false := decide_eq_false (by omega)
      have hil : i = l.length := by omega
      subst hil
      rw [List.take_length] at hr
      go_wp2_with fail
      go_ret
      exact ⟨_, rfl, hr, hb⟩
end Go.Proofs.YtkmokcfnfhabgaaDoor.X
