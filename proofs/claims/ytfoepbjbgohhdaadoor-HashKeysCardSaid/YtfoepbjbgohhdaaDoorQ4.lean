-- Written by a program of this session (wip/xprint.py) over the kit's print.py; Lean checks it.
import Derived.Test.YtfoepbjbgohhdaaDoorQ0
import Derived.Test.YtfoepbjbgohhdaaDoorQ2
import Derived.Test.YtfoepbjbgohhdaaDoorQ3
namespace Go.Proofs.YtfoepbjbgohhdaaDoor.Q
open Go.RowKit Go.Proofs.YtfoepbjbgohhdaaDoorW.PrintWords Go.Proofs.YtfoepbjbgohhdaaDoorW.PrintLast Go.Proofs.YtfoepbjbgohhdaaDoorW.PrintMore
attribute [local go_sem] max2_int min2_int max_two min_two max_three min_three max_four min_four   -- for this text's walks alone
open Go.Proofs.YtfoepbjbgohhdaaDoor.X
set_option linter.unusedVariables false
set_option linter.unusedSimpArgs false

/-! ### hash_with: function 24, by hand -/
set_option maxHeartbeats 4000000 in
set_option maxRecDepth 100000 in
theorem hash_with.says (b : ByteArray) (hb : b.size ≤ 64) (c : Int) (w : World) : Calls Tryd.prog 24 #[.string b, .int .u8 c] w fun e w' => e = .returned (.string (withS b c)) ∧ Below w.heap.size w w' := by
  go_enter Tryd.func24, Tryd.ntmps24
  go_upto_region 2 with fail
  refine wp_world ?_
  intro w1 hw1
  have hA1 : ArrK .u8 w1 w.heap.size 38 (List.replicate 64 0) := by rw [hw1]; exact arr_new w 38 (List.replicate 64 0) rfl
  have hb1 : Below w.heap.size w w1 := by rw [hw1]; exact (Below.refl _ _).alloc (Nat.le_refl _) _
  clear hw1
  go_upto_region 3 with (refine wpList_copy_str hA1 rfl (.tmp 7) (.tmp 8) 27 9 5 rfl Tryd.underlying27 rfl 64 64 rfl b rfl hb (by simpa using hb) ?_)
  refine wp_world ?_
  intro w2 hw2
  have hA2 : ArrK .u8 w2 w.heap.size 38 (copied b (List.replicate 64 0)) := by rw [hw2]; exact arr_setRow hA1 _
  have hb2 : Below w.heap.size w w2 := by rw [hw2]; exact below_setRow hb1 (Nat.le_refl _) _
  have lx := copied_length b (List.replicate 64 0) (by simpa using hb)
  rw [List.length_replicate] at lx
  clear hw2 hA1 hb1
  obtain ⟨xs, hxs⟩ : ∃ xs, xs = copied b (List.replicate 64 0) := ⟨_, rfl⟩
  rw [← hxs] at hA2 lx
  have Hxs := Lib.hid hxs
  clear hxs
  go_upto_region 4 with fail
  go_loopw [10] (fun v10 wr => ∃ i : Nat, i ≤ 64 ∧ v10 = .int .i64 i ∧ ArrK .u8 wr w.heap.size 38 (xorTo c xs i) ∧ Below w.heap.size w wr) (fun v10 _ => 64 - (intOf v10).toNat)
  case atStart => exact ⟨0, by omega, rfl, hA2, hb2⟩
  case round =>
    clear hA2 hb2
    obtain ⟨i, hi, rfl, hA, hb⟩ := hrel
    have ly := (xorTo_length c xs i).trans lx
    obtain ⟨ys, hys⟩ : ∃ ys, ys = xorTo c xs i := ⟨_, rfl⟩
    rw [← hys] at hA ly
    have Hys := Lib.hid hys
    clear hys
    by_cases hlt : i < 64
    · have hdec : decide ((i : Int) < 64) = true := by simp; omega
      have b0 : ((i : Int) < 64) = True := eq_true (by omega)
      have c0 := arr_cell hA i (by omega)
      have f0 := arr_frozen hA i
      have LY := Lib.hid ly
      clear ly lx
      go_upto_region 6 with fail
      go_wp2_with fail
      have hrow : ArrK .u8 (wr.setCell ⟨w.heap.size, i, none⟩ (.int .u8 (Go.bits .xor .u8 (rd ys (i : Int)) c))) w.heap.size 38 (xorTo c xs (i + 1)) := by
        rw [xorTo_succ, ← (show ys = xorTo c xs i from Hys)]
        exact arr_set hA i _
      exact ⟨⟨i + 1, by omega, by go_num, hrow, hb.setCell (p := ⟨w.heap.size, i, none⟩) (Nat.le_refl _) _⟩, by simp [intOf]; omega⟩
    · obtain rfl : i = 64 := by omega
      have hcv := own_string (P := Tryd.prog) Tryd.underlying27 Tryd.underlying5 Tryd.underlying9 (arr_owns hA (by rw [ly]; decide) 64 ly.symm)
      have LY := Lib.hid ly
      clear ly lx
      go_wp2_with fail
      go_ret
      exact ⟨by rw [withS, show ys = xorTo c xs 64 from Hys, show xs = copied b (List.replicate 64 0) from Hxs]; rfl, hb⟩
def hash_with.f (a0 : ByteArray) (a1 : Int) : Option (ByteArray) := if a0.size ≤ 64 then some (withS a0 a1) else none
theorem hash_with.calls (a0 : ByteArray) (a1 : Int) (r : ByteArray) (w : World) (h : hash_with.f a0 a1 = some r) :
    Calls Tryd.prog 24 #[.string a0, .int .u8 a1] w fun e w' => e = .returned (.string r) ∧ Below w.heap.size w w' := by
  unfold hash_with.f at h
  split at h
  case isTrue hs =>
    obtain rfl := Option.some.inj h
    exact hash_with.says a0 hs a1 w
  case isFalse hs => exact absurd h (by simp)

/-! ### hash_Mac: function 11, by hand -/
set_option maxHeartbeats 4000000 in
set_option maxRecDepth 100000 in
theorem hash_Mac.says (key b : ByteArray) (hk : key.size ≤ 1000000000) (hb : b.size ≤ 999999000) (w : World) (hG : GL w) : Calls Tryd.prog 11 #[.string key, .string b] w fun e w' => e = .returned (.string (macS key b)) ∧ Below w.heap.size w w' := by
  go_enter Tryd.func11, Tryd.ntmps11
  go_upto_if 7 with (fail)
  go_cut [0] from 5 (fun v0 wx => v0 = .string (keyS key) ∧ Below w.heap.size w wx)
  case first =>
    by_cases hgt : 64 < key.size
    · have hdec : decide ((64 : Int) < (key.size : Int)) = true := by simp; omega
      go_wp2_with fail
      refine (hash_Sum.says key hk w hG).mono ?_
      rintro e w1 ⟨rfl, hb1⟩
      go_wp2_with fail
      go_meet
      case rel => exact ⟨by rw [keyS, if_pos hgt], hb1⟩
    · have hdec : decide ((64 : Int) < (key.size : Int)) = false := by simp; omega
      go_wp2_with fail
      go_meet
      case rel => exact ⟨by rw [keyS, if_neg hgt], Below.refl _ _⟩
  case rest =>
    obtain ⟨rfl, hbw⟩ := hcut
    have hks := keyS_size key
    have hGc := hG.below hbw
    obtain ⟨kk, hkk⟩ : ∃ kk, kk = keyS key := ⟨_, rfl⟩
    rw [← hkk] at hks ⊢
    have Hkk := Lib.hid hkk
    clear hkk
    have s1 := withS_size kk 54 hks
    have s2 := withS_size kk 92 hks
    have s3 := sumS_size (withS kk 54 ++ b).data.toList
    have hz1 : (withS kk 54 ++ b).size ≤ 1000000000 := by rw [ByteArray.size_append]; omega
    have hz2 : (withS kk 92 ++ sumS (withS kk 54 ++ b).data.toList).size ≤ 1000000000 := by rw [ByteArray.size_append]; omega
    have g1 : (9223372036854775807 < (withS kk 54).size + b.size) = False := eq_false (by omega)
    have g2 : ∀ l, (9223372036854775807 < (withS kk 92).size + (sumS l).size) = False := fun l => eq_false (by rw [sumS_size]; omega)
    clear s1 s2 s3
    go_wp2_with fail
    refine (hash_with.says kk hks 92 wc).mono ?_
    rintro e w1 ⟨rfl, hb1⟩
    go_wp2_with fail
    refine (hash_with.says kk hks 54 w1).mono ?_
    rintro e w2 ⟨rfl, hb2⟩
    have hb2t := below_then hb1 hb1.size hb2
    clear hb2
    go_wp2_with fail
    refine (hash_Sum.says _ hz1 w2 (hGc.below hb2t)).mono ?_
    rintro e w3 ⟨rfl, hb3⟩
    have hb3t := below_then hb2t hb2t.size hb3
    clear hb3
    go_wp2_with fail
    refine (hash_Sum.says _ hz2 w3 (hGc.below hb3t)).mono ?_
    rintro e w4 ⟨rfl, hb4⟩
    have hb4t := below_then hb3t hb3t.size hb4
    go_wp2_with fail
    go_ret
    exact ⟨by rw [macS, ← (show kk = keyS key from Hkk)]; rfl, below_then hbw hbw.size hb4t⟩
def hash_Mac.f (a0 a1 : ByteArray) : Option (ByteArray) := if a0.size ≤ 1000000000 ∧ a1.size ≤ 999999000 then some (macS a0 a1) else none
theorem hash_Mac.calls (a0 : ByteArray) (a1 : ByteArray) (r : ByteArray) (w : World) (h : hash_Mac.f a0 a1 = some r) (hGL : GL w) :
    Calls Tryd.prog 11 #[.string a0, .string a1] w fun e w' => e = .returned (.string r) ∧ Below w.heap.size w w' := by
  unfold hash_Mac.f at h
  split at h
  case isTrue hs =>
    obtain rfl := Option.some.inj h
    exact hash_Mac.says a0 a1 hs.1 hs.2 w hGL
  case isFalse hs => exact absurd h (by simp)

/-! ### exequaturref01_Mac: function 12, by hand -/
set_option maxHeartbeats 4000000 in
set_option maxRecDepth 100000 in
theorem exequaturref01_Mac.says (key b : ByteArray) (hk : key.size ≤ 1000000000) (hb : b.size ≤ 999999000) (w : World) : Calls Tryd.prog 12 #[.string key, .string b] w fun e w' => e = .returned (.string (macS key b)) ∧ Below w.heap.size w w' := by
  go_enter Tryd.func12, Tryd.ntmps12
  go_upto_if 10 with (fail)
  go_cut [0] from 8 (fun v0 wx => v0 = .string (keyS key) ∧ Below w.heap.size w wx)
  case first =>
    by_cases hgt : 64 < key.size
    · have hdec : decide ((64 : Int) < (key.size : Int)) = true := by simp; omega
      go_wp2_with fail
      refine (exequaturref01_Sum.says key hk w).mono ?_
      rintro e w1 ⟨rfl, hb1⟩
      go_wp2_with fail
      go_meet
      case rel => exact ⟨by rw [keyS, if_pos hgt], hb1⟩
    · have hdec : decide ((64 : Int) < (key.size : Int)) = false := by simp; omega
      go_wp2_with fail
      go_meet
      case rel => exact ⟨by rw [keyS, if_neg hgt], Below.refl _ _⟩
  case rest =>
    obtain ⟨rfl, hbw⟩ := hcut
    have hks := keyS_size key
    obtain ⟨kk, hkk⟩ : ∃ kk, kk = keyS key := ⟨_, rfl⟩
    rw [← hkk] at hks ⊢
    have Hkk := Lib.hid hkk
    clear hkk
    go_upto_region 4 with fail
    refine wp_world ?_
    intro w1 hw1
    have hI1 : ArrK .u8 w1 wc.heap.size 38 (List.replicate 64 0) := by rw [hw1]; exact arr_alloc (arr_new wc 38 (List.replicate 64 0) rfl) _
    have hO1 : ArrK .u8 w1 (wc.heap.size + 1) 38 (List.replicate 64 0) := by rw [hw1]; exact arr_new _ 38 (List.replicate 64 0) (by simp)
    have hb1 : Below wc.heap.size wc w1 := by rw [hw1]; exact ((Below.refl _ _).alloc (Nat.le_refl _) _).alloc (by simp) _
    clear hw1
    go_upto_region 5 with (refine wpList_copy_str hI1 rfl (.tmp 13) (.tmp 14) 27 9 5 rfl Tryd.underlying27 rfl 64 64 rfl kk rfl hks (by simpa using hks) ?_)
    refine wp_world ?_
    intro w2 hw2
    have hI2 : ArrK .u8 w2 wc.heap.size 38 (copied kk (List.replicate 64 0)) := by rw [hw2]; exact arr_setRow hI1 _
    have hO2 : ArrK .u8 w2 (wc.heap.size + 1) 38 (List.replicate 64 0) := by rw [hw2]; exact arr_setRow_far hO1 (by omega) _
    have hb2 : Below wc.heap.size wc w2 := by rw [hw2]; exact below_setRow hb1 (Nat.le_refl _) _
    clear hw2 hI1 hO1 hb1
    go_upto_region 6 with (refine wpList_copy_str hO2 rfl (.tmp 16) (.tmp 17) 27 9 5 rfl Tryd.underlying27 rfl 64 64 rfl kk rfl hks (by simpa using hks) ?_)
    refine wp_world ?_
    intro w3 hw3
    have hO3 : ArrK .u8 w3 (wc.heap.size + 1) 38 (copied kk (List.replicate 64 0)) := by rw [hw3]; exact arr_setRow hO2 _
    have hI3 : ArrK .u8 w3 wc.heap.size 38 (copied kk (List.replicate 64 0)) := by rw [hw3]; exact arr_setRow_far hI2 (by omega) _
    have hb3 : Below wc.heap.size wc w3 := by rw [hw3]; exact below_setRow hb2 (by omega) _
    clear hw3 hI2 hO2 hb2
    have lx := copied_length kk (List.replicate 64 0) (by simpa using hks)
    rw [List.length_replicate] at lx
    obtain ⟨xs, hxs⟩ : ∃ xs, xs = copied kk (List.replicate 64 0) := ⟨_, rfl⟩
    rw [← hxs] at hI3 hO3 lx
    have Hxs := Lib.hid hxs
    clear hxs
    go_upto_region 7 with fail
    go_loopw [7] (fun v7 wr => ∃ i : Nat, i ≤ 64 ∧ v7 = .int .i64 i ∧ ArrK .u8 wr wc.heap.size 38 (xorTo 54 xs i) ∧ ArrK .u8 wr (wc.heap.size + 1) 38 (xorTo 92 xs i) ∧ Below wc.heap.size wc wr) (fun v7 _ => 64 - (intOf v7).toNat)
    case atStart => exact ⟨0, by omega, rfl, hI3, hO3, hb3⟩
    case round =>
      clear hI3 hO3 hb3
      obtain ⟨i, hi, rfl, hI, hO, hb⟩ := hrel
      have ly := (xorTo_length 54 xs i).trans lx
      have lz := (xorTo_length 92 xs i).trans lx
      obtain ⟨ys, hys⟩ : ∃ ys, ys = xorTo 54 xs i := ⟨_, rfl⟩
      rw [← hys] at hI ly
      have Hys := Lib.hid hys
      obtain ⟨zs, hzs⟩ : ∃ zs, zs = xorTo 92 xs i := ⟨_, rfl⟩
      rw [← hzs] at hO lz
      have Hzs := Lib.hid hzs
      clear hys hzs
      by_cases hlt : i < 64
      · have hdec : decide ((i : Int) < 64) = true := by simp; omega
        have b0 : ((i : Int) < 64) = True := eq_true (by omega)
        have c0 := arr_cell hI i (by omega)
        have f0 := arr_frozen hI i
        have LZ := Lib.hid lz
        clear ly lx lz
        go_upto_region 10 with fail
        refine wp_world ?_
        intro w4 hw4
        have hI4 : ArrK .u8 w4 wc.heap.size 38 (xorTo 54 xs (i + 1)) := by
          rw [hw4, xorTo_succ, ← (show ys = xorTo 54 xs i from Hys)]
          exact arr_set hI i _
        have hO4 : ArrK .u8 w4 (wc.heap.size + 1) 38 zs := by rw [hw4]; exact arr_far hO (by show wc.heap.size + 1 ≠ wc.heap.size; omega) _
        have hb4 : Below wc.heap.size wc w4 := by rw [hw4]; exact hb.setCell (p := ⟨wc.heap.size, i, none⟩) (Nat.le_refl _) _
        clear hw4 hI hO hb c0 f0
        have lz : zs.length = 64 := LZ
        have c0 := arr_cell hO4 i (by omega)
        have f0 := arr_frozen hO4 i
        clear lz
        go_upto_region 8 with fail
        refine wp_world ?_
        intro w5 hw5
        have hO5 : ArrK .u8 w5 (wc.heap.size + 1) 38 (xorTo 92 xs (i + 1)) := by
          rw [hw5, xorTo_succ, ← (show zs = xorTo 92 xs i from Hzs)]
          exact arr_set hO4 i _
        have hI5 : ArrK .u8 w5 wc.heap.size 38 (xorTo 54 xs (i + 1)) := by rw [hw5]; exact arr_far hI4 (by show wc.heap.size ≠ wc.heap.size + 1; omega) _
        have hb5 : Below wc.heap.size wc w5 := by rw [hw5]; exact hb4.setCell (p := ⟨wc.heap.size + 1, i, none⟩) (by show wc.heap.size ≤ wc.heap.size + 1; omega) _
        clear hw5 hI4 hO4 hb4 c0 f0
        go_wp2_with fail
        exact ⟨⟨i + 1, by omega, by go_num, hI5, hO5, hb5⟩, by simp [intOf]; omega⟩
      · obtain rfl : i = 64 := by omega
        go_upto_region 11 with fail
        have eI : strOfNums ys = withS kk 54 := by rw [withS, show ys = xorTo 54 xs 64 from Hys, show xs = copied kk (List.replicate 64 0) from Hxs]
        have eO : strOfNums zs = withS kk 92 := by rw [withS, show zs = xorTo 92 xs 64 from Hzs, show xs = copied kk (List.replicate 64 0) from Hxs]
        have hcvI : ∀ w', Below wr.heap.size wr w' → Sem.run Tryd.prog (convert 27 9 (.slice (some ⟨wc.heap.size, 0, none⟩) 64 64)) w' = .ok (.string (withS kk 54)) w' := fun w' h => by
          rw [← eI]; exact own_string (P := Tryd.prog) Tryd.underlying27 Tryd.underlying5 Tryd.underlying9 (arr_owns (arr_below hI h) (by rw [ly]; decide) 64 ly.symm)
        have hcvO : ∀ w', Below wr.heap.size wr w' → Sem.run Tryd.prog (convert 27 9 (.slice (some ⟨wc.heap.size + 1, 0, none⟩) 64 64)) w' = .ok (.string (withS kk 92)) w' := fun w' h => by
          rw [← eO]; exact own_string (P := Tryd.prog) Tryd.underlying27 Tryd.underlying5 Tryd.underlying9 (arr_owns (arr_below hO h) (by rw [lz]; decide) 64 lz.symm)
        have hbF := below_then hbw hbw.size hb
        have s1 := withS_size kk 54 hks
        have s2 := withS_size kk 92 hks
        have s3 := sumS_size (withS kk 54 ++ b).data.toList
        have hz1 : (withS kk 54 ++ b).size ≤ 1000000000 := by rw [ByteArray.size_append]; omega
        have hz2 : (withS kk 92 ++ sumS (withS kk 54 ++ b).data.toList).size ≤ 1000000000 := by rw [ByteArray.size_append]; omega
        clear ly lz lx eI eO hI hO hb
        have g1 : (9223372036854775807 < (withS kk 54).size + b.size) = False := eq_false (by omega)
        have g2 : ∀ l, (9223372036854775807 < (withS kk 92).size + (sumS l).size) = False := fun l => eq_false (by rw [sumS_size]; omega)
        have S1 := Lib.hid s1
        have S2 := Lib.hid s2
        have S3 := Lib.hid s3
        clear s1 s2 s3
        have hb6 : Below wr.heap.size wr wr.drew := below_drew (Below.refl _ _)
        -- [11
        refine start_ (n := 10) (S := fun w' => Sem.run Tryd.prog (convert 27 9 (.slice (some ⟨wc.heap.size + 1, 0, none⟩) 64 64)) w' = .ok (.string (withS kk 92)) w' ∧ Sem.run Tryd.prog (convert 27 9 (.slice (some ⟨wc.heap.size, 0, none⟩) 64 64)) w' = .ok (.string (withS kk 54)) w') (ds := []) #[false, false, false, false, false, false, false, false, false, false] (by kernel_rfl) rfl rfl ⟨hcvO _ (below_drew (Below.refl _ _)), hcvI _ (below_drew (Below.refl _ _))⟩ (fun hHeld => ?_)
        generalize wr.drew = w6 at hb6 hHeld ⊢
        refine pure_ (i := 0) (N := some 33) (v := ?_) (a' := ?_) #[true, false, false, false, false, false, false, false, false, false] rfl rfl (by kernel_rfl) (fun _ _ _ h => h) (Or.inl ⟨by rfl, ?_⟩) ?_ ?_
        rotate_left
        · intro w'
          go_simp
          with_reducible rfl
        rotate_left
        · simp only [Act.put, List.setIfInBounds_toArray, List.set_cons_zero, List.set_cons_succ, i64_w, i32_w]
          rfl
        refine pure_ (i := 2) (N := some 35) (v := ?_) (a' := ?_) #[true, false, true, false, false, false, false, false, false, false] rfl rfl (by kernel_rfl) (fun _ _ _ h => h) (Or.inl ⟨by rfl, ?_⟩) ?_ ?_
        rotate_left
        · intro w'
          go_simp
          with_reducible rfl
        rotate_left
        · simp only [Act.put, List.setIfInBounds_toArray, List.set_cons_zero, List.set_cons_succ, i64_w, i32_w]
          rfl
        refine pure_ (i := 4) (N := some 37) (v := ?_) (a' := ?_) #[true, false, true, false, true, false, false, false, false, false] rfl rfl (by kernel_rfl) (fun _ _ _ h => h) (Or.inl ⟨by rfl, ?_⟩) ?_ ?_
        rotate_left
        · intro w'
          go_simp
          with_reducible rfl
        rotate_left
        · simp only [Act.put, List.setIfInBounds_toArray, List.set_cons_zero, List.set_cons_succ, i64_w, i32_w]
          rfl
        refine take_ (i := 1) (N := some 34) (v := ?_) (a' := ?_) #[true, true, true, false, true, false, false, false, false, false] rfl rfl (by kernel_rfl) (fun _ _ _ h => h) (Or.inl ⟨by rfl, ?_⟩) hHeld ?_ ?_
        rotate_left
        · rintro w' ⟨s0, s1⟩
          go_simp
          with_reducible rfl
        rotate_left
        · simp only [Act.put, List.setIfInBounds_toArray, List.set_cons_zero, List.set_cons_succ, i64_w, i32_w]
          rfl
        refine take_ (i := 3) (N := some 36) (v := ?_) (a' := ?_) #[true, true, true, true, true, false, false, false, false, false] rfl rfl (by kernel_rfl) (fun _ _ _ h => h) (Or.inl ⟨by rfl, ?_⟩) hHeld ?_ ?_
        rotate_left
        · rintro w' ⟨s0, s1⟩
          go_simp
          with_reducible rfl
        rotate_left
        · simp only [Act.put, List.setIfInBounds_toArray, List.set_cons_zero, List.set_cons_succ, i64_w, i32_w]
          rfl
        refine pure_ (i := 5) (N := some 38) (v := ?_) (a' := ?_) #[true, true, true, true, true, true, false, false, false, false] rfl rfl (by kernel_rfl) (fun _ _ _ h => h) (Or.inl ⟨by rfl, ?_⟩) ?_ ?_
        rotate_left
        · intro w'
          go_simp
          with_reducible rfl
        rotate_left
        · simp only [Act.put, List.setIfInBounds_toArray, List.set_cons_zero, List.set_cons_succ, i64_w, i32_w]
          rfl
        refine one_ (i := 6) (N := some 39) #[true, true, true, true, true, true, true, false, false, false] rfl rfl (by kernel_rfl) (by decide) (fun K hK => ?_)
        refine goes_ Tryd.func10 (by kernel_rfl) rfl #[.string (withS kk 54 ++ b)] (by rfl) rfl rfl (by simp only [List.map_toArray, List.map_cons, List.map_nil]; rfl) ?_
        with_reducible refine (exequaturref01_Sum.says (withS kk 54 ++ b) hz1 w6).mono ?_
        rintro e w7 ⟨rfl, hb7⟩
        refine ⟨_, rfl, ?_⟩
        have hb7t := below_then hb6 (by exact hb6.size) hb7
        refine hK.out _ _ ⟨hcvO _ hb7t, hcvI _ hb7t⟩ (fun hHeld => ?_)
        clear hK K
        refine norm_ (a' := ?_) ?_ ?_
        rotate_left
        · show Act.put _ (some 39) _ = _
          simp only [Act.put, List.setIfInBounds_toArray, List.set_cons_zero, List.set_cons_succ, i64_w, i32_w]
          rfl
        refine pure_ (i := 7) (N := some 40) (v := ?_) (a' := ?_) #[true, true, true, true, true, true, true, true, false, false] rfl rfl (by kernel_rfl) (fun _ _ _ h => h) (Or.inl ⟨by rfl, ?_⟩) ?_ ?_
        rotate_left
        · intro w'
          go_simp
          with_reducible rfl
        rotate_left
        · simp only [Act.put, List.setIfInBounds_toArray, List.set_cons_zero, List.set_cons_succ, i64_w, i32_w]
          rfl
        refine one_ (i := 8) (N := some 41) #[true, true, true, true, true, true, true, true, true, false] rfl rfl (by kernel_rfl) (by decide) (fun K hK => ?_)
        refine goes_ Tryd.func10 (by kernel_rfl) rfl #[.string (withS kk 92 ++ sumS (withS kk 54 ++ b).data.toList)] (by rfl) rfl rfl (by simp only [List.map_toArray, List.map_cons, List.map_nil]; rfl) ?_
        with_reducible refine (exequaturref01_Sum.says (withS kk 92 ++ sumS (withS kk 54 ++ b).data.toList) hz2 w7).mono ?_
        rintro e w8 ⟨rfl, hb8⟩
        refine ⟨_, rfl, ?_⟩
        have hb8t := below_then hb7t (by exact hb7t.size) hb8
        refine hK.out _ _ ⟨hcvO _ hb8t, hcvI _ hb8t⟩ (fun hHeld => ?_)
        clear hK K
        refine norm_ (a' := ?_) ?_ ?_
        rotate_left
        · show Act.put _ (some 41) _ = _
          simp only [Act.put, List.setIfInBounds_toArray, List.set_cons_zero, List.set_cons_succ, i64_w, i32_w]
          rfl
        refine pure_ (i := 9) (N := some 4) (v := ?_) (a' := ?_) #[true, true, true, true, true, true, true, true, true, true] rfl rfl (by kernel_rfl) (fun _ _ _ h => h) (Or.inl ⟨by rfl, ?_⟩) ?_ ?_
        rotate_left
        · intro w'
          go_simp
          with_reducible rfl
        rotate_left
        · simp only [Act.put, List.setIfInBounds_toArray, List.set_cons_zero, List.set_cons_succ, i64_w, i32_w]
          rfl
        refine done_ (by kernel_rfl) ?_
        -- 11]
        go_wp2_with fail
        go_ret
        exact ⟨by rw [macS, ← (show kk = keyS key from Hkk)]; rfl, below_then hbF hbF.size hb8t⟩
def exequaturref01_Mac.f (a0 a1 : ByteArray) : Option (ByteArray) := if a0.size ≤ 1000000000 ∧ a1.size ≤ 999999000 then some (macS a0 a1) else none
theorem exequaturref01_Mac.calls (a0 : ByteArray) (a1 : ByteArray) (r : ByteArray) (w : World) (h : exequaturref01_Mac.f a0 a1 = some r) :
    Calls Tryd.prog 12 #[.string a0, .string a1] w fun e w' => e = .returned (.string r) ∧ Below w.heap.size w w' := by
  unfold exequaturref01_Mac.f at h
  split at h
  case isTrue hs =>
    obtain rfl := Option.some.inj h
    exact exequaturref01_Mac.says a0 a1 hs.1 hs.2 w
  case isFalse hs => exact absurd h (by simp)

/-! ### exequaturlaw04_HashMacs: function 4 -/
def exequaturlaw04_HashMacs.j0 : Nat → ByteArray → ByteArray → Bool → Option (Bool)
  | 0, _, _, _ => none
  | k + 1, x0, x1, x12 => if x12 = true then ((exequaturlaw04_answers.f).bind fun t125 => (some t125)) else ((exequaturlaw04_answers.f).bind fun t126 => (if t126 = true then ((hash_Mac.f x0 x1).bind fun t127 => ((exequaturref01_Mac.f x0 x1).bind fun t128 => (if t127.toList = t128.toList then ((hash_Mac.f x0 x1).bind fun t129 => (some ((t129.size : Int) == 32))) else (some false)))) else (some false)))
def exequaturlaw04_HashMacs.f (k : Nat) (a0 : ByteArray) (a1 : ByteArray) : Option (Bool) := if (a1.size : Int) > 2000 then (exequaturlaw04_HashMacs.j0 k a0 a1 true) else (exequaturlaw04_HashMacs.j0 k a0 a1 (decide ((a0.size : Int) > 2000)))
theorem exequaturlaw04_HashMacs.mono_l : ∀ k, (∀ y0 y1 y2, LeO (exequaturlaw04_HashMacs.j0 k y0 y1 y2) (exequaturlaw04_HashMacs.j0 (k + 1) y0 y1 y2))
  | 0 => fun _ _ _ r h => by simp [exequaturlaw04_HashMacs.j0] at h
  | k + 1 => by
    have ih0 := exequaturlaw04_HashMacs.mono_l k
    · intro y0 y1 y2
      unfold exequaturlaw04_HashMacs.j0
      repeat' first
      | (with_reducible exact ih0 _ _ _)
      | (with_reducible exact LeO.refl _)
      | (with_reducible exact LeO.none _)
      | (with_reducible refine LeO.ite ?_ ?_)
      | (with_reducible refine LeO.bind ?_ (fun _ => ?_))
      | exact ih0 _ _ _
      | exact LeO.none _
      | refine LeO.ite ?_ ?_
      | refine LeO.bind ?_ (fun _ => ?_)
theorem exequaturlaw04_HashMacs.mono : ∀ a0 a1 k, LeO (exequaturlaw04_HashMacs.f k a0 a1) (exequaturlaw04_HashMacs.f (k + 1) a0 a1) := by
  intro a0 a1 k
  have ih0 := exequaturlaw04_HashMacs.mono_l k
  unfold exequaturlaw04_HashMacs.f
  repeat' first
      | (with_reducible exact ih0 _ _ _)
      | (with_reducible exact LeO.refl _)
      | (with_reducible exact LeO.none _)
      | (with_reducible refine LeO.ite ?_ ?_)
      | (with_reducible refine LeO.bind ?_ (fun _ => ?_))
      | exact ih0 _ _ _
      | exact LeO.none _
      | refine LeO.ite ?_ ?_
      | refine LeO.bind ?_ (fun _ => ?_)
set_option maxHeartbeats 8000000 in
set_option maxRecDepth 100000 in
theorem exequaturlaw04_HashMacs.calls (k : Nat) (a0 : ByteArray) (a1 : ByteArray) (r : Bool) (w : World) (h : exequaturlaw04_HashMacs.f k a0 a1 = some r) (hGL : GL w) :
    Calls Tryd.prog 4 #[.string a0, .string a1] w fun e w' => e = .returned (.bool r) ∧ Below w.heap.size w w' := by
  have HGL := Aside0.mk hGL
  clear hGL
  have HB := Aside0.mk (Below.refl w.heap.size w)
  have H : (if (a1.size : Int) > 2000 then (exequaturlaw04_HashMacs.j0 k a0 a1 true) else (exequaturlaw04_HashMacs.j0 k a0 a1 (decide ((a0.size : Int) > 2000)))) = some r := h
  clear h
  have HC3 := Aside0.mk H
  clear H
  go_enter Tryd.func4, Tryd.ntmps4
  go_upto_region 1 with (fail)
  go_cut [12] (fun v12 wc => ∃ (kq : Nat) (x12_2 : Bool), v12 = .bool x12_2 ∧ Aside0 (exequaturlaw04_HashMacs.j0 kq a0 a1 x12_2 = some r) ∧ Aside0 (kq ≤ k) ∧ Aside0 (Below w.heap.size w wc))
  case first =>
    have H := HC3.out
    clear HC3
    by_cases c4 : (a1.size : Int) > 2000
    · rw [if_pos c4] at H
      have c4b0 : decide (2000 < (a1.size : Int)) = true := decide_eq_true c4
      have c4b1 : decide (2000 < a1.size) = true := decide_eq_true (by omega)
      clear c4
      (first | rw [c4b0] | (simp only [i64_w, i32_w]; rw [c4b0]) | skip)
      have H' := Aside0.mk H
      clear H
      go_wp2
      go_meet
      case rel => exact ⟨_, (true), (by first | rfl | (simp; done) | (simp [*]; done)), H', ⟨by first | omega | exact Nat.le_refl _⟩, ⟨by repeat (first | (with_reducible first | exact HB.out | apply below_alloc | apply pw_below_drewN | apply below_drew1) | exact HB.out)⟩⟩
    · rw [if_neg c4] at H
      have c4b0 : decide (2000 < (a1.size : Int)) = false := decide_eq_false c4
      have c4b1 : decide (2000 < a1.size) = false := decide_eq_false (by omega)
      clear c4
      (first | rw [c4b0] | (simp only [i64_w, i32_w]; rw [c4b0]) | skip)
      have H' := Aside0.mk H
      clear H
      go_wp2
      go_meet
      case rel => exact ⟨_, (decide ((a0.size : Int) > 2000)), (by first | rfl | (simp; done) | (simp [*]; done)), H', ⟨by first | omega | exact Nat.le_refl _⟩, ⟨by repeat (first | (with_reducible first | exact HB.out | apply below_alloc | apply pw_below_drewN | apply below_drew1) | exact HB.out)⟩⟩
  case rest =>
    clear HC3
    try clear p2
    try clear c4
    try clear c4b0
    try clear c4b1
    obtain ⟨kq, x12_2, rfl, HA, HJ2, HB⟩ := hcut
    cases kq with
    | zero => exact absurd HA.out (by simp [exequaturlaw04_HashMacs.j0])
    | succ kj2 =>
      have H := HA.out
      clear HA
      simp only [exequaturlaw04_HashMacs.j0] at H
      by_cases c5 : x12_2 = true
      · subst c5
        have H1 : ((exequaturlaw04_answers.f).bind fun t125 => (some t125)) = some r := by rw [if_pos rfl] at H; exact H
        clear H
        have H := H1
        clear H1
        replace H := Option.bind_eq_some_iff.mp H
        obtain ⟨t125, A60, H⟩ := H
        replace H : (some t125) = some r := H
        have A6 := Aside0.mk A60
        clear A60
        obtain rfl := Option.some.inj H
        go_wp2_with (first | ((with_reducible refine gate_callee (f := 8) rfl ?_); refine goesL_ (some 13) rfl rfl Tryd.func8 (by kernel_rfl) rfl #[] rfl (by (try simp only [List.map_toArray, List.map_cons, List.map_nil]); first | done | rfl | (simp only [List.length_drop, List.length_take]; rfl)) ?_; (with_reducible refine (exequaturlaw04_answers.calls  t125 _ A6.out (GL.below HGL.out (by repeat (first | (with_reducible first | exact HB.out | apply below_alloc | apply pw_below_drewN | apply below_drew1) | exact HB.out)))).mono ?_); rintro e w7 ⟨rfl, hb⟩; refine ⟨_, rfl, ?_⟩; have n0_ := Aside0.mk (below_step (by repeat (first | (with_reducible first | exact HB.out | apply below_alloc | apply pw_below_drewN | apply below_drew1) | exact HB.out)) hb); clear HB; have HB := n0_; clear n0_; (try clear hb); (try clear hb2); (try clear hk); (try clear hi)))
        go_ret
        exact ⟨by first | rfl | (simp [errW_none, errW_some] <;> rfl) | (simp [*, errW_none, errW_some] <;> rfl), by repeat (first | (with_reducible first | exact HB.out | apply below_alloc | apply pw_below_drewN | apply below_drew1) | exact HB.out)⟩
      · replace c5 := Bool.eq_false_iff.mpr c5
        subst c5
        have H1 : ((exequaturlaw04_answers.f).bind fun t126 => (if t126 = true then ((hash_Mac.f a0 a1).bind fun t127 => ((exequaturref01_Mac.f a0 a1).bind fun t128 => (if t127.toList = t128.toList then ((hash_Mac.f a0 a1).bind fun t129 => (some ((t129.size : Int) == 32))) else (some false)))) else (some false))) = some r := by rw [if_neg (show ¬ (false = true) by decide)] at H; exact H
        clear H
        have H := H1
        clear H1
        replace H := Option.bind_eq_some_iff.mp H
        obtain ⟨t126, A80, H⟩ := H
        replace H : (if t126 = true then ((hash_Mac.f a0 a1).bind fun t127 => ((exequaturref01_Mac.f a0 a1).bind fun t128 => (if t127.toList = t128.toList then ((hash_Mac.f a0 a1).bind fun t129 => (some ((t129.size : Int) == 32))) else (some false)))) else (some false)) = some r := H
        have A8 := Aside0.mk A80
        clear A80
        by_cases c9 : t126 = true
        · subst c9
          have H1 : ((hash_Mac.f a0 a1).bind fun t127 => ((exequaturref01_Mac.f a0 a1).bind fun t128 => (if t127.toList = t128.toList then ((hash_Mac.f a0 a1).bind fun t129 => (some ((t129.size : Int) == 32))) else (some false)))) = some r := by rw [if_pos rfl] at H; exact H
          clear H
          have H := H1
          clear H1
          replace H := Option.bind_eq_some_iff.mp H
          obtain ⟨t127, A100, H⟩ := H
          replace H : ((exequaturref01_Mac.f a0 a1).bind fun t128 => (if t127.toList = t128.toList then ((hash_Mac.f a0 a1).bind fun t129 => (some ((t129.size : Int) == 32))) else (some false))) = some r := H
          have A10 := Aside0.mk A100
          clear A100
          replace H := Option.bind_eq_some_iff.mp H
          obtain ⟨t128, A110, H⟩ := H
          replace H : (if t127.toList = t128.toList then ((hash_Mac.f a0 a1).bind fun t129 => (some ((t129.size : Int) == 32))) else (some false)) = some r := H
          have A11 := Aside0.mk A110
          clear A110
          by_cases c12 : t127.toList = t128.toList
          · rw [if_pos c12] at H
            have c12b0 : (t127.toList == t128.toList) = true := beq_iff_eq.mpr c12
            have c12b1 : (t127.toList != t128.toList) = false := bne_eq_false_iff_eq.mpr c12
            clear c12
            replace H := Option.bind_eq_some_iff.mp H
            obtain ⟨t129, A130, H⟩ := H
            replace H : (some ((t129.size : Int) == 32)) = some r := H
            have A13 := Aside0.mk A130
            (try have EA13 := Option.some.inj (A13.out.symm.trans A10.out))
            clear A130
            obtain rfl := Option.some.inj H
            go_wp2_with (first | ((with_reducible refine gate_callee (f := 8) rfl ?_); refine goesL_ (some 14) rfl rfl Tryd.func8 (by kernel_rfl) rfl #[] rfl (by (try simp only [List.map_toArray, List.map_cons, List.map_nil]); first | done | rfl | (simp only [List.length_drop, List.length_take]; rfl)) ?_; (with_reducible refine (exequaturlaw04_answers.calls  true _ A8.out (GL.below HGL.out (by repeat (first | (with_reducible first | exact HB.out | apply below_alloc | apply pw_below_drewN | apply below_drew1) | exact HB.out)))).mono ?_); rintro e w14 ⟨rfl, hb⟩; refine ⟨_, rfl, ?_⟩; have n0_ := Aside0.mk (below_step (by repeat (first | (with_reducible first | exact HB.out | apply below_alloc | apply pw_below_drewN | apply below_drew1) | exact HB.out)) hb); clear HB; have HB := n0_; clear n0_; (try clear hb); (try clear hb2); (try clear hk); (try clear hi)) | (go_at_call 11; (with_reducible refine (hash_Mac.calls a0 a1 t127 _ A10.out (GL.below HGL.out (by repeat (first | (with_reducible first | exact HB.out | apply below_alloc | apply pw_below_drewN | apply below_drew1) | exact HB.out)))).mono ?_); rintro e w15 ⟨rfl, hb⟩; have n0_ := Aside0.mk (below_step (by repeat (first | (with_reducible first | exact HB.out | apply below_alloc | apply pw_below_drewN | apply below_drew1) | exact HB.out)) hb); clear HB; have HB := n0_; clear n0_; (try clear hb); (try clear hb2); (try clear hk); (try clear hi)) | (go_at_call 12; (with_reducible refine (exequaturref01_Mac.calls a0 a1 t128 _ A11.out).mono ?_); rintro e w16 ⟨rfl, hb⟩; have n0_ := Aside0.mk (below_step (by repeat (first | (with_reducible first | exact HB.out | apply below_alloc | apply pw_below_drewN | apply below_drew1) | exact HB.out)) hb); clear HB; have HB := n0_; clear n0_; (try clear hb); (try clear hb2); (try clear hk); (try clear hi)) | (go_at_call 11; (with_reducible refine (hash_Mac.calls a0 a1 t129 _ A13.out (GL.below HGL.out (by repeat (first | (with_reducible first | exact HB.out | apply below_alloc | apply pw_below_drewN | apply below_drew1) | exact HB.out)))).mono ?_); rintro e w17 ⟨rfl, hb⟩; have n0_ := Aside0.mk (below_step (by repeat (first | (with_reducible first | exact HB.out | apply below_alloc | apply pw_below_drewN | apply below_drew1) | exact HB.out)) hb); clear HB; have HB := n0_; clear n0_; (try clear hb); (try clear hb2); (try clear hk); (try clear hi)))
            go_ret
            exact ⟨by first | rfl | (simp [errW_none, errW_some] <;> rfl) | (simp [*, errW_none, errW_some] <;> rfl), by repeat (first | (with_reducible first | exact HB.out | apply below_alloc | apply pw_below_drewN | apply below_drew1) | exact HB.out)⟩
          · rw [if_neg c12] at H
            have c12b0 : (t127.toList == t128.toList) = false := beq_eq_false_iff_ne.mpr c12
            have c12b1 : (t127.toList != t128.toList) = true := bne_iff_ne.mpr c12
            obtain rfl := Option.some.inj H
            go_wp2_with (first | ((with_reducible refine gate_callee (f := 8) rfl ?_); refine goesL_ (some 14) rfl rfl Tryd.func8 (by kernel_rfl) rfl #[] rfl (by (try simp only [List.map_toArray, List.map_cons, List.map_nil]); first | done | rfl | (simp only [List.length_drop, List.length_take]; rfl)) ?_; (with_reducible refine (exequaturlaw04_answers.calls  true _ A8.out (GL.below HGL.out (by repeat (first | (with_reducible first | exact HB.out | apply below_alloc | apply pw_below_drewN | apply below_drew1) | exact HB.out)))).mono ?_); rintro e w18 ⟨rfl, hb⟩; refine ⟨_, rfl, ?_⟩; have n0_ := Aside0.mk (below_step (by repeat (first | (with_reducible first | exact HB.out | apply below_alloc | apply pw_below_drewN | apply below_drew1) | exact HB.out)) hb); clear HB; have HB := n0_; clear n0_; (try clear hb); (try clear hb2); (try clear hk); (try clear hi)) | (go_at_call 11; (with_reducible refine (hash_Mac.calls a0 a1 t127 _ A10.out (GL.below HGL.out (by repeat (first | (with_reducible first | exact HB.out | apply below_alloc | apply pw_below_drewN | apply below_drew1) | exact HB.out)))).mono ?_); rintro e w19 ⟨rfl, hb⟩; have n0_ := Aside0.mk (below_step (by repeat (first | (with_reducible first | exact HB.out | apply below_alloc | apply pw_below_drewN | apply below_drew1) | exact HB.out)) hb); clear HB; have HB := n0_; clear n0_; (try clear hb); (try clear hb2); (try clear hk); (try clear hi)) | (go_at_call 12; (with_reducible refine (exequaturref01_Mac.calls a0 a1 t128 _ A11.out).mono ?_); rintro e w20 ⟨rfl, hb⟩; have n0_ := Aside0.mk (below_step (by repeat (first | (with_reducible first | exact HB.out | apply below_alloc | apply pw_below_drewN | apply below_drew1) | exact HB.out)) hb); clear HB; have HB := n0_; clear n0_; (try clear hb); (try clear hb2); (try clear hk); (try clear hi)))
            go_ret
            exact ⟨by first | rfl | (simp [errW_none, errW_some] <;> rfl) | (simp [*, errW_none, errW_some] <;> rfl), by repeat (first | (with_reducible first | exact HB.out | apply below_alloc | apply pw_below_drewN | apply below_drew1) | exact HB.out)⟩
        · replace c9 := Bool.eq_false_iff.mpr c9
          subst c9
          have H1 : (some false) = some r := by rw [if_neg (show ¬ (false = true) by decide)] at H; exact H
          clear H
          have H := H1
          clear H1
          obtain rfl := Option.some.inj H
          go_wp2_with (first | ((with_reducible refine gate_callee (f := 8) rfl ?_); refine goesL_ (some 14) rfl rfl Tryd.func8 (by kernel_rfl) rfl #[] rfl (by (try simp only [List.map_toArray, List.map_cons, List.map_nil]); first | done | rfl | (simp only [List.length_drop, List.length_take]; rfl)) ?_; (with_reducible refine (exequaturlaw04_answers.calls  false _ A8.out (GL.below HGL.out (by repeat (first | (with_reducible first | exact HB.out | apply below_alloc | apply pw_below_drewN | apply below_drew1) | exact HB.out)))).mono ?_); rintro e w21 ⟨rfl, hb⟩; refine ⟨_, rfl, ?_⟩; have n0_ := Aside0.mk (below_step (by repeat (first | (with_reducible first | exact HB.out | apply below_alloc | apply pw_below_drewN | apply below_drew1) | exact HB.out)) hb); clear HB; have HB := n0_; clear n0_; (try clear hb); (try clear hb2); (try clear hk); (try clear hi)))
          go_ret
          exact ⟨by first | rfl | (simp [errW_none, errW_some] <;> rfl) | (simp [*, errW_none, errW_some] <;> rfl), by repeat (first | (with_reducible first | exact HB.out | apply below_alloc | apply pw_below_drewN | apply below_drew1) | exact HB.out)⟩

/-- THE ONE PURE STATEMENT of exequaturlaw04_HashMacs: yours. -/
def exequaturlaw04_HashMacs.Pure : Prop := ∀ (a0 : ByteArray) (a1 : ByteArray), a0.size ≤ 140737488351232 → a1.size ≤ 140737488351232 → ∃ k, exequaturlaw04_HashMacs.f k a0 a1 = some true
theorem exequaturlaw04_HashMacs.walk (P : exequaturlaw04_HashMacs.Pure) (a0 : ByteArray) (a1 : ByteArray) (w : World) (w0 : a0.size ≤ 140737488351232) (w1 : a1.size ≤ 140737488351232) (hGL : GL w) :
    Calls Tryd.prog 4 #[.string a0, .string a1] w fun e w' => e = .returned (.bool true) ∧ Below w.heap.size w w' := by
  obtain ⟨k, h⟩ := P a0 a1 w0 w1
  refine (exequaturlaw04_HashMacs.calls k a0 a1 true w h hGL).mono ?_
  rintro e w' ⟨rfl, hd⟩
  exact ⟨rfl, hd⟩

/-! ### exequaturlaw04_HashKeys: function 5 -/
mutual
def exequaturlaw04_HashKeys.j0 : Nat → ByteArray → ByteArray → Bool → Option (Bool)
  | 0, _, _, _ => none
  | k + 1, x0, x1, x14 => if x14 = true then ((exequaturlaw04_answers.f).bind fun t130 => (some t130)) else (if 65 ≤ 281474976710656 then ((some (List.replicate 65 0 : List Int)).bind fun y131 => (if x0.size + (strOfNums y131).size ≤ 9223372036854775807 then (if (x0.size : Int) > 60 then (if 0 ≤ 60 then (if 60 ≤ (x0.size : Int) then (exequaturlaw04_HashKeys.j1 k x1 (x0 ++ (strOfNums y131)) (x0.extract 0 60)) else (none)) else (none)) else (exequaturlaw04_HashKeys.j1 k x1 (x0 ++ (strOfNums y131)) x0)) else (none))) else (none))
def exequaturlaw04_HashKeys.j1 : Nat → ByteArray → ByteArray → ByteArray → Option (Bool)
  | 0, _, _, _ => none
  | k + 1, x1, x5, x6 => (exequaturlaw04_answers.f).bind fun t134 => (if t134 = true then ((hash_Mac.f x5 x1).bind fun t135 => ((hash_Sum.f x5).bind fun t136 => ((hash_Mac.f t136 x1).bind fun t137 => (if t135.toList = t137.toList then ((hash_Mac.f x6 x1).bind fun t138 => (if x6.size + 1 ≤ 9223372036854775807 then ((hash_Mac.f (x6 ++ (⟨#[0]⟩ : ByteArray)) x1).bind fun t139 => (some (t138.toList == t139.toList))) else (none))) else (some false))))) else (some false))
end
def exequaturlaw04_HashKeys.f (k : Nat) (a0 : ByteArray) (a1 : ByteArray) : Option (Bool) := if (a1.size : Int) > 500 then (exequaturlaw04_HashKeys.j0 k a0 a1 true) else (exequaturlaw04_HashKeys.j0 k a0 a1 (decide ((a0.size : Int) > 500)))
theorem exequaturlaw04_HashKeys.mono_l : ∀ k, (∀ y0 y1 y2, LeO (exequaturlaw04_HashKeys.j0 k y0 y1 y2) (exequaturlaw04_HashKeys.j0 (k + 1) y0 y1 y2)) ∧ (∀ y0 y1 y2, LeO (exequaturlaw04_HashKeys.j1 k y0 y1 y2) (exequaturlaw04_HashKeys.j1 (k + 1) y0 y1 y2))
  | 0 => ⟨fun _ _ _ r h => by simp [exequaturlaw04_HashKeys.j0] at h, fun _ _ _ r h => by simp [exequaturlaw04_HashKeys.j1] at h⟩
  | k + 1 => by
    obtain ⟨ih0, ih1⟩ := exequaturlaw04_HashKeys.mono_l k
    refine ⟨?_, ?_⟩
    · intro y0 y1 y2
      unfold exequaturlaw04_HashKeys.j0
      repeat' first
      | (with_reducible exact ih0 _ _ _)
      | (with_reducible exact ih1 _ _ _)
      | (with_reducible exact LeO.refl _)
      | (with_reducible exact LeO.none _)
      | (with_reducible refine LeO.ite ?_ ?_)
      | (with_reducible refine LeO.bind ?_ (fun _ => ?_))
      | exact ih0 _ _ _
      | exact ih1 _ _ _
      | exact LeO.none _
      | refine LeO.ite ?_ ?_
      | refine LeO.bind ?_ (fun _ => ?_)
    · intro y0 y1 y2
      unfold exequaturlaw04_HashKeys.j1
      repeat' first
      | (with_reducible exact ih0 _ _ _)
      | (with_reducible exact ih1 _ _ _)
      | (with_reducible exact LeO.refl _)
      | (with_reducible exact LeO.none _)
      | (with_reducible refine LeO.ite ?_ ?_)
      | (with_reducible refine LeO.bind ?_ (fun _ => ?_))
      | exact ih0 _ _ _
      | exact ih1 _ _ _
      | exact LeO.none _
      | refine LeO.ite ?_ ?_
      | refine LeO.bind ?_ (fun _ => ?_)
theorem exequaturlaw04_HashKeys.mono : ∀ a0 a1 k, LeO (exequaturlaw04_HashKeys.f k a0 a1) (exequaturlaw04_HashKeys.f (k + 1) a0 a1) := by
  intro a0 a1 k
  obtain ⟨ih0, ih1⟩ := exequaturlaw04_HashKeys.mono_l k
  unfold exequaturlaw04_HashKeys.f
  repeat' first
      | (with_reducible exact ih0 _ _ _)
      | (with_reducible exact ih1 _ _ _)
      | (with_reducible exact LeO.refl _)
      | (with_reducible exact LeO.none _)
      | (with_reducible refine LeO.ite ?_ ?_)
      | (with_reducible refine LeO.bind ?_ (fun _ => ?_))
      | exact ih0 _ _ _
      | exact ih1 _ _ _
      | exact LeO.none _
      | refine LeO.ite ?_ ?_
      | refine LeO.bind ?_ (fun _ => ?_)
set_option maxHeartbeats 8000000 in
set_option maxRecDepth 100000 in
theorem exequaturlaw04_HashKeys.calls (k : Nat) (a0 : ByteArray) (a1 : ByteArray) (r : Bool) (w : World) (h : exequaturlaw04_HashKeys.f k a0 a1 = some r) (hGL : GL w) :
    Calls Tryd.prog 5 #[.string a0, .string a1] w fun e w' => e = .returned (.bool r) ∧ Below w.heap.size w w' := by
  have HGL := Aside0.mk hGL
  clear hGL
  have HB := Aside0.mk (Below.refl w.heap.size w)
  have H : (if (a1.size : Int) > 500 then (exequaturlaw04_HashKeys.j0 k a0 a1 true) else (exequaturlaw04_HashKeys.j0 k a0 a1 (decide ((a0.size : Int) > 500)))) = some r := h
  clear h
  have HC3 := Aside0.mk H
  clear H
  go_enter Tryd.func5, Tryd.ntmps5
  go_upto_region 1 with (fail)
  go_cut [14] (fun v14 wc => ∃ (kq : Nat) (x14_2 : Bool), v14 = .bool x14_2 ∧ Aside0 (exequaturlaw04_HashKeys.j0 kq a0 a1 x14_2 = some r) ∧ Aside0 (kq ≤ k) ∧ Aside0 (Below w.heap.size w wc))
  case first =>
    have H := HC3.out
    clear HC3
    by_cases c4 : (a1.size : Int) > 500
    · rw [if_pos c4] at H
      have c4b0 : decide (500 < (a1.size : Int)) = true := decide_eq_true c4
      have c4b1 : decide (500 < a1.size) = true := decide_eq_true (by omega)
      clear c4
      (first | rw [c4b0] | (simp only [i64_w, i32_w]; rw [c4b0]) | skip)
      have H' := Aside0.mk H
      clear H
      go_wp2
      go_meet
      case rel => exact ⟨_, (true), (by first | rfl | (simp; done) | (simp [*]; done)), H', ⟨by first | omega | exact Nat.le_refl _⟩, ⟨by repeat (first | (with_reducible first | exact HB.out | apply below_alloc | apply pw_below_drewN | apply below_drew1) | exact HB.out)⟩⟩
    · rw [if_neg c4] at H
      have c4b0 : decide (500 < (a1.size : Int)) = false := decide_eq_false c4
      have c4b1 : decide (500 < a1.size) = false := decide_eq_false (by omega)
      clear c4
      (first | rw [c4b0] | (simp only [i64_w, i32_w]; rw [c4b0]) | skip)
      have H' := Aside0.mk H
      clear H
      go_wp2
      go_meet
      case rel => exact ⟨_, (decide ((a0.size : Int) > 500)), (by first | rfl | (simp; done) | (simp [*]; done)), H', ⟨by first | omega | exact Nat.le_refl _⟩, ⟨by repeat (first | (with_reducible first | exact HB.out | apply below_alloc | apply pw_below_drewN | apply below_drew1) | exact HB.out)⟩⟩
  case rest =>
    clear HC3
    try clear p2
    try clear c4
    try clear c4b0
    try clear c4b1
    obtain ⟨kq, x14_2, rfl, HA, HJ2, HB⟩ := hcut
    cases kq with
    | zero => exact absurd HA.out (by simp [exequaturlaw04_HashKeys.j0])
    | succ kj2 =>
      have H := HA.out
      clear HA
      simp only [exequaturlaw04_HashKeys.j0] at H
      by_cases c5 : x14_2 = true
      · subst c5
        have H1 : ((exequaturlaw04_answers.f).bind fun t130 => (some t130)) = some r := by rw [if_pos rfl] at H; exact H
        clear H
        have H := H1
        clear H1
        replace H := Option.bind_eq_some_iff.mp H
        obtain ⟨t130, A60, H⟩ := H
        replace H : (some t130) = some r := H
        have A6 := Aside0.mk A60
        clear A60
        obtain rfl := Option.some.inj H
        go_wp2_with (first | ((with_reducible refine gate_callee (f := 8) rfl ?_); refine goesL_ (some 15) rfl rfl Tryd.func8 (by kernel_rfl) rfl #[] rfl (by (try simp only [List.map_toArray, List.map_cons, List.map_nil]); first | done | rfl | (simp only [List.length_drop, List.length_take]; rfl)) ?_; (with_reducible refine (exequaturlaw04_answers.calls  t130 _ A6.out (GL.below HGL.out (by repeat (first | (with_reducible first | exact HB.out | apply below_alloc | apply pw_below_drewN | apply below_drew1) | exact HB.out)))).mono ?_); rintro e w7 ⟨rfl, hb⟩; refine ⟨_, rfl, ?_⟩; have n0_ := Aside0.mk (below_step (by repeat (first | (with_reducible first | exact HB.out | apply below_alloc | apply pw_below_drewN | apply below_drew1) | exact HB.out)) hb); clear HB; have HB := n0_; clear n0_; (try clear hb); (try clear hb2); (try clear hk); (try clear hi)))
        go_ret
        exact ⟨by first | rfl | (simp [errW_none, errW_some] <;> rfl) | (simp [*, errW_none, errW_some] <;> rfl), by repeat (first | (with_reducible first | exact HB.out | apply below_alloc | apply pw_below_drewN | apply below_drew1) | exact HB.out)⟩
      · replace c5 := Bool.eq_false_iff.mpr c5
        subst c5
        have H1 : (if 65 ≤ 281474976710656 then ((some (List.replicate 65 0 : List Int)).bind fun y131 => (if a0.size + (strOfNums y131).size ≤ 9223372036854775807 then (if (a0.size : Int) > 60 then (if 0 ≤ 60 then (if 60 ≤ (a0.size : Int) then (exequaturlaw04_HashKeys.j1 kj2 a1 (a0 ++ (strOfNums y131)) (a0.extract 0 60)) else (none)) else (none)) else (exequaturlaw04_HashKeys.j1 kj2 a1 (a0 ++ (strOfNums y131)) a0)) else (none))) else (none)) = some r := by rw [if_neg (show ¬ (false = true) by decide)] at H; exact H
        clear H
        have H := H1
        clear H1
        by_cases c8 : 65 ≤ 281474976710656
        · rw [if_pos c8] at H
          have c8b0 := eq_true c8
          have c8b1 : decide (65 ≤ 281474976710656) = true := decide_eq_true c8
          clear c8
          obtain ⟨y131, hy131⟩ : ∃ y_ : List Int, y_ = (List.replicate 65 0) := ⟨_, rfl⟩
          replace H : (if a0.size + (strOfNums y131).size ≤ 9223372036854775807 then (if (a0.size : Int) > 60 then (if 0 ≤ 60 then (if 60 ≤ (a0.size : Int) then (exequaturlaw04_HashKeys.j1 kj2 a1 (a0 ++ (strOfNums y131)) (a0.extract 0 60)) else (none)) else (none)) else (exequaturlaw04_HashKeys.j1 kj2 a1 (a0 ++ (strOfNums y131)) a0)) else (none)) = some r := by first | (rw [hy131]; with_reducible exact H) | (have H2_ := (Option.bind_some _ _).symm.trans H; rw [hy131]; with_reducible exact H2_) | (have H2_ := (Option.bind_some _ _).symm.trans H; with_reducible exact H2_) | with_reducible exact H | (rw [hy131]; exact H) | exact H
          have Ny131 := Aside0.mk hy131
          clear hy131
          by_cases c9 : a0.size + (strOfNums y131).size ≤ 9223372036854775807
          · rw [if_pos c9] at H
            have c9b0 := eq_true c9
            have c9b1 : decide (a0.size + (strOfNums y131).size ≤ 9223372036854775807) = true := decide_eq_true c9
            try have c9b2 : (9223372036854775807 < a0.size + (strOfNums y131).size) = False := eq_false (Nat.not_lt.2 c9)
            have HC10 := Aside0.mk H
            clear H
            go_upto_if 23 with (first | ((with_reducible refine gate_dst (N := 17) rfl ?_); (try (refine gate_guard (by rfl) ?_; dsimp only)); refine Kd.R_make (Kd.int .u8) _ 5 rfl (N := 17) rfl 27 _ _ rfl 65 rfl rfl Tryd.underlying27 (.int .u8 0) 1 info5 rfl (by decide) (by omega) 0 (ok := fun _ => True) (okp := fun _ => True) rfl (fun _ hk => hk) trivial (by omega) (by omega) (Below.refl _ _) (Nat.le_refl _) ?_; intro v132 w11 ho12 hb hg_ hnew_; clear hg_ hnew_; (first | rw [← Ny131.out] at ho12 | (simp only [Int.reduceToNat] at ho12; rw [← Ny131.out] at ho12)); have n0_ := Aside0.mk (Kd.R_lower ho12 (below_size (by repeat (first | (with_reducible first | exact HB.out | apply below_alloc | apply pw_below_drewN | apply below_drew1) | exact HB.out)))); have n1_ := Aside0.mk (below_step (by repeat (first | (with_reducible first | exact HB.out | apply below_alloc | apply pw_below_drewN | apply below_drew1) | exact HB.out)) hb); clear HB; have HO133 := n0_; have HB := n1_; clear n0_ n1_; clear hb ho12; have hcv13 := (own_string (P := Tryd.prog) Tryd.underlying27 Tryd.underlying5 Tryd.underlying9 (Kd.own_of_R HO133.out))))
            (try simp only [Act.put, List.setIfInBounds_toArray, List.set_cons_zero, List.set_cons_succ])
            go_cut [6] (fun v6 wc => ∃ (kq : Nat) (x6_9 : ByteArray), v6 = .string x6_9 ∧ Aside0 (exequaturlaw04_HashKeys.j1 kq a1 (a0 ++ (strOfNums y131)) x6_9 = some r) ∧ Aside0 (kq ≤ kj2) ∧ Aside0 (Below w.heap.size w wc))
            case first =>
              have H := HC10.out
              clear HC10
              by_cases c14 : (a0.size : Int) > 60
              · rw [if_pos c14] at H
                have c14b0 : decide (60 < (a0.size : Int)) = true := decide_eq_true c14
                have c14b1 : decide (60 < a0.size) = true := decide_eq_true (by omega)
                clear c14
                (first | rw [c14b0] | (simp only [i64_w, i32_w]; rw [c14b0]) | skip)
                by_cases c15 : 0 ≤ 60
                · rw [if_pos c15] at H
                  have c15b0 := eq_true c15
                  have c15b1 : decide (0 ≤ 60) = true := decide_eq_true c15
                  clear c15
                  by_cases c16 : 60 ≤ (a0.size : Int)
                  · rw [if_pos c16] at H
                    have c16b0 := eq_true c16
                    have c16b1 : decide (60 ≤ (a0.size : Int)) = true := decide_eq_true c16
                    clear c16
                    have H' := Aside0.mk H
                    clear H
                    go_wp2
                    go_meet
                    case rel => exact ⟨_, (a0.extract 0 60), (by first | rfl | (simp; done) | (simp [*]; done)), H', ⟨by have := HJ2.out; first | omega | exact Nat.le_refl _⟩, ⟨by repeat (first | (with_reducible first | exact HB.out | apply below_alloc | apply pw_below_drewN | apply below_drew1) | exact HB.out)⟩⟩
                  · rw [if_neg c16] at H
                    exact absurd H (by simp)
                · rw [if_neg c15] at H
                  exact absurd H (by simp)
              · rw [if_neg c14] at H
                have c14b0 : decide (60 < (a0.size : Int)) = false := decide_eq_false c14
                have c14b1 : decide (60 < a0.size) = false := decide_eq_false (by omega)
                clear c14
                (first | rw [c14b0] | (simp only [i64_w, i32_w]; rw [c14b0]) | skip)
                have H' := Aside0.mk H
                clear H
                go_wp2
                go_meet
                case rel => exact ⟨_, (a0), (by first | rfl | (simp; done) | (simp [*]; done)), H', ⟨by have := HJ2.out; first | omega | exact Nat.le_refl _⟩, ⟨by repeat (first | (with_reducible first | exact HB.out | apply below_alloc | apply pw_below_drewN | apply below_drew1) | exact HB.out)⟩⟩
            case rest =>
              clear HC10
              try clear c1
              try clear hcv1
              try clear p2
              try clear c4
              try clear c4b0
              try clear c4b1
              try clear c5
              try clear c8
              try clear c8b0
              try clear c8b1
              try clear c9
              try clear c9b0
              try clear c9b1
              try clear c9b2
              try clear hcv13
              try clear c14
              try clear c14b0
              try clear c14b1
              try clear c15
              try clear c15b0
              try clear c15b1
              try clear c16
              try clear c16b0
              try clear c16b1
              try clear p2
              obtain ⟨kq, x6_9, rfl, HA, HJ9, HB⟩ := hcut
              cases kq with
              | zero => exact absurd HA.out (by simp [exequaturlaw04_HashKeys.j1])
              | succ kj9 =>
                have H := HA.out
                clear HA
                simp only [exequaturlaw04_HashKeys.j1] at H
                replace H := Option.bind_eq_some_iff.mp H
                obtain ⟨t134, A170, H⟩ := H
                replace H : (if t134 = true then ((hash_Mac.f (a0 ++ (strOfNums y131)) a1).bind fun t135 => ((hash_Sum.f (a0 ++ (strOfNums y131))).bind fun t136 => ((hash_Mac.f t136 a1).bind fun t137 => (if t135.toList = t137.toList then ((hash_Mac.f x6_9 a1).bind fun t138 => (if x6_9.size + 1 ≤ 9223372036854775807 then ((hash_Mac.f (x6_9 ++ (⟨#[0]⟩ : ByteArray)) a1).bind fun t139 => (some (t138.toList == t139.toList))) else (none))) else (some false))))) else (some false)) = some r := H
                have A17 := Aside0.mk A170
                clear A170
                by_cases c18 : t134 = true
                · subst c18
                  have H1 : ((hash_Mac.f (a0 ++ (strOfNums y131)) a1).bind fun t135 => ((hash_Sum.f (a0 ++ (strOfNums y131))).bind fun t136 => ((hash_Mac.f t136 a1).bind fun t137 => (if t135.toList = t137.toList then ((hash_Mac.f x6_9 a1).bind fun t138 => (if x6_9.size + 1 ≤ 9223372036854775807 then ((hash_Mac.f (x6_9 ++ (⟨#[0]⟩ : ByteArray)) a1).bind fun t139 => (some (t138.toList == t139.toList))) else (none))) else (some false))))) = some r := by rw [if_pos rfl] at H; exact H
                  clear H
                  have H := H1
                  clear H1
                  replace H := Option.bind_eq_some_iff.mp H
                  obtain ⟨t135, A190, H⟩ := H
                  replace H : ((hash_Sum.f (a0 ++ (strOfNums y131))).bind fun t136 => ((hash_Mac.f t136 a1).bind fun t137 => (if t135.toList = t137.toList then ((hash_Mac.f x6_9 a1).bind fun t138 => (if x6_9.size + 1 ≤ 9223372036854775807 then ((hash_Mac.f (x6_9 ++ (⟨#[0]⟩ : ByteArray)) a1).bind fun t139 => (some (t138.toList == t139.toList))) else (none))) else (some false)))) = some r := H
                  have A19 := Aside0.mk A190
                  clear A190
                  replace H := Option.bind_eq_some_iff.mp H
                  obtain ⟨t136, A200, H⟩ := H
                  replace H : ((hash_Mac.f t136 a1).bind fun t137 => (if t135.toList = t137.toList then ((hash_Mac.f x6_9 a1).bind fun t138 => (if x6_9.size + 1 ≤ 9223372036854775807 then ((hash_Mac.f (x6_9 ++ (⟨#[0]⟩ : ByteArray)) a1).bind fun t139 => (some (t138.toList == t139.toList))) else (none))) else (some false))) = some r := H
                  have A20 := Aside0.mk A200
                  clear A200
                  replace H := Option.bind_eq_some_iff.mp H
                  obtain ⟨t137, A210, H⟩ := H
                  replace H : (if t135.toList = t137.toList then ((hash_Mac.f x6_9 a1).bind fun t138 => (if x6_9.size + 1 ≤ 9223372036854775807 then ((hash_Mac.f (x6_9 ++ (⟨#[0]⟩ : ByteArray)) a1).bind fun t139 => (some (t138.toList == t139.toList))) else (none))) else (some false)) = some r := H
                  have A21 := Aside0.mk A210
                  clear A210
                  by_cases c22 : t135.toList = t137.toList
                  · rw [if_pos c22] at H
                    have c22b0 : (t135.toList == t137.toList) = true := beq_iff_eq.mpr c22
                    have c22b1 : (t135.toList != t137.toList) = false := bne_eq_false_iff_eq.mpr c22
                    clear c22
                    replace H := Option.bind_eq_some_iff.mp H
                    obtain ⟨t138, A230, H⟩ := H
                    replace H : (if x6_9.size + 1 ≤ 9223372036854775807 then ((hash_Mac.f (x6_9 ++ (⟨#[0]⟩ : ByteArray)) a1).bind fun t139 => (some (t138.toList == t139.toList))) else (none)) = some r := H
                    have A23 := Aside0.mk A230
                    clear A230
                    by_cases c24 : x6_9.size + 1 ≤ 9223372036854775807
                    · rw [if_pos c24] at H
                      have c24b0 := eq_true c24
                      have c24b1 : decide (x6_9.size + 1 ≤ 9223372036854775807) = true := decide_eq_true c24
                      try have c24b2 : (9223372036854775807 < x6_9.size + 1) = False := eq_false (Nat.not_lt.2 c24)
                      replace H := Option.bind_eq_some_iff.mp H
                      obtain ⟨t139, A250, H⟩ := H
                      replace H : (some (t138.toList == t139.toList)) = some r := H
                      have A25 := Aside0.mk A250
                      clear A250
                      obtain rfl := Option.some.inj H
                      go_wp2_with (first | ((with_reducible refine gate_callee (f := 8) rfl ?_); refine goesL_ (some 26) rfl rfl Tryd.func8 (by kernel_rfl) rfl #[] rfl (by (try simp only [List.map_toArray, List.map_cons, List.map_nil]); first | done | rfl | (simp only [List.length_drop, List.length_take]; rfl)) ?_; (with_reducible refine (exequaturlaw04_answers.calls  true _ A17.out (GL.below HGL.out (by repeat (first | (with_reducible first | exact HB.out | apply below_alloc | apply pw_below_drewN | apply below_drew1) | exact HB.out)))).mono ?_); rintro e w26 ⟨rfl, hb⟩; refine ⟨_, rfl, ?_⟩; have n0_ := Aside0.mk (below_step (by repeat (first | (with_reducible first | exact HB.out | apply below_alloc | apply pw_below_drewN | apply below_drew1) | exact HB.out)) hb); clear HB; have HB := n0_; clear n0_; (try clear hb); (try clear hb2); (try clear hk); (try clear hi)) | (go_at_call 11; (with_reducible refine (hash_Mac.calls (a0 ++ (strOfNums y131)) a1 t135 _ A19.out (GL.below HGL.out (by repeat (first | (with_reducible first | exact HB.out | apply below_alloc | apply pw_below_drewN | apply below_drew1) | exact HB.out)))).mono ?_); rintro e w27 ⟨rfl, hb⟩; have n0_ := Aside0.mk (below_step (by repeat (first | (with_reducible first | exact HB.out | apply below_alloc | apply pw_below_drewN | apply below_drew1) | exact HB.out)) hb); clear HB; have HB := n0_; clear n0_; (try clear hb); (try clear hb2); (try clear hk); (try clear hi)) | (go_at_call 9; (with_reducible refine (hash_Sum.calls (a0 ++ (strOfNums y131)) t136 _ A20.out (GL.below HGL.out (by repeat (first | (with_reducible first | exact HB.out | apply below_alloc | apply pw_below_drewN | apply below_drew1) | exact HB.out)))).mono ?_); rintro e w28 ⟨rfl, hb⟩; have n0_ := Aside0.mk (below_step (by repeat (first | (with_reducible first | exact HB.out | apply below_alloc | apply pw_below_drewN | apply below_drew1) | exact HB.out)) hb); clear HB; have HB := n0_; clear n0_; (try clear hb); (try clear hb2); (try clear hk); (try clear hi)) | (go_at_call 11; (with_reducible refine (hash_Mac.calls t136 a1 t137 _ A21.out (GL.below HGL.out (by repeat (first | (with_reducible first | exact HB.out | apply below_alloc | apply pw_below_drewN | apply below_drew1) | exact HB.out)))).mono ?_); rintro e w29 ⟨rfl, hb⟩; have n0_ := Aside0.mk (below_step (by repeat (first | (with_reducible first | exact HB.out | apply below_alloc | apply pw_below_drewN | apply below_drew1) | exact HB.out)) hb); clear HB; have HB := n0_; clear n0_; (try clear hb); (try clear hb2); (try clear hk); (try clear hi)) | (go_at_call 11; (with_reducible refine (hash_Mac.calls x6_9 a1 t138 _ A23.out (GL.below HGL.out (by repeat (first | (with_reducible first | exact HB.out | apply below_alloc | apply pw_below_drewN | apply below_drew1) | exact HB.out)))).mono ?_); rintro e w30 ⟨rfl, hb⟩; have n0_ := Aside0.mk (below_step (by repeat (first | (with_reducible first | exact HB.out | apply below_alloc | apply pw_below_drewN | apply below_drew1) | exact HB.out)) hb); clear HB; have HB := n0_; clear n0_; (try clear hb); (try clear hb2); (try clear hk); (try clear hi)) | (go_at_call 11; (with_reducible refine (hash_Mac.calls (x6_9 ++ (⟨#[0]⟩ : ByteArray)) a1 t139 _ A25.out (GL.below HGL.out (by repeat (first | (with_reducible first | exact HB.out | apply below_alloc | apply pw_below_drewN | apply below_drew1) | exact HB.out)))).mono ?_); rintro e w31 ⟨rfl, hb⟩; have n0_ := Aside0.mk (below_step (by repeat (first | (with_reducible first | exact HB.out | apply below_alloc | apply pw_below_drewN | apply below_drew1) | exact HB.out)) hb); clear HB; have HB := n0_; clear n0_; (try clear hb); (try clear hb2); (try clear hk); (try clear hi)))
                      go_ret
                      exact ⟨by first | rfl | (simp [errW_none, errW_some] <;> rfl) | (simp [*, errW_none, errW_some] <;> rfl), by repeat (first | (with_reducible first | exact HB.out | apply below_alloc | apply pw_below_drewN | apply below_drew1) | exact HB.out)⟩
                    · rw [if_neg c24] at H
                      exact absurd H (by simp)
                  · rw [if_neg c22] at H
                    have c22b0 : (t135.toList == t137.toList) = false := beq_eq_false_iff_ne.mpr c22
                    have c22b1 : (t135.toList != t137.toList) = true := bne_iff_ne.mpr c22
                    obtain rfl := Option.some.inj H
                    go_wp2_with (first | ((with_reducible refine gate_callee (f := 8) rfl ?_); refine goesL_ (some 26) rfl rfl Tryd.func8 (by kernel_rfl) rfl #[] rfl (by (try simp only [List.map_toArray, List.map_cons, List.map_nil]); first | done | rfl | (simp only [List.length_drop, List.length_take]; rfl)) ?_; (with_reducible refine (exequaturlaw04_answers.calls  true _ A17.out (GL.below HGL.out (by repeat (first | (with_reducible first | exact HB.out | apply below_alloc | apply pw_below_drewN | apply below_drew1) | exact HB.out)))).mono ?_); rintro e w32 ⟨rfl, hb⟩; refine ⟨_, rfl, ?_⟩; have n0_ := Aside0.mk (below_step (by repeat (first | (with_reducible first | exact HB.out | apply below_alloc | apply pw_below_drewN | apply below_drew1) | exact HB.out)) hb); clear HB; have HB := n0_; clear n0_; (try clear hb); (try clear hb2); (try clear hk); (try clear hi)) | (go_at_call 11; (with_reducible refine (hash_Mac.calls (a0 ++ (strOfNums y131)) a1 t135 _ A19.out (GL.below HGL.out (by repeat (first | (with_reducible first | exact HB.out | apply below_alloc | apply pw_below_drewN | apply below_drew1) | exact HB.out)))).mono ?_); rintro e w33 ⟨rfl, hb⟩; have n0_ := Aside0.mk (below_step (by repeat (first | (with_reducible first | exact HB.out | apply below_alloc | apply pw_below_drewN | apply below_drew1) | exact HB.out)) hb); clear HB; have HB := n0_; clear n0_; (try clear hb); (try clear hb2); (try clear hk); (try clear hi)) | (go_at_call 9; (with_reducible refine (hash_Sum.calls (a0 ++ (strOfNums y131)) t136 _ A20.out (GL.below HGL.out (by repeat (first | (with_reducible first | exact HB.out | apply below_alloc | apply pw_below_drewN | apply below_drew1) | exact HB.out)))).mono ?_); rintro e w34 ⟨rfl, hb⟩; have n0_ := Aside0.mk (below_step (by repeat (first | (with_reducible first | exact HB.out | apply below_alloc | apply pw_below_drewN | apply below_drew1) | exact HB.out)) hb); clear HB; have HB := n0_; clear n0_; (try clear hb); (try clear hb2); (try clear hk); (try clear hi)) | (go_at_call 11; (with_reducible refine (hash_Mac.calls t136 a1 t137 _ A21.out (GL.below HGL.out (by repeat (first | (with_reducible first | exact HB.out | apply below_alloc | apply pw_below_drewN | apply below_drew1) | exact HB.out)))).mono ?_); rintro e w35 ⟨rfl, hb⟩; have n0_ := Aside0.mk (below_step (by repeat (first | (with_reducible first | exact HB.out | apply below_alloc | apply pw_below_drewN | apply below_drew1) | exact HB.out)) hb); clear HB; have HB := n0_; clear n0_; (try clear hb); (try clear hb2); (try clear hk); (try clear hi)))
                    go_ret
                    exact ⟨by first | rfl | (simp [errW_none, errW_some] <;> rfl) | (simp [*, errW_none, errW_some] <;> rfl), by repeat (first | (with_reducible first | exact HB.out | apply below_alloc | apply pw_below_drewN | apply below_drew1) | exact HB.out)⟩
                · replace c18 := Bool.eq_false_iff.mpr c18
                  subst c18
                  have H1 : (some false) = some r := by rw [if_neg (show ¬ (false = true) by decide)] at H; exact H
                  clear H
                  have H := H1
                  clear H1
                  obtain rfl := Option.some.inj H
                  go_wp2_with (first | ((with_reducible refine gate_callee (f := 8) rfl ?_); refine goesL_ (some 26) rfl rfl Tryd.func8 (by kernel_rfl) rfl #[] rfl (by (try simp only [List.map_toArray, List.map_cons, List.map_nil]); first | done | rfl | (simp only [List.length_drop, List.length_take]; rfl)) ?_; (with_reducible refine (exequaturlaw04_answers.calls  false _ A17.out (GL.below HGL.out (by repeat (first | (with_reducible first | exact HB.out | apply below_alloc | apply pw_below_drewN | apply below_drew1) | exact HB.out)))).mono ?_); rintro e w36 ⟨rfl, hb⟩; refine ⟨_, rfl, ?_⟩; have n0_ := Aside0.mk (below_step (by repeat (first | (with_reducible first | exact HB.out | apply below_alloc | apply pw_below_drewN | apply below_drew1) | exact HB.out)) hb); clear HB; have HB := n0_; clear n0_; (try clear hb); (try clear hb2); (try clear hk); (try clear hi)))
                  go_ret
                  exact ⟨by first | rfl | (simp [errW_none, errW_some] <;> rfl) | (simp [*, errW_none, errW_some] <;> rfl), by repeat (first | (with_reducible first | exact HB.out | apply below_alloc | apply pw_below_drewN | apply below_drew1) | exact HB.out)⟩
          · rw [if_neg c9] at H
            exact absurd H (by simp)
        · rw [if_neg c8] at H
          exact absurd H (by simp)

/-- THE ONE PURE STATEMENT of exequaturlaw04_HashKeys: yours. -/
def exequaturlaw04_HashKeys.Pure : Prop := ∀ (a0 : ByteArray) (a1 : ByteArray), a0.size ≤ 140737488351232 → a1.size ≤ 140737488351232 → ∃ k, exequaturlaw04_HashKeys.f k a0 a1 = some true
theorem exequaturlaw04_HashKeys.walk (P : exequaturlaw04_HashKeys.Pure) (a0 : ByteArray) (a1 : ByteArray) (w : World) (w0 : a0.size ≤ 140737488351232) (w1 : a1.size ≤ 140737488351232) (hGL : GL w) :
    Calls Tryd.prog 5 #[.string a0, .string a1] w fun e w' => e = .returned (.bool true) ∧ Below w.heap.size w w' := by
  obtain ⟨k, h⟩ := P a0 a1 w0 w1
  refine (exequaturlaw04_HashKeys.calls k a0 a1 true w h hGL).mono ?_
  rintro e w' ⟨rfl, hd⟩
  exact ⟨rfl, hd⟩

-- NOT PRINTED: function 39 (strings_Builder_WriteByte)

end Go.Proofs.YtfoepbjbgohhdaaDoor.Q
