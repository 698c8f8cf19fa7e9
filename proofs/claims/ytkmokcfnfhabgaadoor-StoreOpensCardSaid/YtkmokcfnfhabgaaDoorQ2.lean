-- Written by a program of this session (wip/xprint.py) over the kit's print.py; Lean checks it.
import Derived.Test.YtkmokcfnfhabgaaDoorQ0
import Derived.Test.YtkmokcfnfhabgaaDoorQ1
namespace Go.Proofs.YtkmokcfnfhabgaaDoor.Q
open Go.RowKit Go.Proofs.YtkmokcfnfhabgaaDoorW.PrintWords Go.Proofs.YtkmokcfnfhabgaaDoorW.PrintLast Go.Proofs.YtkmokcfnfhabgaaDoorW.PrintMore
attribute [local go_sem] max2_int min2_int max_two min_two max_three min_three max_four min_four   -- for this text's walks alone
open Go.Proofs.YtkmokcfnfhabgaaDoor.X
set_option linter.unusedVariables false
set_option linter.unusedSimpArgs false

/-! ### hash_spread: function 84, by hand -/
set_option maxHeartbeats 4000000 in
set_option maxRecDepth 100000 in
theorem hash_spread.says (b : ByteArray) (hb : b.size = 64) (w : World) : Calls Tryd.prog 84 #[.string b] w fun e w' => e = .returned (.agg (nums .u32 (spr b.data.toList)).toArray) ∧ Below w.heap.size w w' := by
 have kb := fun (s : ByteArray) W => print_bytes (P := Tryd.prog) 9 22 5 Tryd.underlying9 Tryd.underlying22 Tryd.underlying5 s W
 go_enter Tryd.func84, Tryd.ntmps84
 go_wp2
 go_loopw [10] (fun v10 wr => ∃ k : Nat, k ≤ 16 ∧ v10 = .int .i64 k ∧ ArrK .u32 wr w.heap.size 114 (List.replicate 64 0) ∧ ArrK .u32 wr (w.heap.size + 1) 114 (sprTo b.data.toList k) ∧ Below w.heap.size w wr) (fun v10 _ => 16 - (intOf v10).toNat)
 case atStart =>
  refine ⟨0, by omega, rfl, ?_, ?_, ?_⟩
  ·
   exact arr_alloc (arr_new w 114 (List.replicate 64 0) rfl) _
  ·
   exact arr_new _ 114 (List.replicate 64 0) (by simp)
  ·
   exact ((Below.refl _ _).alloc (Nat.le_refl _) _).alloc (by simp) _
 case round =>
  obtain ⟨k, hk, rfl, hres, harr, hbel⟩ := hrel
  by_cases hlt : k < 16
  ·
   have hdec : decide ((k : Int) < 16) = true := by simp; omega
   have hb' : (b.size : Int) = 64 := by omega
   go_wp2_with fail
   have hbel1 := bytes_below (Below.refl wr.heap.size wr) (Nat.le_refl _) 5 (b.extract (4 * k) 64)
   have hlen : (b.extract (4 * k) 64).size = 64 - 4 * k := by simp; omega
   have hrd := Kd.C_of_reads (d := (0 : Int)) (h1 := fun _ => rfl) (bytes_reads wr 5 (b.extract (4 * k) 64) (by omega))
   have hgc := grownCap_ge wr (b.extract (4 * k) 64).size 0 5
   have hres1 := arr_below hres hbel1
   have harr1 := arr_below harr hbel1
   rw [← bytesOf_length (b.extract (4 * k) 64)] at hrd
   rw [hlen] at hgc
   have hlen2 : 64 - 4 * k = (bytesOf (b.extract (4 * k) 64)).length := by rw [bytesOf_length, hlen]
   have hbsz : w.heap.size ≤ wr.heap.size := hbel.size
   have hbel2 := below_then hbel hbsz hbel1
   generalize hW : Lib.bytesWorld wr 5 (b.extract (4 * k) 64) = w1 at hbel1 hbel2 hrd hres1 harr1 ⊢
   refine (be_Get.says _ _ _ (bytesOf (b.extract (4 * k) 64)) w1 hlen2 hrd (by rw [← hlen2]; exact hgc)).mono ?_
   clear hW hres harr hbel hbel1 hrd hgc hlen hlen2
   rintro e w2 ⟨rfl, rfl⟩
   have hc := arr_cell harr1 k (by rw [sprTo_length]; omega)
   have hf := arr_frozen harr1 k
   go_wp2
   go_roundw
   case measure => simp [intOf]; omega
   case rel =>
    rw [sprGet_is b k hb]
    refine ⟨k + 1, by omega, by go_num, arr_far hres1 (by show w.heap.size ≠ w.heap.size + 1; omega) _, ?_, hbel2.setCell (p := ⟨w.heap.size + 1, k, none⟩) (by show w.heap.size ≤ w.heap.size + 1; omega) _⟩
    rw [sprTo_get _ _ hlt]
    exact arr_set harr1 k _
  ·
   obtain rfl : k = 16 := by omega
   clear hlt hk kb
   go_wp2
   obtain ⟨wo, rfl⟩ : ∃ wo : World, wo = wr := ⟨_, rfl⟩
   go_loopw [5] (fun v5 wr => ∃ j : Nat, j ≤ 48 ∧ v5 = .int .i64 ((j : Int) + 16) ∧ ArrK .u32 wr w.heap.size 114 (List.replicate 64 0) ∧ ArrK .u32 wr (w.heap.size + 1) 114 (sprTo b.data.toList (j + 16)) ∧ Below w.heap.size w wr) (fun v5 _ => 64 - (intOf v5).toNat)
   case atStart => exact ⟨0, by omega, rfl, hres, harr, hbel⟩
   case round =>
    clear hres harr hbel
    obtain ⟨j, hj, rfl, hres, harr, hbel⟩ := hrel
    by_cases hlt : j < 48
    ·
     have hdec : decide ((j : Int) + 16 < 64) = true := by simp; omega
     have l0 := sprTo_length b.data.toList (j + 16)
     have c16 := arr_cell harr j (by omega)
     have c15 := arr_cell harr (j + 1) (by omega)
     have c7 := arr_cell harr (j + 9) (by omega)
     have c2 := arr_cell harr (j + 14) (by omega)
     have c0 := arr_cell harr (j + 16) (by omega)
     have hf := arr_frozen harr (j + 16)
     have Hs := Lib.hid (sprTo_new b.data.toList (j + 16) (by omega))
     obtain ⟨xs, hxs⟩ : ∃ xs, sprTo b.data.toList (j + 16) = xs := ⟨_, rfl⟩
     rw [hxs] at l0 c16 c15 c7 c2 c0 harr Hs
     have hxs := Lib.hid hxs
     have e15 : IntKind.i64.wrap ((j : Int) + 16 - 15) = ((j + 1 : Nat) : Int) := (IntWalk.i64_in _ (by omega)).trans (by omega)
     have e2 : IntKind.i64.wrap ((j : Int) + 16 - 2) = ((j + 14 : Nat) : Int) := (IntWalk.i64_in _ (by omega)).trans (by omega)
     have b15 : (0 ≤ ((j + 1 : Nat) : Int) ∧ ((j + 1 : Nat) : Int) < 64) = True := by simp; omega
     have b2 : (0 ≤ ((j + 14 : Nat) : Int) ∧ ((j + 14 : Nat) : Int) < 64) = True := by simp; omega
     clear l0
     go_wp2_with fail
     go_quiet (fail)
     have hbsz : w.heap.size ≤ wr.heap.size := hbel.size
     have hbelN : Below wr.heap.size wr (wr.drewN nq) := ⟨rfl, rfl, rfl, Nat.le_refl _, fun _ _ => rfl⟩
     have hbel2 := below_then hbel hbsz hbelN
     have harr2 := arr_below harr hbelN
     have hres2 := arr_below hres hbelN
     clear hbelN
     generalize wr.drewN nq = w2 at hbel2 harr2 hres2 ⊢
     clear harr hres hbel c16 c15 c7 c2 c0 hf
     go_wp2_with fail
     refine (rot_7 _ _).mono ?_
     rintro e w3 ⟨rfl, rfl⟩
     go_wp2_with fail
     refine (rot_18 _ _).mono ?_
     rintro e w3 ⟨rfl, rfl⟩
     go_wp2_with fail
     refine (rot_17 _ _).mono ?_
     rintro e w4 ⟨rfl, rfl⟩
     go_wp2_with fail
     refine (rot_19 _ _).mono ?_
     rintro e w5 ⟨rfl, rfl⟩
     have l0 : xs.length = 64 := by rw [← (show sprTo b.data.toList (j + 16) = xs from hxs)]; exact sprTo_length _ _
     have e16 : IntKind.i64.wrap (j : Int) = (j : Int) := IntWalk.i64_in _ (by omega)
     have e7 : IntKind.i64.wrap ((j : Int) + 16 - 7) = (j : Int) + 9 := (IntWalk.i64_in _ (by omega)).trans (by omega)
     have t7 : ((j : Int) + 9).toNat = j + 9 := by omega
     have e0 : ((j : Int) + 16).toNat = j + 16 := by omega
     have b16 : ((j : Int) < 64) = True := by simp; omega
     have b7 : (0 ≤ (j : Int) + 9 ∧ (j : Int) + 9 < 64) = True := by simp; omega
     have b0 : (0 ≤ (j : Int) + 16 ∧ (j : Int) + 16 < 64) = True := by simp; omega
     have c16 := arr_cell harr2 j (by omega)
     have c7 := arr_cell harr2 (j + 9) (by omega)
     have hf := arr_frozen harr2 (j + 16)
     clear b15 b2 e15 e2
     go_wp2_with fail
     go_still_tail 15, (by kernel_rfl)
     change wpList _ _ _ _ _ w5.drew
     have hbel3 : Below w.heap.size w w5.drew := below_drew hbel2
     have harr3 : ArrK .u32 w5.drew (w.heap.size + 1) 114 xs := harr2
     have hres3 : ArrK .u32 w5.drew w.heap.size 114 _ := hres2
     clear hbel2 harr2 hres2 c16 c7 hf
     generalize w5.drew = w6 at hbel3 harr3 hres3 ⊢
     have hf := arr_frozen harr3 (j + 16)
     have c0 := arr_cell harr3 (j + 16) (by omega)
     go_wp2_with fail
     refine ⟨?_, ?measure⟩
     apply Exists.intro
     (repeat apply Exists.intro)
     refine ⟨?rel, rfl⟩
     case measure => simp [intOf]; omega
     case rel =>
      refine ⟨j + 1, by omega, by go_num, arr_far hres3 (by show w.heap.size ≠ w.heap.size + 1; omega) _, ?_, hbel3.setCell (p := ⟨w.heap.size + 1, j + 16, none⟩) (by show w.heap.size ≤ w.heap.size + 1; omega) _⟩
      rw [show j + 1 + 16 = j + 16 + 1 by omega, (show sprTo b.data.toList (j + 16 + 1) = xs.set (j + 16) (sprNew xs (j + 16)) from Hs), show sprNew xs (j + 16) = (rd xs (j : Int) + lowW (rd xs ((j + 1 : Nat) : Int)) + rd xs ((j + 9 : Nat) : Int) + highW (rd xs ((j + 14 : Nat) : Int))) % 4294967296 by
       unfold sprNew
       rw [show ((j + 16 : Nat) : Int) - 16 = (j : Int) by omega, show ((j + 16 : Nat) : Int) - 15 = ((j + 1 : Nat) : Int) by omega, show ((j + 16 : Nat) : Int) - 7 = ((j + 9 : Nat) : Int) by omega, show ((j + 16 : Nat) : Int) - 2 = ((j + 14 : Nat) : Int) by omega]]
      exact arr_set harr3 (j + 16) _
    ·
     obtain rfl : j = 48 := by omega
     clear hlt hj
     go_upto_region 14 with fail
     have l0 := sprTo_length b.data.toList 64
     apply wp_region_lit
     refine arr_load harr 114 (.tmp 3) rfl rfl rfl rfl (by rw [l0]; rfl) ?_
     refine arr_store hres (sprTo b.data.toList 64) (by rw [l0]; rfl) 114 (.tmp 2) (.tmp 65) rfl rfl rfl rfl (by rw [l0]; rfl) ?_
     refine wpList_nil ?_
     have hres2 := arr_setRow hres (sprTo b.data.toList 64)
     have hbel2 := below_setRow hbel (Nat.le_refl _) (nums .u32 (sprTo b.data.toList 64)).toArray
     go_wp2_with fail
     exact bodyPost_ret (arr_result hres2 rfl _ rfl rfl (by rw [l0]; rfl)) rfl ⟨rfl, hbel2⟩
def hash_spread.f (a0 : ByteArray) : Option (List Int) := none
theorem hash_spread.calls (a0 : ByteArray) (r : List Int) (w : World) (h : hash_spread.f a0 = some r) :
  Calls Tryd.prog 84 #[.string a0] w fun e w' => e = .returned (.agg (nums .u32 r).toArray) ∧ Below w.heap.size w w' := by cases h

/-! ### hash_mix: function 70, by hand -/
set_option maxHeartbeats 4000000 in
set_option maxRecDepth 100000 in
theorem hash_mix.says (hs : List Int) (hl : hs.length = 8) (b : ByteArray) (hb : b.size = 64) (w : World) (hG : GL w) : Calls Tryd.prog 70 #[.agg (nums .u32 hs).toArray, .string b] w fun e w' => e = .returned (.agg (nums .u32 (mixed hs b.data.toList)).toArray) ∧ Below w.heap.size w w' := by
 go_enter Tryd.func70, Tryd.ntmps70
 go_upto_region 1 with fail
 obtain ⟨w0, hw0⟩ : ∃ w0 : World, w0 = (w.alloc (.cells (nums .u32 hs).toArray 115)).alloc (.cells (nums .u32 (List.replicate 8 0)).toArray 115) := ⟨_, rfl⟩
 have hbel0 : Below w.heap.size w w0 := by rw [hw0]; exact ((Below.refl _ _).alloc (Nat.le_refl _) _).alloc (by simp) _
 have hh0 : ArrK .u32 w0 w.heap.size 115 hs := by rw [hw0]; exact arr_alloc (arr_new _ _ _ rfl) _
 have hr0 : ArrK .u32 w0 (w.heap.size + 1) 115 (List.replicate 8 0) := by rw [hw0]; exact arr_new _ _ _ (by simp)
 have hs0 : w0.heap.size = w.heap.size + 2 := by rw [hw0]; simp
 rw [show ((w.alloc (.cells (nums .u32 hs).toArray 115)).alloc (.cells #[Value.int IntKind.u32 0, Value.int IntKind.u32 0, Value.int IntKind.u32 0, Value.int IntKind.u32 0, Value.int IntKind.u32 0, Value.int IntKind.u32 0, Value.int IntKind.u32 0, Value.int IntKind.u32 0] 115)) = w0 from hw0.symm]
 clear hw0
 have hG0 := hG.below hbel0
 go_wp2_with (fail)
 refine (hash_spread.says b hb w0).mono ?_
 rintro e w1 ⟨rfl, hb1⟩
 have hbel1 := below_then hbel0 (by omega) hb1
 have hh1 := arr_below hh0 hb1
 have hr1 := arr_below hr0 hb1
 have hG1 := hG0.below hb1
 have hs1 : w.heap.size + 2 ≤ w1.heap.size := by rw [← hs0]; exact hb1.size
 clear hG0 hbel0 hh0 hr0 hb1 hG
 go_upto_region 2 with (refine arr_store (arr_new w1 114 (List.replicate 64 0) rfl) (spr b.data.toList) (by rw [spr_length]; rfl) 114 (.tmp 5) (.tmp 17) rfl rfl rfl rfl (by rw [spr_length]; rfl) ?_)
 refine wp_world ?_
 intro w2 hw2
 have hX2 : ArrK .u32 w2 w1.heap.size 114 (spr b.data.toList) := by rw [hw2]; exact arr_setRow (arr_new w1 114 (List.replicate 64 0) rfl) _
 have hb2 : Below w1.heap.size w1 w2 := by rw [hw2]; exact below_setRow ((Below.refl _ _).alloc (Nat.le_refl _) _) (Nat.le_refl _) _
 have hs2 : w1.heap.size + 1 ≤ w2.heap.size := by rw [hw2]; simp
 clear hw2
 have hbel2 := below_then hbel1 (by omega) hb2
 have hh2 := arr_below hh1 hb2
 have hr2 := arr_below hr1 hb2
 have hG2 := hG1.below hb2
 clear hG1 hbel1 hh1 hr1 hb2
 go_upto_region 3 with (first | refine arr_load hh2 115 (.tmp 2) rfl rfl rfl rfl (by rw [hl]; rfl) ?_ | refine arr_store (arr_new w2 115 (List.replicate 8 0) rfl) hs (by rw [hl]; rfl) 115 (.tmp 6) (.tmp 18) rfl rfl rfl rfl (by rw [hl]; rfl) ?_)
 refine wp_world ?_
 intro w3 hw3
 have hS3 : ArrK .u32 w3 w2.heap.size 115 hs := by rw [hw3]; exact arr_setRow (arr_new w2 115 (List.replicate 8 0) rfl) _
 have hb3 : Below w2.heap.size w2 w3 := by rw [hw3]; exact below_setRow ((Below.refl _ _).alloc (Nat.le_refl _) _) (Nat.le_refl _) _
 have hs3 : w2.heap.size + 1 ≤ w3.heap.size := by rw [hw3]; simp
 clear hw3
 have hbel3 := below_then hbel2 (by omega) hb3
 have hh3 := arr_below hh2 hb3
 have hr3 := arr_below hr2 hb3
 have hX3 := arr_below hX2 hb3
 have hG3 := hG2.below hb3
 clear hG2 hbel2 hh2 hr2 hX2 hb3
 obtain ⟨_, _, -, hGr⟩ := hG3
 go_upto_region 4 with (refine arr_load hGr 114 (.global 1) rfl rfl rfl rfl rfl ?_)
 clear hGr
 go_loopw [20] (fun v20 wr => ∃ i : Nat, i ≤ 64 ∧ v20 = .int .i64 i ∧ ArrK .u32 wr w.heap.size 115 hs ∧ ArrK .u32 wr (w.heap.size + 1) 115 (List.replicate 8 0) ∧ ArrK .u32 wr w1.heap.size 114 (spr b.data.toList) ∧ ArrK .u32 wr w2.heap.size 115 (mixTo (spr b.data.toList) hs i) ∧ Below w.heap.size w wr) (fun v20 _ => 64 - (intOf v20).toNat)
 case atStart => exact ⟨0, by omega, rfl, hh3, hr3, hX3, hS3, hbel3⟩
 case round =>
  clear hh3 hr3 hX3 hS3 hbel3
  obtain ⟨i, hi, rfl, hh, hr, hX, hS, hbel⟩ := hrel
  by_cases hlt : i < 64
  ·
   have hdec : decide ((i : Int) < 64) = true := by simp; omega
   have lX := spr_length b.data.toList
   have lS := mixTo_length (spr b.data.toList) hs hl i
   have hidx : ∀ W, Sem.run Tryd.prog (Instr.index 114 (.agg (nums .u32 roundsL).toArray) (.int .i64 (i : Int))) W = .ok (.int .u32 (rd roundsL (i : Int))) W := fun W => run_index_num (n := 64) rfl rfl rfl rfl rfl rfl i hlt W
   obtain ⟨ss, hss⟩ : ∃ ss, ss = mixTo (spr b.data.toList) hs i := ⟨_, rfl⟩
   rw [← hss] at lS hS
   have s0 := arr_cell hS 0 (by omega)
   have s4 := arr_cell hS 4 (by omega)
   have Hss := Lib.hid hss
   clear hss
   go_wp2_with (fail)
   go_quiet (fail)
   have hbsz : w.heap.size ≤ wr.heap.size := hbel.size
   have hbelN : Below wr.heap.size wr (wr.drewN nq) := ⟨rfl, rfl, rfl, Nat.le_refl _, fun _ _ => rfl⟩
   have hbel2 := below_then hbel hbsz hbelN
   have hh2 := arr_below hh hbelN
   have hr2 := arr_below hr hbelN
   have hX2 := arr_below hX hbelN
   have hS2 := arr_below hS hbelN
   clear hbelN s0 s4 hh hr hX hS hbel
   generalize wr.drewN nq = w4 at hbel2 hh2 hr2 hX2 hS2 ⊢
   go_wp2_with fail
   refine (rot_6 _ _).mono ?_
   rintro e w5 ⟨rfl, rfl⟩
   go_wp2_with fail
   refine (rot_11 _ _).mono ?_
   rintro e w6 ⟨rfl, rfl⟩
   go_wp2_with fail
   refine (rot_25 _ _).mono ?_
   rintro e w7 ⟨rfl, rfl⟩
   go_wp2_with fail
   refine (rot_2 _ _).mono ?_
   rintro e w8 ⟨rfl, rfl⟩
   go_wp2_with fail
   refine (rot_13 _ _).mono ?_
   rintro e w9 ⟨rfl, rfl⟩
   go_wp2_with fail
   refine (rot_22 _ _).mono ?_
   rintro e w10 ⟨rfl, rfl⟩
   go_wp2_with fail
   have s1 := arr_cell hS2 1 (by omega)
   have s2 := arr_cell hS2 2 (by omega)
   have s5 := arr_cell hS2 5 (by omega)
   have s6 := arr_cell hS2 6 (by omega)
   have s7 := arr_cell hS2 7 (by omega)
   have x0 := arr_cell hX2 i (by omega)
   have b0 : ((i : Int) < 64) = True := by simp; omega
   go_still (by kernel_rfl)
   obtain ⟨one, hone⟩ : ∃ one, one = mixOne (spr b.data.toList) ss i := ⟨_, rfl⟩
   rw [show IntKind.u32.wrap (IntKind.u32.wrap (IntKind.u32.wrap (IntKind.u32.wrap (rd ss 7 + bits BinOp.xor IntKind.u32 (bits BinOp.xor IntKind.u32 (rr (rd ss 4) 6) (rr (rd ss 4) 11)) (rr (rd ss 4) 25)) + bits BinOp.xor IntKind.u32 (bits BinOp.and IntKind.u32 (rd ss 4) (rd ss 5)) (bits BinOp.and IntKind.u32 (bits BinOp.xor IntKind.u32 (if IntKind.u32.signed = true then -1 else IntKind.u32.max) (rd ss 4)) (rd ss 6))) + rd roundsL i) + rd (spr b.data.toList) i) = one from hone.symm]
   have Hone := Lib.hid hone
   clear hone
   change Exit.then _ _ _ _ w10.drew
   clear hidx s1 s2 s5 s6 s7 x0 b0 hdec
   rw [show (if IntKind.u32.signed = true then (-1 : Int) else IntKind.u32.max) = 4294967295 from rfl]
   have s0 := arr_cell hS2 0 (by omega)
   have s1 := arr_cell hS2 1 (by omega)
   have s2 := arr_cell hS2 2 (by omega)
   have s3 := arr_cell hS2 3 (by omega)
   have s4 := arr_cell hS2 4 (by omega)
   have s5 := arr_cell hS2 5 (by omega)
   have s6 := arr_cell hS2 6 (by omega)
   go_upto_region 11 with fail
   obtain ⟨two, htwo⟩ : ∃ two, two = mixTwo ss := ⟨_, rfl⟩
   rw [show (bits BinOp.xor IntKind.u32 (bits BinOp.xor IntKind.u32 (rr (rd ss 0) 2) (rr (rd ss 0) 13)) (rr (rd ss 0) 22) + bits BinOp.xor IntKind.u32 (bits BinOp.xor IntKind.u32 (bits BinOp.and IntKind.u32 (rd ss 0) (rd ss 1)) (bits BinOp.and IntKind.u32 (rd ss 0) (rd ss 2))) (bits BinOp.and IntKind.u32 (rd ss 1) (rd ss 2))) % 4294967296 = two from (IntKind.wrap_u32 _).symm.trans htwo.symm]
   have Htwo := Lib.hid htwo
   clear htwo
   have hS3 : ArrK .u32 w10.drew w2.heap.size 115 ss := hS2
   go_upto_region 12 with (refine arr_store hS3 [(one + two) % 4294967296, rd ss 0, rd ss 1, rd ss 2, (rd ss 3 + one) % 4294967296, rd ss 4, rd ss 5, rd ss 6] lS 115 (.tmp 6) (.tmp 101) rfl rfl rfl rfl rfl ?_)
   refine wp_world ?_
   intro w11 hw11
   have hst : mixStep (spr b.data.toList) ss i = [(one + two) % 4294967296, rd ss 0, rd ss 1, rd ss 2, (rd ss 3 + one) % 4294967296, rd ss 4, rd ss 5, rd ss 6] := by
    rw [show one = mixOne (spr b.data.toList) ss i from Hone, show two = mixTwo ss from Htwo]
    unfold mixStep
    simp only [w32, IntKind.wrap_u32]
   have hS5 : ArrK .u32 w11 w2.heap.size 115 (mixTo (spr b.data.toList) hs (i + 1)) := by
    rw [hw11, mixTo_succ, ← (show ss = mixTo (spr b.data.toList) hs i from Hss), hst]
    exact arr_setRow hS3 _
   have hh5 : ArrK .u32 w11 w.heap.size 115 hs := by rw [hw11]; exact arr_setRow_far hh2 (by omega) _
   have hr5 : ArrK .u32 w11 (w.heap.size + 1) 115 (List.replicate 8 0) := by rw [hw11]; exact arr_setRow_far hr2 (by omega) _
   have hX5 : ArrK .u32 w11 w1.heap.size 114 (spr b.data.toList) := by rw [hw11]; exact arr_setRow_far hX2 (by omega) _
   have hbel5 : Below w.heap.size w w11 := by rw [hw11]; exact below_setRow (below_drew hbel2) (by omega) _
   clear hw11 hst Hone Htwo Hss hS3 hS2 hh2 hr2 hX2 hbel2 s0 s1 s2 s3 s4 s5 s6
   go_wp2_with fail
   exact ⟨⟨i + 1, by omega, by go_num, hh5, hr5, hX5, hS5, hbel5⟩, by simp [intOf]; omega⟩
  ·
   obtain rfl : i = 64 := by omega
   clear hlt hi
   go_upto_region 14 with fail
   obtain ⟨SS, hSS⟩ : ∃ SS, SS = mixTo (spr b.data.toList) hs 64 := ⟨_, rfl⟩
   have lS := mixTo_length (spr b.data.toList) hs hl 64
   rw [← hSS] at hS lS
   have HSS := Lib.hid hSS
   clear hSS
   go_loopw [103] (fun v103 wr => ∃ j : Nat, j ≤ 8 ∧ v103 = .int .i64 j ∧ ArrK .u32 wr w.heap.size 115 (addTo SS hs j) ∧ ArrK .u32 wr (w.heap.size + 1) 115 (List.replicate 8 0) ∧ ArrK .u32 wr w2.heap.size 115 SS ∧ Below w.heap.size w wr) (fun v103 _ => 8 - (intOf v103).toNat)
   case atStart => exact ⟨0, by omega, rfl, hh, hr, hS, hbel⟩
   case round =>
    clear hh hr hS hbel hX
    obtain ⟨j, hj, rfl, hh, hr, hS, hbel⟩ := hrel
    by_cases hlt : j < 8
    ·
     have hdec : decide ((j : Int) < 8) = true := by simp; omega
     have b0 : ((j : Int) < 8) = True := by simp; omega
     have la := (addTo_length SS hs j).trans hl
     obtain ⟨hj2, hhj⟩ : ∃ xs, xs = addTo SS hs j := ⟨_, rfl⟩
     rw [← hhj] at hh la
     have Hhj := Lib.hid hhj
     clear hhj
     have c0 := arr_cell hh j (by omega)
     have d0 := arr_cell hS j (by omega)
     have f0 := arr_frozen hh j
     go_wp2_with fail
     go_still_tail 8, (by kernel_rfl)
     change wpList _ _ _ _ _ wr.drew
     have hbel3 : Below w.heap.size w wr.drew := below_drew hbel
     have hh3 : ArrK .u32 wr.drew w.heap.size 115 hj2 := hh
     have hr3 : ArrK .u32 wr.drew (w.heap.size + 1) 115 _ := hr
     have hS3 : ArrK .u32 wr.drew w2.heap.size 115 SS := hS
     clear hbel hh hr hS c0 d0 f0
     generalize wr.drew = w6 at hbel3 hh3 hr3 hS3 ⊢
     have f0 := arr_frozen hh3 j
     have c0 := arr_cell hh3 j (by omega)
     go_wp2_with fail
     refine ⟨?_, ?measure⟩
     apply Exists.intro
     (repeat apply Exists.intro)
     refine ⟨?rel, rfl⟩
     case measure => simp [intOf]; omega
     case rel =>
      refine ⟨j + 1, by omega, by go_num, ?_, arr_far hr3 (by show w.heap.size + 1 ≠ w.heap.size; omega) _, arr_far hS3 (by show w2.heap.size ≠ w.heap.size; omega) _, hbel3.setCell (p := ⟨w.heap.size, j, none⟩) (by show w.heap.size ≤ w.heap.size; omega) _⟩
      rw [addTo_succ, ← (show hj2 = addTo SS hs j from Hhj)]
      exact arr_set hh3 j _
    ·
     obtain rfl : j = 8 := by omega
     clear hlt hj
     go_upto_region 18 with fail
     have la := (addTo_length SS hs 8).trans hl
     apply wp_region_lit
     refine arr_load hh 115 (.tmp 2) rfl rfl rfl rfl (by rw [la]; rfl) ?_
     refine arr_store hr (addTo SS hs 8) (by rw [la]; rfl) 115 (.tmp 4) (.tmp 115) rfl rfl rfl rfl (by rw [la]; rfl) ?_
     refine wpList_nil ?_
     have hr2 := arr_setRow hr (addTo SS hs 8)
     have hbel2 := below_setRow hbel (show w.heap.size ≤ w.heap.size + 1 by omega) (nums .u32 (addTo SS hs 8)).toArray
     go_wp2_with fail
     exact bodyPost_ret (arr_result hr2 rfl _ rfl rfl (by rw [la]; rfl)) rfl ⟨by rw [show SS = mixTo (spr b.data.toList) hs 64 from HSS]; rfl, hbel2⟩
def hash_mix.f (a0 : List Int) (a1 : ByteArray) : Option (List Int) := none
theorem hash_mix.calls (a0 : List Int) (a1 : ByteArray) (r : List Int) (w : World) (h : hash_mix.f a0 a1 = some r) :
  Calls Tryd.prog 70 #[.agg (nums .u32 a0).toArray, .string a1] w fun e w' => e = .returned (.agg (nums .u32 r).toArray) ∧ Below w.heap.size w w' := by cases h

/-! ### hash_Sum: function 64, by hand -/
theorem be_Long_nil (n : Nat) (hn : n < 18446744073709551616) : be_Long.f [] (n : Int) = some ((longL n).map fun c => (c.toNat : Int)) := by
 unfold be_Long.f be_Put.f
 have e (x : Nat) : (((x % 256).toUInt8.toNat : Nat) : Int) = (x : Int) % 256 := by
  rw [UInt8.toNat_ofNat']; omega
 simp only [Option.bind_some, List.length_nil, List.length_cons, List.nil_append, List.cons_append, longL, List.map_cons, List.map_nil, e]
 rw [if_pos (by decide), Option.bind_some, if_pos (by simp), Option.bind_some]
 simp only [Option.some.injEq, List.cons.injEq, and_true, List.cons_append, List.nil_append]
 omega
theorem padded_is (b : ByteArray) (hb : b.size ≤ 1000000000) : hash_padded.f b = some ⟨(padL b.data.toList).toArray⟩ := by
 have hn : ((183 - (b.size : Int)) % 64) = ((padFill b.size : Nat) : Int) := by unfold padFill; omega
 unfold hash_padded.f
 rw [show IntKind.u64.wrap (8 * (b.size : Int)) = ((8 * b.size : Nat) : Int) by simp [IntKind.wrap, IntKind.bits, IntKind.signed]; omega, be_Long_nil _ (by omega), Option.bind_some, if_pos (by omega), hn]
 have hp : padFill b.size < 64 := by unfold padFill; omega
 unfold strings_Repeat.f
 have h0 : ∀ n, Lib.repeatL [0] n = List.replicate n 0 := by
  intro n
  induction n with
  | zero => rfl
  | succ n ih => rw [Lib.repeatL, ih]; rfl
 have h1 (l : List UInt8) : strOfNums (l.map fun c => (c.toNat : Int)) = ⟨l.toArray⟩ := by
  unfold strOfNums; simp [List.map_map, Function.comp_def]
 have h2 : (⟨(Lib.repeatL (⟨#[0]⟩ : ByteArray).data.toList ((padFill b.size : Nat) : Int).toNat).toArray⟩ : ByteArray) = ⟨(List.replicate (padFill b.size) 0).toArray⟩ := by
  rw [Int.toNat_natCast]; exact congrArg (fun l : List UInt8 => (⟨l.toArray⟩ : ByteArray)) (h0 _)
 have h3 : (⟨(List.replicate (padFill b.size) (0 : UInt8)).toArray⟩ : ByteArray).size = padFill b.size := by show (List.replicate (padFill b.size) (0 : UInt8)).toArray.size = _; simp
 have h4 : (⟨(longL (8 * b.size)).toArray⟩ : ByteArray).size = 8 := rfl
 rw [if_pos ⟨by omega, by omega, by rw [Int.toNat_natCast]; show 1 * _ ≤ _; omega⟩, Option.bind_some, h2, h1, h3, h4, if_pos (by omega), if_pos (by omega)]
 congr 1
theorem put_is (l0 : List Int) (v : Int) (h : l0.length + 4 < 140737488355328) : be_Put.f l0 v = some (l0 ++ four v) := by
 unfold be_Put.f
 rw [Option.bind_some, if_pos (by simpa using h)]
 rfl
set_option maxHeartbeats 4000000 in
set_option maxRecDepth 100000 in
theorem hash_Sum.says (b : ByteArray) (hb : b.size ≤ 1000000000) (w : World) (hG : GL w) : Calls Tryd.prog 64 #[.string b] w fun e w' => e = .returned (.string (sumS b.data.toList)) ∧ Below w.heap.size w w' := by
 go_enter Tryd.func64, Tryd.ntmps64
 go_upto_region 1 with fail
 obtain ⟨_, _, hGb, -⟩ := id hG
 go_upto_region 2 with (first | refine arr_load hGb 115 (.global 0) rfl rfl rfl rfl rfl ?_ | refine arr_store (arr_new w 115 (List.replicate 8 0) rfl) beginL rfl 115 (.tmp 3) (.tmp 8) rfl rfl rfl rfl rfl ?_)
 refine wp_world ?_
 intro w1 hw1
 have hh1 : ArrK .u32 w1 w.heap.size 115 beginL := by rw [hw1]; exact arr_setRow (arr_new w 115 (List.replicate 8 0) rfl) _
 have hbel1 : Below w.heap.size w w1 := by rw [hw1]; exact below_setRow ((Below.refl _ _).alloc (Nat.le_refl _) _) (Nat.le_refl _) _
 have hs1 : w.heap.size + 1 ≤ w1.heap.size := by rw [hw1]; simp
 clear hw1 hGb
 go_wp2_with fail
 refine (hash_padded.calls b _ w1 (padded_is b hb)).mono ?_
 rintro e w2 ⟨rfl, hb2⟩
 have hbel2 := below_then hbel1 (by omega) hb2
 have hh2 := arr_below hh1 hb2
 have hs2 : w.heap.size + 1 ≤ w2.heap.size := Nat.le_trans hs1 hb2.size
 clear hbel1 hh1 hb2
 have lP := padL_mod b.data.toList
 obtain ⟨P, hP⟩ : ∃ P, P = padL b.data.toList := ⟨_, rfl⟩
 rw [← hP] at lP ⊢
 have HP := Lib.hid hP
 clear hP
 go_upto_region 3 with fail
 go_loopw [4] (fun v4 wr => ∃ (k : Nat) (q : ByteArray), 64 * k ≤ P.length ∧ v4 = .string q ∧ q.data.toList = P.drop (64 * k) ∧ ArrK .u32 wr w.heap.size 115 (statesTo P k) ∧ Below w.heap.size w wr ∧ w.heap.size + 1 ≤ wr.heap.size ∧ GL wr) (fun v4 _ => match v4 with | .string q => q.size | _ => 0)
 case atStart => exact ⟨0, _, by omega, rfl, rfl, hh2, hbel2, hs2, hG.below hbel2⟩
 case round =>
  clear hh2 hbel2 hs2
  obtain ⟨k, q, hk, rfl, hq, hh, hbel, hs, hGw⟩ := hrel
  have lq : q.size = P.length - 64 * k := by
   have := congrArg List.length hq
   rw [List.length_drop, Array.length_toList] at this
   exact this
  have hE : q.toList.isEmpty = decide (q.size = 0) := by
   rw [ByteArray.toList_eq]; show q.data.toList.isEmpty = decide (q.data.size = 0); rw [← Array.length_toList]; cases q.data.toList <;> rfl
  by_cases hlt : q.size = 0
  ·
   have hE' : q.toList.isEmpty = true := by rw [hE]; simp [hlt]
   obtain rfl : k = P.length / 64 := by omega
   clear hE lq hq hlt
   have lh := statesTo_length P (P.length / 64)
   obtain ⟨H, hH⟩ : ∃ H, H = statesTo P (P.length / 64) := ⟨_, rfl⟩
   rw [← hH] at hh lh
   have HH := Lib.hid hH
   clear hH
   go_upto_region 8 with (refine arr_load hh 115 (.tmp 3) rfl rfl rfl rfl (by rw [lh]; rfl) ?_)
   go_loopw [5, 20] (fun v5 v20 wr => ∃ j : Nat, j ≤ 8 ∧ v20 = .int .i64 j ∧ Kd.R (Kd.int .u8) 5 wr w.heap.size (fun _ => True) v5 (fourTo H j) ∧ Below w.heap.size w wr) (fun _ v20 _ => 8 - (intOf v20).toNat)
   case atStart => exact ⟨0, by omega, rfl, Kd.R_nil _ _ _ _ _, hbel⟩
   case round =>
    clear hh hbel hs hGw
    obtain ⟨j, hj, rfl, hr, hbel⟩ := hrel
    by_cases hlt : j < 8
    ·
     have hdec : decide ((j : Int) < 8) = true := by simp; omega
     have hidx : ∀ W, Sem.run Tryd.prog (Instr.index 115 (.agg (nums .u32 H).toArray) (.int .i64 (j : Int))) W = .ok (.int .u32 (rd H (j : Int))) W := fun W => run_index_num (n := 8) rfl rfl rfl rfl rfl lh j hlt W
     go_wp2_with fail
     refine (be_Put.calls (fun _ => True) u5 _ _ _ w wr hbel hr (put_is (fourTo H j) (rd H j) (by rw [fourTo_length]; omega))).mono ?_
     rintro e w4 ⟨v1, rfl, hr1, hb1, -⟩
     have hr2 := Kd.R_mono (ok' := fun _ => True) hr1 (fun _ _ => trivial)
     rw [← fourTo_succ] at hr2
     clear hr hr1 hbel
     go_wp2_with fail
     exact ⟨⟨j + 1, by omega, by go_num, hr2, hb1⟩, by simp [intOf]; omega⟩
    ·
     obtain rfl : j = 8 := by omega
     have hcv := own_string (P := Tryd.prog) Tryd.underlying22 Tryd.underlying5 Tryd.underlying9 (Kd.own_of_R hr)
     go_wp2_with fail
     go_ret
     exact ⟨by rw [sumS, ← (show P = padL b.data.toList from HP), ← (show H = statesTo P (P.length / 64) from HH)]; rfl, hbel⟩
  ·
   have hE' : q.toList.isEmpty = false := by rw [hE]; simp [hlt]
   clear hE
   have l1 : 64 ≤ q.size := by omega
   have b64 : ((64 : Int) ≤ (q.size : Int)) = True := by simp; omega
   have Lq := Lib.hid lq
   clear lq
   have lh := statesTo_length P k
   go_upto_region 5 with fail
   refine wp_region_still_tail 3 (by kernel_rfl) (by kernel_rfl) ?_
   simp only [List.take_succ_cons, List.take_zero, List.drop_succ_cons, List.drop_zero]
   change wpStill _ _ wr.drew _ _ _
   have hbel1 : Below w.heap.size w wr.drew := below_drew hbel
   have hh1 : ArrK .u32 wr.drew w.heap.size 115 (statesTo P k) := hh
   have hs1 : w.heap.size + 1 ≤ wr.drew.heap.size := hs
   have hG1 : GL wr.drew := hGw
   clear hbel hh hs hGw
   refine arr_still_load hh1 115 (.tmp 3) rfl rfl rfl rfl (by rw [lh]; rfl) ?_
   repeat still_step
   refine wpStill_nil ?_
   change wpList _ _ _ _ _ wr.drew
   generalize wr.drew = w3 at hbel1 hh1 hs1 hG1 ⊢
   go_wp2_with fail
   have le : (q.extract 0 64).size = 64 := by simp; omega
   refine (hash_mix.says (statesTo P k) lh (q.extract 0 64) le w3 hG1).mono ?_
   rintro e w4 ⟨rfl, hb4⟩
   have hbel4 := below_then hbel1 (by omega) hb4
   have hh4 := arr_below hh1 hb4
   have hs4 : w.heap.size + 1 ≤ w4.heap.size := Nat.le_trans hs1 hb4.size
   have hG4 := hG1.below hb4
   clear hbel1 hh1 hs1 hG1 hb4
   have lm := mixed_length (statesTo P k) (q.extract 0 64).data.toList
   rw [lh] at lm
   obtain ⟨M, hM⟩ : ∃ M, M = mixed (statesTo P k) (q.extract 0 64).data.toList := ⟨_, rfl⟩
   rw [← hM] at lm ⊢
   have HM := Lib.hid hM
   clear hM
   go_upto_region 4 with (refine arr_store hh4 M (by rw [lm, lh]) 115 (.tmp 3) (.tmp 18) rfl rfl rfl rfl (by rw [lm]; rfl) ?_)
   refine wp_world ?_
   intro w5 hw5
   have hq2 : (q.extract 0 64).data.toList = blockOf P k := by
    rw [ByteArray.data_extract, Array.toList_extract, List.extract_eq_take_drop, hq]; rfl
   have hq3 : (q.extract 64 q.size).data.toList = P.drop (64 * (k + 1)) := by
    rw [ByteArray.data_extract, Array.toList_extract, List.extract_eq_take_drop, hq, List.take_of_length_le (by rw [List.length_drop, List.length_drop]; have := (show q.size = P.length - 64 * k from Lq); omega), List.drop_drop]
    congr 1
   have hM2 : M = mixed (statesTo P k) (blockOf P k) := by rw [show M = mixed (statesTo P k) (q.extract 0 64).data.toList from HM, hq2]
   rw [hM2] at hw5
   have hh5 : ArrK .u32 w5 w.heap.size 115 (statesTo P (k + 1)) := by rw [hw5, statesTo_succ]; exact arr_setRow hh4 _
   have hbel5 : Below w.heap.size w w5 := by rw [hw5]; exact below_setRow hbel4 (Nat.le_refl _) _
   have hs5 : w.heap.size + 1 ≤ w5.heap.size := by rw [hw5, size_setRow]; exact hs4
   have hG5 : GL w5 := hG.below hbel5
   clear hw5 hh4 hbel4 hs4 hG4 lm hq2
   go_wp2_with fail
   have Lq2 : q.size = P.length - 64 * k := Lq
   exact ⟨⟨k + 1, _, by omega, rfl, hq3, hh5, hbel5, hs5, hG5⟩, by show (q.extract 64 q.size).size < q.size; simp; omega⟩
def hash_Sum.f (a0 : ByteArray) : Option (ByteArray) := if a0.size ≤ 1000000000 then some (sumS a0.data.toList) else none
theorem hash_Sum.calls (a0 : ByteArray) (r : ByteArray) (w : World) (h : hash_Sum.f a0 = some r) (hGL : GL w) :
  Calls Tryd.prog 64 #[.string a0] w fun e w' => e = .returned (.string r) ∧ Below w.heap.size w w' := by
 unfold hash_Sum.f at h
 split at h
 case isTrue hs =>
  obtain rfl := Option.some.inj h
  exact hash_Sum.says a0 hs w hGL
 case isFalse hs => exact absurd h (by simp)

/-! ### frame_mark: function 52, by hand -/
theorem take_four (l : List Int) (h : 4 ≤ l.length) : l.take 4 = [rd l 0, rd l 1, rd l 2, rd l 3] := by
 match l, h with
 | a :: b :: c :: d :: r, _ => rfl
set_option maxHeartbeats 4000000 in
set_option maxRecDepth 100000 in
theorem frame_mark.says (As Ab : Option Addr) (cs cb : Nat) (ls lb : List Int) (w : World) (hs : Kd.C (Kd.int .u8) w As ls.length ls) (hb : Kd.C (Kd.int .u8) w Ab lb.length lb) (hl : ls.length + lb.length ≤ 1000000000) (hG : GL w) :
  Calls Tryd.prog 52 #[.slice As ls.length cs, .slice Ab lb.length cb] w fun e w' => e = .returned (.agg (nums .u8 (markL (strOfNums ls ++ strOfNums lb))).toArray) ∧ Below w.heap.size w w' := by
 have s1 : (strOfNums ls ++ strOfNums lb).size ≤ 1000000000 := by rw [ByteArray.size_append, strOfNums_size, strOfNums_size]; exact hl
 have g1 : (9223372036854775807 < (strOfNums ls).size + (strOfNums lb).size) = False := eq_false (by rw [strOfNums_size, strOfNums_size]; omega)
 go_enter Tryd.func52, Tryd.ntmps52
 go_upto_region 1 with fail
 refine wp_world ?_
 intro w1 hw1
 have hA1 : ArrK .u8 w1 w.heap.size 101 (List.replicate 4 0) := by rw [hw1]; exact arr_new w 101 (List.replicate 4 0) rfl
 have hb1 : Below w.heap.size w w1 := by rw [hw1]; exact (Below.refl _ _).alloc (Nat.le_refl _) _
 have hz1 : w.heap.size + 1 ≤ w1.heap.size := by rw [hw1]; simp
 clear hw1
 have hcv1 := Kd.C_string (P := Tryd.prog) (A := As) (c := cs) Tryd.underlying22 Tryd.underlying5 Tryd.underlying9 (Kd.C_below hs hb1)
 have hcv2 := Kd.C_string (P := Tryd.prog) (A := Ab) (c := cb) Tryd.underlying22 Tryd.underlying5 Tryd.underlying9 (Kd.C_below hb hb1)
 go_wp2_with fail
 refine (hash_Sum.says _ s1 w1 (hG.below hb1)).mono ?_
 rintro e w2 ⟨rfl, hb2⟩
 have hA2 := arr_below hA1 hb2
 have hb2t := below_then hb1 hb1.size hb2
 have hz2 : w.heap.size + 1 ≤ w2.heap.size := Nat.le_trans hz1 hb2.size
 clear hcv1 hcv2 hA1 hb1 hb2
 obtain ⟨S, hS⟩ : ∃ S, S = sumS (strOfNums ls ++ strOfNums lb).data.toList := ⟨_, rfl⟩
 have hSs : S.size = 32 := by rw [hS]; exact sumS_size _
 rw [← hS]
 have HS := Lib.hid hS
 clear hS
 have kb := fun (s : ByteArray) W => print_bytes (P := Tryd.prog) 9 22 5 Tryd.underlying9 Tryd.underlying22 Tryd.underlying5 s W
 have hO := OwnM.of_bytes w2 5 w2.heap.size (Nat.le_refl _) S (by rw [hSs]; decide)
 obtain ⟨g, cap, hv, -, hcl⟩ := hO.cell
 simp only [Value.slice.injEq, Option.some.injEq, Addr.mk.injEq, and_true, true_and] at hv
 obtain ⟨rfl, -⟩ := hv
 have hbl : (bytesOf S).length = 32 := by rw [bytesOf_length, hSs]
 have c0 := hcl 0 (by omega)
 have c1 := hcl 1 (by omega)
 have c2 := hcl 2 (by omega)
 have c3 := hcl 3 (by omega)
 have hb3 : Below w2.heap.size w2 (Lib.bytesWorld w2 5 S) := bytes_below (Below.refl _ _) (Nat.le_refl _) _ _
 have hA3 := arr_below hA2 hb3
 have hb3t := below_then hb2t hb2t.size hb3
 have hm : markL (strOfNums ls ++ strOfNums lb) = [rd (bytesOf S) 0, rd (bytesOf S) 1, rd (bytesOf S) 2, rd (bytesOf S) 3] := by
  unfold markL
  rw [← (show S = sumS (strOfNums ls ++ strOfNums lb).data.toList from HS)]
  exact take_four _ (by omega)
 clear hcl hO hA2 hb2t hbl hb3
 have harr : ∀ c W, Sem.run Tryd.prog (Instr.arrayAt 101 (.slice (some ⟨w2.heap.size, 0, none⟩) 32 c)) W = .ok (.pointer (some ⟨w2.heap.size, 0, none⟩)) W := fun c W => run_arrayAt (P := Tryd.prog) W 101 _ _ _ _ _ Tryd.underlying101 (by decide)
 go_wp2_with (refine arr_store hA3 [rd (bytesOf S) 0, rd (bytesOf S) 1, rd (bytesOf S) 2, rd (bytesOf S) 3] rfl 101 (.tmp 4) (.tmp 13) rfl rfl rfl rfl rfl ?_)
 have hA4 := arr_setRow hA3 [rd (bytesOf S) 0, rd (bytesOf S) 1, rd (bytesOf S) 2, rd (bytesOf S) 3]
 have hb4 := below_setRow hb3t (Nat.le_refl _) (nums .u8 [rd (bytesOf S) 0, rd (bytesOf S) 1, rd (bytesOf S) 2, rd (bytesOf S) 3]).toArray
 exact bodyPost_ret (arr_result hA4 rfl _ rfl rfl rfl) rfl ⟨by rw [hm], hb4⟩
def frame_mark.f (l0 l1 : List Int) : Option (List Int) := none
theorem frame_mark.calls (a : Nat) (h : frame_mark.f [] [] = some []) : True := trivial
theorem markL_length (s : ByteArray) : (markL s).length = 4 := by
 unfold markL
 rw [List.length_take, bytesOf_length, sumS_size]; rfl
theorem arr_C {w : World} {g T : Nat} {xs : List Int} (h : ArrK .u8 w g T xs) (hl : xs.length ≤ 9223372036854775807) (n : Nat) (hn : xs.length = n) : Kd.C (Kd.int .u8) w (some ⟨g, 0, none⟩) n xs := by
 subst hn
 refine ⟨rfl, hl, fun _ => ⟨⟨g, 0, none⟩, rfl, fun j p hj => ⟨[.int .u8 p], rfl, rfl, fun i u hu => ?_⟩⟩⟩
 have hlt : j < xs.length := (List.getElem?_eq_some_iff.1 hj).1
 match i, hu with
 | 0, hu =>
  simp only [List.getElem?_cons_zero, Option.some.injEq] at hu
  subst hu
  have hc := arr_cell h j hlt
  have e : rd xs (j : Int) = p := by simp [rd, List.getD_eq_getElem?_getD, hj]
  rw [e] at hc
  have ha : (⟨g, 0, none⟩ : Addr).add (j * (Kd.int .u8).sz + 0) = ⟨g, j, none⟩ := by
   show (⟨g, 0, none⟩ : Addr).add (j * 1 + 0) = _
   unfold Addr.add
   simp
   intro h; omega
  rw [ha]
  exact hc

/-! ### frame_one: function 42, by hand -/
theorem getL_range (l : List Int) : 0 ≤ getL l ∧ getL l < 4294967296 := by
 have h : ∀ (l : List Int) (v : Int), 0 ≤ v ∧ v < 4294967296 → 0 ≤ l.foldl (fun v c => Go.bits .or .u32 (v * 256 % 4294967296) (c % 4294967296)) v ∧ l.foldl (fun v c => Go.bits .or .u32 (v * 256 % 4294967296) (c % 4294967296)) v < 4294967296 := by
  intro l
  induction l with
  | nil => intro v hv; exact hv
  | cons a t ih =>
   intro v _
   rw [List.foldl_cons]
   refine ih _ ?_
   unfold Go.bits
   simp only [IntKind.wrap_u32]
   omega
 exact h l 0 (by omega)
/-- What the first frame has in it; false: there is none. -/
def oneL (l : List Int) : List Int × Bool :=
 if l.length < 8 then ([], false)
 else if getL (l.take 4) > 32768 ∨ getL (l.take 4) > (l.length : Int) - 8 then ([], false)
 else ((l.drop 8).take (getL (l.take 4)).toNat, decide (markL (strOfNums (l.take 4) ++ strOfNums ((l.drop 8).take (getL (l.take 4)).toNat)) = (l.drop 4).take 4))
/-- A cut of a row of bytes that is read. -/
theorem cut_row {w : World} {A : Option Addr} {l : List Int} {c : Nat} (h : Kd.C (Kd.int .u8) w A l.length l) (hc : l.length ≤ c) (lo hi : Nat) (h1 : lo ≤ hi) (h2 : hi ≤ l.length) :
  ∃ Ai ci, (∀ W, Sem.run Tryd.prog (Instr.slice 22 (.slice A l.length c) (some (.int .i64 (lo : Int))) (some (.int .i64 (hi : Int))) none) W = .ok (.slice Ai (hi - lo) ci) W) ∧ Kd.C (Kd.int .u8) w Ai (hi - lo) ((l.take hi).drop lo) ∧ hi - lo ≤ ci := by
 obtain ⟨i05, hi05, _, hsz5, _⟩ := info_parts (show (Tryd.prog.info? 5).map (fun i => (i.zero, i.size, i.bytes)) = some (some (.int .u8 0), 1, 1) by kernel_rfl)
 have hcut := cut_mid (P := Tryd.prog) 22 5 .i64 .i64 Tryd.underlying22 hi05 1 hsz5 A l.length c (lo : Int) (hi : Int) (by omega) (by omega) (by omega) hc
 simp only [Int.toNat_natCast] at hcut
 have ht : (l.take hi).length = hi := by rw [List.length_take]; omega
 have hd : ((l.take hi).drop lo).length = hi - lo := by rw [List.length_drop, ht]
 have hC := Kd.C_drop (Kd.C_take h h2) (m := lo) (c := c) (by rw [ht]; exact h1) (by rw [ht]; omega)
 rw [hd] at hC
 exact ⟨_, _, hcut, hC, by omega⟩
/-- The four bytes behind the first four. -/
theorem cut_48 {w : World} {A : Option Addr} {l : List Int} {c : Nat} (h : Kd.C (Kd.int .u8) w A l.length l) (hc : l.length ≤ c) (h8 : 8 ≤ l.length) :
  ∃ g o cj, (∀ W, Sem.run Tryd.prog (Instr.slice 22 (.slice A l.length c) (some (.int .i64 4)) (some (.int .i64 8)) none) W = .ok (.slice (some ⟨g, o, none⟩) 4 cj) W) ∧ (∀ j < 4, w.cell? ⟨g, o + j, none⟩ = some (.int .u8 (rd l ((4 + j : Nat) : Int)))) := by
 obtain ⟨i05, hi05, _, hsz5, _⟩ := info_parts (show (Tryd.prog.info? 5).map (fun i => (i.zero, i.size, i.bytes)) = some (some (.int .u8 0), 1, 1) by kernel_rfl)
 have hcut := cut_mid (P := Tryd.prog) 22 5 .i64 .i64 Tryd.underlying22 hi05 1 hsz5 A l.length c 4 8 (by omega) (by omega) (by omega) hc
 have hcl0 := h.2.2 (by omega)
 obtain ⟨ad, rfl, hcl⟩ := hcl0
 refine ⟨ad.block, ad.off + 4, c - 4, ?_, ?_⟩
 ·
  intro W
  have := hcut W
  rw [if_neg (by omega)] at this
  simpa [Addr.add] using this
 ·
  intro j hj
  obtain ⟨cs, _, hK, hcs⟩ := hcl (4 + j) _ (List.getElem?_eq_getElem (by omega))
  have hK2 : cs = [.int .u8 (l[4 + j]'(by omega))] := hK
  rw [hK2] at hcs
  have h2 := hcs 0 _ rfl
  have ha : ad.add ((4 + j) * (Kd.int .u8).sz + 0) = ⟨ad.block, ad.off + 4 + j, none⟩ := by
   show ad.add ((4 + j) * 1 + 0) = _
   unfold Addr.add
   rw [if_neg (by omega)]
   simp <;> omega
  rw [ha] at h2
  have e : rd l ((4 + j : Nat) : Int) = l[4 + j]'(by omega) := by
   unfold rd
   rw [Int.toNat_natCast, List.getD_eq_getElem?_getD, List.getElem?_eq_getElem (by omega)]
   rfl
  rw [h2, e]
theorem cell_below {w w' : World} {a : Addr} {v : Value} (h : w.cell? a = some v) (hb : Below w.heap.size w w') : w'.cell? a = some v := by
 have h2 := hb.block a.block (World.block_lt_of_cell? w a h)
 unfold World.cell? at h ⊢
 rw [h2]
 exact h
theorem mark_at (As Ab : Option Addr) (cs cb ms mb : Nat) (ls lb : List Int) (w : World) (e1 : ls.length = ms) (e2 : lb.length = mb) (hs : Kd.C (Kd.int .u8) w As ls.length ls) (hb : Kd.C (Kd.int .u8) w Ab lb.length lb) (hl : ls.length + lb.length ≤ 1000000000) (hG : GL w) :
  Calls Tryd.prog 52 #[.slice As ms cs, .slice Ab mb cb] w fun e w' => e = .returned (.agg (nums .u8 (markL (strOfNums ls ++ strOfNums lb))).toArray) ∧ Below w.heap.size w w' := by
 subst e1; subst e2
 exact frame_mark.says As Ab cs cb ls lb w hs hb hl hG
theorem nil_C (w : World) : Kd.C (Kd.int .u8) w none ([] : List Int).length [] := ⟨rfl, by simp, fun h => absurd h (by simp)⟩
set_option maxHeartbeats 4000000 in
set_option maxRecDepth 100000 in
theorem frame_one.says (A0 : Option Addr) (c0 : Nat) (l0 : List Int) (w : World) (hr0 : Kd.C (Kd.int .u8) w A0 l0.length l0) (hc0 : l0.length ≤ c0) (hl : l0.length ≤ 100000000) (hGL : GL w) :
  Calls Tryd.prog 42 #[.slice A0 l0.length c0] w fun e w' => ∃ Ai ci, e = .returned (.tuple #[.slice Ai (oneL l0).1.length ci, .bool (oneL l0).2]) ∧ Kd.C (Kd.int .u8) w' Ai (oneL l0).1.length (oneL l0).1 ∧ (oneL l0).1.length ≤ ci ∧ Below w.heap.size w w' := by
 go_enter Tryd.func42, Tryd.ntmps42
 by_cases h8 : l0.length < 8
 ·
  have hdec : decide ((l0.length : Int) < 8) = true := by simp; omega
  have ho : oneL l0 = ([], false) := if_pos h8
  go_wp2_with fail
  go_ret2
  rw [ho]
  refine ⟨none, 0, by rfl, ?_, by simp, Below.refl _ _⟩
  exact nil_C w
 ·
  have hdec : decide ((l0.length : Int) < 8) = false := by simp; omega
  go_wp2_with fail
  refine (be_Get.says A0 _ c0 l0 w rfl hr0 hc0).mono ?_
  rintro e w1 ⟨rfl, rfl⟩
  obtain ⟨n, hn⟩ : ∃ n : Nat, getL (l0.take 4) = (n : Int) := ⟨(getL (l0.take 4)).toNat, by have := (getL_range (l0.take 4)).1; omega⟩
  rw [hn]
  by_cases hbig : 32768 < n
  ·
   have hdec2 : decide ((32768 : Int) < (n : Int)) = true := by simp; omega
   have ho : oneL l0 = ([], false) := by rw [oneL, if_neg h8, if_pos (.inl (by omega))]
   go_wp2_with fail
   go_ret2
   rw [ho]
   exact ⟨none, 0, by rfl, nil_C w1, by simp, Below.refl _ _⟩
  ·
   have hdec2 : decide ((32768 : Int) < (n : Int)) = false := by simp; omega
   by_cases hlong : l0.length < n + 8
   ·
    have hdec3 : decide ((l0.length : Int) - 8 < (n : Int)) = true := by simp; omega
    have ho : oneL l0 = ([], false) := by rw [oneL, if_neg h8, if_pos (.inr (by omega))]
    go_wp2_with fail
    go_ret2
    rw [ho]
    exact ⟨none, 0, by rfl, nil_C w1, by simp, Below.refl _ _⟩
   ·
    have hdec3 : decide ((l0.length : Int) - 8 < (n : Int)) = false := by simp; omega
    obtain ⟨Ai, ci, hcut, hCi, hci⟩ := cut_row hr0 hc0 8 (8 + n) (by omega) (by omega)
    rw [show 8 + n - 8 = n by omega] at hCi hci hcut
    rw [show ((8 + n : Nat) : Int) = 8 + (n : Int) by omega] at hcut
    rw [show ((8 : Nat) : Int) = 8 from rfl] at hcut
    obtain ⟨inn, hinn⟩ : ∃ inn, inn = (l0.take (8 + n)).drop 8 := ⟨_, rfl⟩
    rw [← hinn] at hCi
    have hinl : inn.length = n := by rw [hinn, List.length_drop, List.length_take]; omega
    have hinn2 : (l0.drop 8).take n = inn := by rw [hinn, List.drop_take, show 8 + n - 8 = n by omega]
    obtain ⟨g, o, cj, hcut2, hcl⟩ := cut_48 hr0 hc0 (by omega)
    have hcut3 := cut_to (P := Tryd.prog) 22 5 .i64 Tryd.underlying22 (info_parts (show (Tryd.prog.info? 5).map (fun i => (i.zero, i.size, i.bytes)) = some (some (.int .u8 0), 1, 1) by kernel_rfl)).choose_spec.1 A0 l0.length c0 4 (by omega) (by omega) hc0
    have hC4 := Kd.C_take hr0 (m := 4) (by omega)
    obtain ⟨M, hM⟩ : ∃ M, M = markL (strOfNums (l0.take 4) ++ strOfNums inn) := ⟨_, rfl⟩
    have hMl : M.length = 4 := by rw [hM]; exact markL_length _
    have ht4 : (l0.take 4).length = 4 := by rw [List.length_take]; omega
    obtain ⟨x0, hx0⟩ : ∃ x, x = rd l0 ((4 + 0 : Nat) : Int) := ⟨_, rfl⟩
    obtain ⟨x1, hx1⟩ : ∃ x, x = rd l0 ((4 + 1 : Nat) : Int) := ⟨_, rfl⟩
    obtain ⟨x2, hx2⟩ : ∃ x, x = rd l0 ((4 + 2 : Nat) : Int) := ⟨_, rfl⟩
    obtain ⟨x3, hx3⟩ : ∃ x, x = rd l0 ((4 + 3 : Nat) : Int) := ⟨_, rfl⟩
    have hx : (l0.drop 4).take 4 = [x0, x1, x2, x3] := by
     rw [take_four _ (by rw [List.length_drop]; omega), hx0, hx1, hx2, hx3]
     simp [rd, List.getD_eq_getElem?_getD]
    have k0 : w1.cell? ⟨g, o, none⟩ = some (.int .u8 x0) := by rw [hx0]; exact hcl 0 (by omega)
    have k1 : w1.cell? ⟨g, o + 1, none⟩ = some (.int .u8 x1) := by rw [hx1]; exact hcl 1 (by omega)
    have k2 : w1.cell? ⟨g, o + 2, none⟩ = some (.int .u8 x2) := by rw [hx2]; exact hcl 2 (by omega)
    have k3 : w1.cell? ⟨g, o + 3, none⟩ = some (.int .u8 x3) := by rw [hx3]; exact hcl 3 (by omega)
    have heq : ∀ W, Sem.run Tryd.prog (Op.equalIn 10000 101 (.agg (nums .u8 M).toArray) (.agg #[.int .u8 x0, .int .u8 x1, .int .u8 x2, .int .u8 x3])) W = .ok (M == [x0, x1, x2, x3]) W := fun W => run_equalIn_nums (P := Tryd.prog) W 9998 101 5 4 (k := .u8) Tryd.underlying101 Tryd.underlying5 (fun w => by kernel_rfl) M [x0, x1, x2, x3] hMl rfl
    have harr : ∀ c W, Sem.run Tryd.prog (Instr.arrayAt 101 (.slice (some ⟨g, o, none⟩) 4 c)) W = .ok (.pointer (some ⟨g, o, none⟩)) W := fun c W => run_arrayAt (P := Tryd.prog) W 101 _ _ _ _ _ Tryd.underlying101 (by decide)
    have ho : oneL l0 = (inn, M == [x0, x1, x2, x3]) := by
     rw [oneL, if_neg h8, if_neg (by omega), hn, Int.toNat_natCast, hinn2, ← hM, hx]
     congr 1
     rw [Bool.eq_iff_iff]; simp
    have hcallM : ∀ W, Below w1.heap.size w1 W → Calls Tryd.prog 52 #[.slice A0 4 c0, .slice Ai n ci] W fun e w' => e = .returned (.agg (nums .u8 M).toArray) ∧ Below W.heap.size W w' := fun W hW => by
     have := mark_at A0 Ai c0 ci 4 n (l0.take 4) inn W ht4 hinl (Kd.C_below hC4 hW) (by rw [hinl]; exact Kd.C_below hCi hW) (by omega) (hGL.below hW)
     rw [← hM] at this
     exact this
    have Hinl := Lib.hid hinl
    clear hinl hinn hinn2 hM hMl ht4 hx hx0 hx1 hx2 hx3 hcl hC4
    have ew : IntKind.i64.wrap (8 + (n : Int)) = 8 + (n : Int) := IntWalk.i64_in _ (by omega)
    go_upto_region 7 with fail
    have hb6 : Below w1.heap.size w1 w1.drew := below_drew (Below.refl _ _)
    -- [7
    refine start_ (n := 12) (S := fun w' => w'.cell? ⟨g, o, none⟩ = some (.int .u8 x0) ∧ w'.cell? ⟨g, o + 1, none⟩ = some (.int .u8 x1) ∧ w'.cell? ⟨g, o + 2, none⟩ = some (.int .u8 x2) ∧ w'.cell? ⟨g, o + 3, none⟩ = some (.int .u8 x3)) (ds := []) #[false, false, false, false, false, false, false, false, false, false, false, false] (by kernel_rfl) rfl rfl ⟨k0, k1, k2, k3⟩ (fun hHeld => ?_)
    generalize w1.drew = w6 at hb6 hHeld ⊢
    refine pure_ (i := 0) (N := some 26) (v := ?_) (a' := ?_) #[true, false, false, false, false, false, false, false, false, false, false, false] rfl rfl (by kernel_rfl) (fun _ _ _ h => h) (Or.inl ⟨by rfl, ?_⟩) ?_ ?_
    rotate_left
    ·
     intro w'
     go_simp
     with_reducible rfl
    rotate_left
    ·
     simp only [Act.put, List.setIfInBounds_toArray, List.set_cons_zero, List.set_cons_succ, i64_w, i32_w]
     rfl
    refine pure_ (i := 1) (N := some 27) (v := ?_) (a' := ?_) #[true, true, false, false, false, false, false, false, false, false, false, false] rfl rfl (by kernel_rfl) (fun _ _ _ h => h) (Or.inl ⟨by rfl, ?_⟩) ?_ ?_
    rotate_left
    ·
     intro w'
     go_simp
     with_reducible rfl
    rotate_left
    ·
     simp only [Act.put, List.setIfInBounds_toArray, List.set_cons_zero, List.set_cons_succ, i64_w, i32_w]
     rfl
    refine pure_ (i := 2) (N := some 28) (v := ?_) (a' := ?_) #[true, true, true, false, false, false, false, false, false, false, false, false] rfl rfl (by kernel_rfl) (fun _ _ _ h => h) (Or.inl ⟨by rfl, ?_⟩) ?_ ?_
    rotate_left
    ·
     intro w'
     go_simp
     with_reducible rfl
    rotate_left
    ·
     simp only [Act.put, List.setIfInBounds_toArray, List.set_cons_zero, List.set_cons_succ, i64_w, i32_w]
     rfl
    refine pure_ (i := 3) (N := some 29) (v := ?_) (a' := ?_) #[true, true, true, true, false, false, false, false, false, false, false, false] rfl rfl (by kernel_rfl) (fun _ _ _ h => h) (Or.inl ⟨by rfl, ?_⟩) ?_ ?_
    rotate_left
    ·
     intro w'
     go_simp
     with_reducible rfl
    rotate_left
    ·
     simp only [Act.put, List.setIfInBounds_toArray, List.set_cons_zero, List.set_cons_succ, i64_w, i32_w]
     rfl
    refine pure_ (i := 5) (N := some 31) (v := ?_) (a' := ?_) #[true, true, true, true, false, true, false, false, false, false, false, false] rfl rfl (by kernel_rfl) (fun _ _ _ h => h) (Or.inl ⟨by rfl, ?_⟩) ?_ ?_
    rotate_left
    ·
     intro w'
     go_simp
     with_reducible rfl
    rotate_left
    ·
     simp only [Act.put, List.setIfInBounds_toArray, List.set_cons_zero, List.set_cons_succ, i64_w, i32_w]
     rfl
    refine pure_ (i := 6) (N := some 32) (v := ?_) (a' := ?_) #[true, true, true, true, false, true, true, false, false, false, false, false] rfl rfl (by kernel_rfl) (fun _ _ _ h => h) (Or.inl ⟨by rfl, ?_⟩) ?_ ?_
    rotate_left
    ·
     intro w'
     go_simp
     with_reducible rfl
    rotate_left
    ·
     simp only [Act.put, List.setIfInBounds_toArray, List.set_cons_zero, List.set_cons_succ, i64_w, i32_w]
     rfl
    refine pure_ (i := 7) (N := some 33) (v := ?_) (a' := ?_) #[true, true, true, true, false, true, true, true, false, false, false, false] rfl rfl (by kernel_rfl) (fun _ _ _ h => h) (Or.inl ⟨by rfl, ?_⟩) ?_ ?_
    rotate_left
    ·
     intro w'
     go_simp
     with_reducible rfl
    rotate_left
    ·
     simp only [Act.put, List.setIfInBounds_toArray, List.set_cons_zero, List.set_cons_succ, i64_w, i32_w]
     rfl
    refine take_ (i := 8) (N := some 34) (v := ?_) (a' := ?_) #[true, true, true, true, false, true, true, true, true, false, false, false] rfl rfl (by kernel_rfl) (fun _ _ _ h => h) (Or.inl ⟨by rfl, ?_⟩) hHeld ?_ ?_
    rotate_left
    ·
     rintro w' ⟨s0, s1, s2, s3⟩
     go_simp
     with_reducible rfl
    rotate_left
    ·
     simp only [Act.put, List.setIfInBounds_toArray, List.set_cons_zero, List.set_cons_succ, i64_w, i32_w]
     rfl
    refine one_ (i := 4) (N := some 30) #[true, true, true, true, true, true, true, true, true, false, false, false] rfl rfl (by kernel_rfl) (by decide) (fun K hK => ?_)
    refine goes_ Tryd.func52 (by kernel_rfl) rfl #[.slice A0 4 c0, .slice Ai n ci] (by rfl) rfl rfl (by simp only [List.map_toArray, List.map_cons, List.map_nil]; rfl) ?_
    with_reducible refine (hcallM _ hb6).mono ?_
    rintro e w7 ⟨rfl, hb7⟩
    refine ⟨_, rfl, ?_⟩
    have hb7t := below_then hb6 hb6.size hb7
    refine hK.out _ _ ⟨cell_below k0 hb7t, cell_below k1 hb7t, cell_below k2 hb7t, cell_below k3 hb7t⟩ (fun hHeld => ?_)
    clear hK K
    refine norm_ (a' := ?_) ?_ ?_
    rotate_left
    ·
     show Act.put _ (some 30) _ = _
     simp only [Act.put, List.setIfInBounds_toArray, List.set_cons_zero, List.set_cons_succ, i64_w, i32_w]
     rfl
    refine pure_ (i := 9) (N := some 35) (v := ?_) (a' := ?_) #[true, true, true, true, true, true, true, true, true, true, false, false] rfl rfl (by kernel_rfl) (fun _ _ _ h => h) (Or.inl ⟨by rfl, ?_⟩) ?_ ?_
    rotate_left
    ·
     intro w'
     go_simp
     with_reducible rfl
    rotate_left
    ·
     simp only [Act.put, List.setIfInBounds_toArray, List.set_cons_zero, List.set_cons_succ, i64_w, i32_w]
     rfl
    refine pure_ (i := 10) (N := some 2) (v := ?_) (a' := ?_) #[true, true, true, true, true, true, true, true, true, true, true, false] rfl rfl (by kernel_rfl) (fun _ _ _ h => h) (Or.inl ⟨by rfl, ?_⟩) ?_ ?_
    rotate_left
    ·
     intro w'
     go_simp
     with_reducible rfl
    rotate_left
    ·
     simp only [Act.put, List.setIfInBounds_toArray, List.set_cons_zero, List.set_cons_succ, i64_w, i32_w]
     rfl
    refine pure_ (i := 11) (N := some 3) (v := ?_) (a' := ?_) #[true, true, true, true, true, true, true, true, true, true, true, true] rfl rfl (by kernel_rfl) (fun _ _ _ h => h) (Or.inl ⟨by rfl, ?_⟩) ?_ ?_
    rotate_left
    ·
     intro w'
     go_simp
     with_reducible rfl
    rotate_left
    ·
     simp only [Act.put, List.setIfInBounds_toArray, List.set_cons_zero, List.set_cons_succ, i64_w, i32_w]
     rfl
    refine done_ (by kernel_rfl) ?_
    -- 7]
    go_wp2_with fail
    go_ret2
    rw [ho]
    exact ⟨Ai, ci, by rw [show inn.length = n from Hinl]; rfl, by rw [show inn.length = n from Hinl]; exact Kd.C_below hCi hb7t, by rw [show inn.length = n from Hinl]; exact hci, hb7t⟩
def frame_one.f (l0 : List Int) : Option (List Int × Bool) := none
theorem frame_one.calls (a : Nat) (h : frame_one.f [] = some ([], false)) : True := trivial

end Go.Proofs.YtkmokcfnfhabgaaDoor.Q
