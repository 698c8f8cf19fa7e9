-- Written by a program of this session (wip/xprint.py) over the kit's print.py; Lean checks it.
import Derived.Test.YtkmokcfnfhabgaaDoorQ0
import Derived.Test.YtkmokcfnfhabgaaDoorQ12
namespace Go.Proofs.YtkmokcfnfhabgaaDoor.Q
open Go.RowKit Go.Proofs.YtkmokcfnfhabgaaDoorW.PrintWords Go.Proofs.YtkmokcfnfhabgaaDoorW.PrintLast Go.Proofs.YtkmokcfnfhabgaaDoorW.PrintMore
attribute [local go_sem] max2_int min2_int max_two min_two max_three min_three max_four min_four   -- for this text's walks alone
open Go.Proofs.YtkmokcfnfhabgaaDoor.X
set_option linter.unusedVariables false
set_option linter.unusedSimpArgs false

/-! ### exequaturref01_Sum: function 63, by hand -/
theorem long_ints (N : Nat) : ((longL N).map fun c => (c.toNat : Int)) = [(N : Int) / 72057594037927936 % 256, (N : Int) / 281474976710656 % 256, (N : Int) / 1099511627776 % 256, (N : Int) / 4294967296 % 256, (N : Int) / 16777216 % 256, (N : Int) / 65536 % 256, (N : Int) / 256 % 256, (N : Int) % 256] := by
  have e (x : Nat) : (((x % 256).toUInt8.toNat : Nat) : Int) = (x : Int) % 256 := by
    rw [UInt8.toNat_ofNat']; omega
  simp only [longL, List.map_cons, List.map_nil, e]
  simp
set_option maxHeartbeats 40000000 in
set_option maxRecDepth 100000 in
theorem exequaturref01_Sum.says (b : ByteArray) (hb : b.size ≤ 1000000000) (w : World) : Calls Tryd.prog 63 #[.string b] w fun e w' => e = .returned (.string (sumS b.data.toList)) ∧ Below w.heap.size w w' := by
  go_enter Tryd.func63, Tryd.ntmps63
  go_upto_region 1 with fail
  apply wp_region_lit
  refine wpList_buildTo rfl 114 _ rfl (some 22) rfl (nums .u32 roundsL).toArray (by kernel_rfl) ?_
  go_upto_region 2 with (refine arr_store (arr_new w 114 (List.replicate 64 0) rfl) roundsL rfl 114 (.tmp 3) (.tmp 22) rfl rfl rfl rfl rfl ?_)
  refine wp_world ?_
  intro w1 hw1
  have hk1 : ArrK .u32 w1 w.heap.size 114 roundsL := by rw [hw1]; exact arr_setRow (arr_new w 114 (List.replicate 64 0) rfl) _
  have hbel1 : Below w.heap.size w w1 := by rw [hw1]; exact below_setRow ((Below.refl _ _).alloc (Nat.le_refl _) _) (Nat.le_refl _) _
  have hs1 : w.heap.size + 1 ≤ w1.heap.size := by rw [hw1]; simp
  clear hw1
  go_upto_region 3 with (refine arr_store (arr_new w1 115 (List.replicate 8 0) rfl) beginL rfl 115 (.tmp 4) (.tmp 23) rfl rfl rfl rfl rfl ?_)
  refine wp_world ?_
  intro w2 hw2
  have hb2 : Below w1.heap.size w1 w2 := by rw [hw2]; exact below_setRow ((Below.refl _ _).alloc (Nat.le_refl _) _) (Nat.le_refl _) _
  have hh2 : ArrK .u32 w2 w1.heap.size 115 beginL := by rw [hw2]; exact arr_setRow (arr_new w1 115 (List.replicate 8 0) rfl) _
  have hs2 : w1.heap.size + 1 ≤ w2.heap.size := by rw [hw2]; simp
  clear hw2
  have hk2 := arr_below hk1 hb2
  have hbel2 := below_then hbel1 (by omega) hb2
  clear hb2 hk1 hbel1
  have kb := fun (s : ByteArray) W => print_bytes (P := Tryd.prog) 9 22 5 Tryd.underlying9 Tryd.underlying22 Tryd.underlying5 s W
  go_upto_region 4 with ((with_reducible refine gate_builtin (b := .append) (xs := #[.tmp 25, .tmp 26]) rfl ?_); at_builtin; refine wpList_append_M (w0 := w2) (base := w2.heap.size) rfl (.tmp 25) (.tmp 26) rfl Tryd.underlying22 rfl rfl rfl rfl _ (bytesOf b) 128 rfl rfl (OwnM.of_bytes w2 _ _ (Nat.le_refl _) b (by simp only [maxLen]; omega)) (bytes_below (Below.refl _ _) (Nat.le_refl _) _ _) (by rw [Lib.bytesWorld_size]; omega) (by rw [bytesOf_length]; omega) ?_; intro v5 w3 hm hb3 hs3)
  clear kb
  go_loopw [5] (fun v5 wr => ∃ (j : Nat) (xs : List Int), j ≤ padFill b.size ∧ xs = bytesOf b ++ [128] ++ List.replicate j 0 ∧ OwnM wr w2.heap.size 5 v5 xs ∧ Below w2.heap.size w2 wr ∧ w2.heap.size ≤ wr.heap.size) (fun v5 _ => match v5 with | .slice _ n _ => b.size + 100 - n | _ => 0)
  case atStart => exact ⟨0, _, Nat.zero_le _, by simp, hm, hb3, hs3⟩
  case round =>
    clear hm hb3 hs3
    obtain ⟨j, xs, hj, hxs, hm, hbel, hs⟩ := hrel
    have hlen : xs.length = b.size + 1 + j := by rw [hxs]; simp [bytesOf_length]; omega
    have hp : padFill b.size < 64 := by unfold padFill; omega
    have Hxs := Lib.hid hxs
    clear hxs
    obtain ⟨g, cap, hv, -⟩ := hm.cell
    subst hv
    by_cases hlt : j < padFill b.size
    · as_aux_lemma =>
      have hc : ((xs.length : Int) % 64 != 56) = true := by
        simp only [bne_iff_ne, ne_eq]
        unfold padFill at hlt hp; omega
      have hl1 : xs.length + 1 ≤ 140737488355328 := by omega
      have Hlen := Lib.hid hlen
      clear hlen
      go_wp2_with ((with_reducible refine gate_builtin (b := .append) (xs := #[.tmp 32, .tmp 33]) rfl ?_); at_builtin; refine wpList_append_M (w0 := w2) (base := w2.heap.size) rfl (.tmp 32) (.tmp 33) rfl Tryd.underlying22 rfl rfl rfl rfl _ xs 0 rfl rfl hm hbel hs hl1 ?_; intro v6 w6 hm6 hb6 hs6)
      obtain ⟨g6, cap6, hv6, -⟩ := hm6.cell
      subst hv6
      have Hlen2 : xs.length = b.size + 1 + j := Hlen
      exact ⟨⟨j + 1, _, by omega, by rw [show xs = bytesOf b ++ [128] ++ List.replicate j 0 from Hxs, List.replicate_succ']; simp, hm6, hb6, hs6⟩, by show b.size + 100 - (xs ++ [0]).length < b.size + 100 - xs.length; rw [List.length_append]; simp; omega⟩
    · have hc : ((xs.length : Int) % 64 != 56) = false := by
        simp only [bne_eq_false_iff_eq]
        obtain rfl : j = padFill b.size := by omega
        rw [hlen]; unfold padFill; omega
      obtain rfl : j = padFill b.size := by omega
      have Hlen := Lib.hid hlen
      clear hlen
      clear hj hlt
      go_upto_region 8 with fail
      clear hc
      obtain ⟨N, hN⟩ : ∃ N : Nat, (8 : Int) * (b.size : Int) = (N : Int) := ⟨8 * b.size, by omega⟩
      rw [hN]
      have HN := Lib.hid hN
      have HL := Lib.hid (long_ints N)
      clear hN hp
      go_loopw [5, 7] (fun v5 v7 wr => ∃ (t : Nat), t ≤ 8 ∧ v7 = .int .i64 (7 - (t : Int)) ∧ OwnM wr w2.heap.size 5 v5 (xs ++ ((longL N).map fun c => (c.toNat : Int)).take t) ∧ Below w2.heap.size w2 wr ∧ w2.heap.size ≤ wr.heap.size) (fun _ v7 _ => (intOf v7 + 1).toNat)
      case atStart => exact ⟨0, by omega, rfl, by simpa using hm, hbel, hs⟩
      case round =>
        clear hm hbel hs
        obtain ⟨t, ht, rfl, hm, hbel, hs⟩ := hrel
        obtain ⟨g2, cap2, hv, -⟩ := hm.cell
        subst hv
        by_cases hlt : t < 8
        · as_aux_lemma =>
          have hl1 : (xs ++ ((longL N).map fun c => (c.toNat : Int)).take t).length + 1 ≤ 140737488355328 := by
            have : xs.length = b.size + 1 + padFill b.size := Hlen
            have hp : padFill b.size < 64 := by unfold padFill; omega
            simp [longL]; omega
          have ht8 : t = 0 ∨ t = 1 ∨ t = 2 ∨ t = 3 ∨ t = 4 ∨ t = 5 ∨ t = 6 ∨ t = 7 := by omega
          rcases ht8 with rfl | rfl | rfl | rfl | rfl | rfl | rfl | rfl
          all_goals
            go_wp2_with ((with_reducible refine gate_builtin (b := .append) (xs := #[.tmp 43, .tmp 50]) rfl ?_); at_builtin; refine wpList_append_M (w0 := w2) (base := w2.heap.size) rfl (.tmp 43) (.tmp 50) rfl Tryd.underlying22 rfl rfl rfl rfl _ _ _ rfl rfl hm hbel hs hl1 ?_; intro v6 w6 hm6 hb6 hs6)
            rw [show ((longL N).map fun c => (c.toNat : Int)) = [(N : Int) / 72057594037927936 % 256, (N : Int) / 281474976710656 % 256, (N : Int) / 1099511627776 % 256, (N : Int) / 4294967296 % 256, (N : Int) / 16777216 % 256, (N : Int) / 65536 % 256, (N : Int) / 256 % 256, (N : Int) % 256] from HL] at hm6 ⊢
            first
            | exact ⟨⟨1, by omega, by go_num, by simpa using hm6, hb6, hs6⟩, by simp [intOf]⟩
            | exact ⟨⟨2, by omega, by go_num, by simpa using hm6, hb6, hs6⟩, by simp [intOf]⟩
            | exact ⟨⟨3, by omega, by go_num, by simpa using hm6, hb6, hs6⟩, by simp [intOf]⟩
            | exact ⟨⟨4, by omega, by go_num, by simpa using hm6, hb6, hs6⟩, by simp [intOf]⟩
            | exact ⟨⟨5, by omega, by go_num, by simpa using hm6, hb6, hs6⟩, by simp [intOf]⟩
            | exact ⟨⟨6, by omega, by go_num, by simpa using hm6, hb6, hs6⟩, by simp [intOf]⟩
            | exact ⟨⟨7, by omega, by go_num, by simpa using hm6, hb6, hs6⟩, by simp [intOf]⟩
            | exact ⟨⟨8, by omega, by go_num, by simpa using hm6, hb6, hs6⟩, by simp [intOf]⟩
            | trace_state
        · obtain rfl : t = 8 := by omega
          have hP : xs ++ ((longL N).map fun c => (c.toNat : Int)).take 8 = (padL b.data.toList).map fun c => (c.toNat : Int) := by
            rw [List.take_of_length_le (by simp [longL])]
            have hN2 : N = 8 * b.size := by have := (show (8 : Int) * (b.size : Int) = (N : Int) from HN); omega
            rw [show xs = bytesOf b ++ [128] ++ List.replicate (padFill b.size) 0 from Hxs, hN2]
            unfold padL
            simp only [List.map_append, List.map_cons, List.map_nil, List.map_replicate]
            rw [data_length b]
            rfl
          rw [hP] at hm ⊢
          clear hP HN Hxs Hlen
          have hk3 : ArrK .u32 wr w.heap.size 114 roundsL := (hbel.block _ (by omega)).trans hk2
          have hh3 : ArrK .u32 wr w1.heap.size 115 beginL := (hbel.block _ (by omega)).trans hh2
          have hbel3 : Below w.heap.size w wr := below_then hbel2 (by omega) hbel
          have lP := padL_mod b.data.toList
          have lQ : ((padL b.data.toList).map fun c => (c.toNat : Int)).length = (padL b.data.toList).length := List.length_map _
          have hMs : (padL b.data.toList).length ≤ 1000000200 := by
            rw [padL_length, data_length]; unfold padFill; omega
          obtain ⟨P, hP⟩ : ∃ P, P = padL b.data.toList := ⟨_, rfl⟩
          rw [← hP] at lP lQ hm hMs ⊢
          have HP := Lib.hid hP
          obtain ⟨M, hM⟩ : ∃ M : List Int, M = P.map fun c => (c.toNat : Int) := ⟨_, rfl⟩
          rw [← hM] at lQ hm ⊢
          have HM := Lib.hid hM
          clear hP hM hk2 hh2 hbel2 hbel
          have LQ := Lib.hid lQ
          rw [lQ] at hm ⊢
          clear lQ
          go_upto_region 12 with fail
          go_loopw [8] (fun v8 wr => ∃ k : Nat, 64 * k ≤ P.length ∧ v8 = .int .i64 (64 * (k : Int)) ∧ OwnM wr w2.heap.size 5 (.slice (some ⟨g2, 0, none⟩) P.length cap2) M ∧ ArrK .u32 wr w.heap.size 114 roundsL ∧ ArrK .u32 wr w1.heap.size 115 (statesTo P k) ∧ Below w.heap.size w wr ∧ w2.heap.size ≤ wr.heap.size) (fun v8 _ => P.length + 64 - (intOf v8).toNat)
          case atStart => exact ⟨0, by omega, rfl, hm, hk3, hh3, hbel3, hs⟩
          case round =>
            clear hm hk3 hh3 hbel3 hs
            obtain ⟨k, hk, rfl, hm, hk3, hh3, hbel, hs⟩ := hrel
            by_cases hlt : 64 * k < P.length
            · have hc : decide ((64 : Int) * (k : Int) < (P.length : Int)) = true := by simp; omega
              have hc2 : ((64 : Int) * (k : Int) < (P.length : Int)) = True := by simp; omega
              go_upto_region 16 with fail
              refine wp_world ?_
              intro w7 hw7
              have hW7 : ArrK .u32 w7 wr.heap.size 114 (List.replicate 64 0) := by rw [hw7]; exact arr_new wr 114 (List.replicate 64 0) rfl
              have hb7 : Below wr.heap.size wr w7 := by rw [hw7]; exact (Below.refl _ _).alloc (Nat.le_refl _) _
              have hs7 : wr.heap.size + 1 ≤ w7.heap.size := by rw [hw7]; simp
              clear hw7
              obtain ⟨wo, rfl⟩ : ∃ wo : World, wo = wr := ⟨_, rfl⟩
              go_loopw [10] (fun v10 wr => ∃ i : Nat, i ≤ 64 ∧ v10 = .int .i64 i ∧ ArrK .u32 wr wo.heap.size 114 (sprTo (blockOf P k) i) ∧ Below wo.heap.size wo wr ∧ wo.heap.size + 1 ≤ wr.heap.size) (fun v10 _ => 64 - (intOf v10).toNat)
              case atStart => exact ⟨0, by omega, rfl, hW7, hb7, hs7⟩
              case round =>
                clear hW7 hb7 hs7
                obtain ⟨i, hi, rfl, hW, hb8, hs8⟩ := hrel
                have hm8 : OwnM _ w2.heap.size 5 (.slice (some ⟨g2, 0, none⟩) P.length cap2) M := hm.kept (fun k hk => hb8.block k (hm.lt k hk).2)
                by_cases hlt : i < 64
                · have hdec : decide ((i : Int) < 64) = true := by simp; omega
                  by_cases h16 : i < 16
                  · as_aux_lemma =>
                    have hd16 : decide ((i : Int) < 16) = true := by simp; omega
                    go_upto_region 20 with fail
                    obtain ⟨g3, cap3, hv3, hg3, hcl⟩ := hm8.cell
                    obtain rfl : g2 = g3 := by simp at hv3; exact hv3.1
                    obtain ⟨q, hq⟩ : ∃ q : Nat, q = 64 * k + 4 * i := ⟨_, rfl⟩
                    have hqe : (64 : Int) * (k : Int) + 4 * (i : Int) = (q : Int) := by omega
                    have hql : q + 3 < P.length := by omega
                    rw [show M.length = P.length from LQ] at hcl
                    have m0 := hcl q (by omega)
                    have m1 := hcl (q + 1) (by omega)
                    have m2 := hcl (q + 2) (by omega)
                    have m3 := hcl (q + 3) (by omega)
                    have hWc := arr_cell hW i (by rw [sprTo_length]; omega)
                    have hWf := arr_frozen hW i
                    have e1 : IntKind.i64.wrap ((q : Int) + 1) = (q : Int) + 1 := IntWalk.i64_in _ (by omega)
                    have e2 : IntKind.i64.wrap ((q : Int) + 2) = (q : Int) + 2 := IntWalk.i64_in _ (by omega)
                    have e3 : IntKind.i64.wrap ((q : Int) + 3) = (q : Int) + 3 := IntWalk.i64_in _ (by omega)
                    have t1 : ((q : Int) + 1).toNat = q + 1 := by omega
                    have t2 : ((q : Int) + 2).toNat = q + 2 := by omega
                    have t3 : ((q : Int) + 3).toNat = q + 3 := by omega
                    have b0 : ((q : Int) < (P.length : Int)) = True := by simp; omega
                    have b1 : (0 ≤ (q : Int) + 1 ∧ (q : Int) + 1 < (P.length : Int)) = True := by simp; omega
                    have b2 : (0 ≤ (q : Int) + 2 ∧ (q : Int) + 2 < (P.length : Int)) = True := by simp; omega
                    have b3 : (0 ≤ (q : Int) + 3 ∧ (q : Int) + 3 < (P.length : Int)) = True := by simp; omega
                    have bi : ((i : Int) < 64) = True := by simp; omega
                    rw [hqe]
                    have Hq := Lib.hid hq
                    clear hq hqe hql hv3 hg3 hcl hc hc2 hdec hd16
                    go_still_tail 31, (by kernel_rfl)
                    change wpList _ _ _ _ _ wr.drew
                    have hW9 : ArrK .u32 wr.drew wo.heap.size 114 (sprTo (blockOf P k) i) := hW
                    have hb9 : Below wo.heap.size wo wr.drew := below_drew hb8
                    have hs9 : wo.heap.size + 1 ≤ wr.drew.heap.size := hs8
                    clear m0 m1 m2 m3 hWc hWf hm8 hW hb8 hs8
                    generalize wr.drew = w9 at hW9 hb9 hs9 ⊢
                    have hWc := arr_cell hW9 i (by rw [sprTo_length]; omega)
                    have hWf := arr_frozen hW9 i
                    go_wp2_with fail
                    have hPk : 64 * k + 64 ≤ P.length := by omega
                    have Hq2 : q = 64 * k + 4 * i := Hq
                    have hspr := sprGet_at P k i q h16 hPk Hq2
                    have r0 := rd_nat_lt P q (by omega)
                    have r1 := rd_nat_lt P (q + 1) (by omega)
                    have r2 := rd_nat_lt P (q + 2) (by omega)
                    have r3 := rd_nat_lt P (q + 3) (by omega)
                    rw [← (show M = P.map fun c => (c.toNat : Int) from HM)] at hspr r0 r1 r2 r3
                    rw [show ((q + 1 : Nat) : Int) = (q : Int) + 1 by omega, show ((q + 2 : Nat) : Int) = (q : Int) + 2 by omega, show ((q + 3 : Nat) : Int) = (q : Int) + 3 by omega] at hspr
                    rw [show ((q + 1 : Nat) : Int) = (q : Int) + 1 by omega] at r1
                    rw [show ((q + 2 : Nat) : Int) = (q : Int) + 2 by omega] at r2
                    rw [show ((q + 3 : Nat) : Int) = (q : Int) + 3 by omega] at r3
                    have key : ∀ V, V = sprGet (blockOf P k) i → ArrK .u32 (w9.setCell ⟨wo.heap.size, i, none⟩ (.int .u32 V)) wo.heap.size 114 (sprTo (blockOf P k) (i + 1)) := by
                      intro V hV
                      rw [hV, sprTo_get _ _ h16]
                      exact arr_set hW9 i _
                    refine ⟨?_, ?measure⟩
                    apply Exists.intro
                    (repeat apply Exists.intro)
                    refine ⟨?rel, rfl⟩
                    case measure => simp [intOf]; omega
                    case rel =>
                      refine ⟨i + 1, by omega, by go_num, key _ ?_, hb9.setCell (p := ⟨wo.heap.size, i, none⟩) (Nat.le_refl _) _, by simpa using hs9⟩
                      rw [hspr]
                      omega
                  · as_aux_lemma =>
                    have hd16 : decide ((i : Int) < 16) = false := by simp; omega
                    obtain ⟨j, rfl⟩ : ∃ j, i = j + 16 := ⟨i - 16, by omega⟩
                    have l0 := sprTo_length (blockOf P k) (j + 16)
                    obtain ⟨xw, hxw⟩ : ∃ xw, xw = sprTo (blockOf P k) (j + 16) := ⟨_, rfl⟩
                    rw [← hxw] at l0 hW
                    have Hxw := Lib.hid hxw
                    clear hxw hc hc2 hm8
                    have c15 := arr_cell hW (j + 1) (by omega)
                    have e15 : IntKind.i64.wrap ((j : Int) + 16 - 15) = (j : Int) + 1 := (IntWalk.i64_in _ (by omega)).trans (by omega)
                    have e15b : IntKind.i64.wrap ((j : Int) + 1) = (j : Int) + 1 := IntWalk.i64_in _ (by omega)
                    have t15 : ((j : Int) + 1).toNat = j + 1 := by omega
                    have b15 : (0 ≤ (j : Int) + 1 ∧ (j : Int) + 1 < 64) = True := by simp; omega
                    go_upto_region 21 with fail
                    refine wp_region_still_lit (by kernel_rfl) (by kernel_rfl) ?_
                    repeat still_step
                    still_call (turn_7 _ _)
                    repeat still_step
                    still_call (turn_18 _ _)
                    repeat still_step
                    refine wpStill_nil ?_
                    change Exit.then _ _ _ _ wr.drew
                    have hW2 : ArrK .u32 wr.drew wo.heap.size 114 xw := hW
                    have hb9 : Below wo.heap.size wo wr.drew := below_drew hb8
                    have hs9 : wo.heap.size + 1 ≤ wr.drew.heap.size := hs8
                    clear c15 e15 e15b t15 b15 hW hb8 hs8
                    generalize wr.drew = w9 at hW2 hb9 hs9 ⊢
                    have c14 := arr_cell hW2 (j + 14) (by omega)
                    have e14 : IntKind.i64.wrap ((j : Int) + 16 - 2) = (j : Int) + 14 := (IntWalk.i64_in _ (by omega)).trans (by omega)
                    have e14b : IntKind.i64.wrap ((j : Int) + 14) = (j : Int) + 14 := IntWalk.i64_in _ (by omega)
                    have t14 : ((j : Int) + 14).toNat = j + 14 := by omega
                    have b14 : (0 ≤ (j : Int) + 14 ∧ (j : Int) + 14 < 64) = True := by simp; omega
                    go_upto_region 22 with fail
                    refine wp_region_still_lit (by kernel_rfl) (by kernel_rfl) ?_
                    repeat still_step
                    still_call (turn_17 _ _)
                    repeat still_step
                    still_call (turn_19 _ _)
                    repeat still_step
                    refine wpStill_nil ?_
                    change Exit.then _ _ _ _ w9.drew
                    have hW3 : ArrK .u32 w9.drew wo.heap.size 114 xw := hW2
                    have hb10 : Below wo.heap.size wo w9.drew := below_drew hb9
                    have hs10 : wo.heap.size + 1 ≤ w9.drew.heap.size := hs9
                    clear c14 e14 e14b t14 b14 hW2 hb9 hs9
                    generalize w9.drew = w10 at hW3 hb10 hs10 ⊢
                    go_upto_region 23 with fail
                    obtain ⟨x, hx⟩ : ∃ x, x = lowW (rd xw ((j : Int) + 1)) := ⟨_, rfl⟩
                    obtain ⟨y, hy⟩ : ∃ y, y = highW (rd xw ((j : Int) + 14)) := ⟨_, rfl⟩
                    rw [show bits BinOp.xor IntKind.u32 (bits BinOp.xor IntKind.u32 (rr (rd xw ((j : Int) + 1)) 7) (rr (rd xw ((j : Int) + 1)) 18)) (rd xw ((j : Int) + 1) / 8) = x from hx.symm]
                    rw [show bits BinOp.xor IntKind.u32 (bits BinOp.xor IntKind.u32 (rr (rd xw ((j : Int) + 14)) 17) (rr (rd xw ((j : Int) + 14)) 19)) (rd xw ((j : Int) + 14) / 1024) = y from hy.symm]
                    have Hx := Lib.hid hx
                    have Hy := Lib.hid hy
                    clear hx hy
                    have e16 : IntKind.i64.wrap (j : Int) = (j : Int) := IntWalk.i64_in _ (by omega)
                    have e7 : IntKind.i64.wrap ((j : Int) + 16 - 7) = (j : Int) + 9 := (IntWalk.i64_in _ (by omega)).trans (by omega)
                    have e7b : IntKind.i64.wrap ((j : Int) + 9) = (j : Int) + 9 := IntWalk.i64_in _ (by omega)
                    have t7 : ((j : Int) + 9).toNat = j + 9 := by omega
                    have e0 : ((j : Int) + 16).toNat = j + 16 := by omega
                    have b16 : ((j : Int) < 64) = True := by simp; omega
                    have b7 : (0 ≤ (j : Int) + 9 ∧ (j : Int) + 9 < 64) = True := by simp; omega
                    have b0 : (0 ≤ (j : Int) + 16 ∧ (j : Int) + 16 < 64) = True := by simp; omega
                    have b0b : (0 ≤ (j : Int) + 16) = True := by simp; omega
                    have c16 := arr_cell hW3 j (by omega)
                    have c7 := arr_cell hW3 (j + 9) (by omega)
                    have c0 := arr_cell hW3 (j + 16) (by omega)
                    have hf := arr_frozen hW3 (j + 16)
                    clear l0
                    go_still_tail 15, (by kernel_rfl)
                    change wpList _ _ _ _ _ w10.drew
                    have hW4 : ArrK .u32 w10.drew wo.heap.size 114 xw := hW3
                    have hb11 : Below wo.heap.size wo w10.drew := below_drew hb10
                    have hs11 : wo.heap.size + 1 ≤ w10.drew.heap.size := hs10
                    clear c16 c7 c0 hf hW3 hb10 hs10
                    generalize w10.drew = w11 at hW4 hb11 hs11 ⊢
                    have l0 : xw.length = 64 := by rw [show xw = sprTo (blockOf P k) (j + 16) from Hxw]; exact sprTo_length _ _
                    have hf := arr_frozen hW4 (j + 16)
                    have c0 := arr_cell hW4 (j + 16) (by omega)
                    clear l0
                    go_wp2_with fail
                    have key : ∀ V, V = sprNew xw (j + 16) → ArrK .u32 (w11.setCell ⟨wo.heap.size, j + 16, none⟩ (.int .u32 V)) wo.heap.size 114 (sprTo (blockOf P k) (j + 16 + 1)) := by
                      intro V hV
                      rw [hV, sprTo_new _ _ (by omega), ← (show xw = sprTo (blockOf P k) (j + 16) from Hxw)]
                      exact arr_set hW4 (j + 16) _
                    refine ⟨?_, ?measure⟩
                    apply Exists.intro
                    (repeat apply Exists.intro)
                    refine ⟨?rel, rfl⟩
                    case measure => simp [intOf]; omega
                    case rel =>
                      refine ⟨j + 16 + 1, by omega, by go_num, key _ ?_, hb11.setCell (p := ⟨wo.heap.size, j + 16, none⟩) (Nat.le_refl _) _, by simpa using hs11⟩
                      rw [show x = lowW (rd xw ((j : Int) + 1)) from Hx, show y = highW (rd xw ((j : Int) + 14)) from Hy]
                      unfold sprNew
                      rw [show ((j + 16 : Nat) : Int) - 16 = (j : Int) by omega, show ((j + 16 : Nat) : Int) - 15 = (j : Int) + 1 by omega, show ((j + 16 : Nat) : Int) - 7 = (j : Int) + 9 by omega, show ((j + 16 : Nat) : Int) - 2 = (j : Int) + 14 by omega]
                · obtain rfl : i = 64 := by omega
                  have hm9 : OwnM _ w2.heap.size 5 (.slice (some ⟨g2, 0, none⟩) P.length cap2) M := hm8
                  have hk9 := arr_below hk3 hb8
                  have hh9 := arr_below hh3 hb8
                  have hbel9 := below_then hbel (by omega) hb8
                  have hsz9 : w2.heap.size + 1 ≤ wr.heap.size := by omega
                  clear hm hm8 hk3 hh3 hbel hb8 hc hc2 hi hlt
                  have lh := statesTo_length P k
                  obtain ⟨hs, hhs⟩ : ∃ hs, hs = statesTo P k := ⟨_, rfl⟩
                  rw [← hhs] at lh hh9
                  have Hhs := Lib.hid hhs
                  clear hhs
                  have lX := sprTo_length (blockOf P k) 64
                  obtain ⟨xw, hxw⟩ : ∃ xw, xw = sprTo (blockOf P k) 64 := ⟨_, rfl⟩
                  rw [← hxw] at lX hW
                  have Hxw := Lib.hid hxw
                  clear hxw
                  go_upto_region 26 with (first | refine arr_load hh9 115 (.tmp 4) rfl rfl rfl rfl (by rw [lh]; rfl) ?_ | refine arr_store (arr_new wr 115 (List.replicate 8 0) rfl) hs (by rw [lh]; rfl) 115 (.tmp 14) (.tmp 148) rfl rfl rfl rfl (by rw [lh]; rfl) ?_)
                  refine wp_world ?_
                  intro w3 hw3
                  have hS3 : ArrK .u32 w3 wr.heap.size 115 hs := by rw [hw3]; exact arr_setRow (arr_new wr 115 (List.replicate 8 0) rfl) _
                  have hb3 : Below wr.heap.size wr w3 := by rw [hw3]; exact below_setRow ((Below.refl _ _).alloc (Nat.le_refl _) _) (Nat.le_refl _) _
                  have hs3 : wr.heap.size + 1 ≤ w3.heap.size := by rw [hw3]; simp
                  clear hw3
                  obtain ⟨wt, rfl⟩ : ∃ wt : World, wt = wr := ⟨_, rfl⟩
                  go_loopw [15] (fun v15 wr => ∃ i : Nat, i ≤ 64 ∧ v15 = .int .i64 i ∧ ArrK .u32 wr wt.heap.size 115 (mixTo xw hs i) ∧ Below wt.heap.size wt wr ∧ wt.heap.size + 1 ≤ wr.heap.size) (fun v15 _ => 64 - (intOf v15).toNat)
                  case atStart => exact ⟨0, by omega, rfl, hS3, hb3, hs3⟩
                  case round =>
                    clear hS3 hb3 hs3
                    obtain ⟨i, hi, rfl, hS, hb, hsz⟩ := hrel
                    by_cases hlt : i < 64
                    · as_aux_lemma =>
                      have hdec : decide ((i : Int) < 64) = true := by simp; omega
                      have lS := mixTo_length xw hs lh i
                      obtain ⟨ss, hss⟩ : ∃ ss, ss = mixTo xw hs i := ⟨_, rfl⟩
                      rw [← hss] at lS hS
                      have Hss := Lib.hid hss
                      clear hss
                      have s4 := arr_cell hS 4 (by omega)
                      have s5 := arr_cell hS 5 (by omega)
                      have s6 := arr_cell hS 6 (by omega)
                      have s7 := arr_cell hS 7 (by omega)
                      have x0 := arr_cell (arr_below hW hb) i (by omega)
                      have k0 := arr_cell (arr_below hk9 hb) i hlt
                      have b0 : ((i : Int) < 64) = True := by simp; omega
                      go_upto_region 28 with fail
                      refine wp_region_still_lit (by kernel_rfl) (by kernel_rfl) ?_
                      repeat still_step
                      still_call (turn_6 _ _)
                      repeat still_step
                      still_call (turn_11 _ _)
                      repeat still_step
                      still_call (turn_25 _ _)
                      repeat still_step
                      refine wpStill_nil ?_
                      change Exit.then _ _ _ _ wr.drew
                      rw [show (if IntKind.u32.signed = true then (-1 : Int) else IntKind.u32.max) = 4294967295 from rfl]
                      obtain ⟨one, hone⟩ : ∃ one, one = mixOne xw ss i := ⟨_, rfl⟩
                      rw [show IntKind.u32.wrap (IntKind.u32.wrap (IntKind.u32.wrap (IntKind.u32.wrap (rd ss 7 + bits BinOp.xor IntKind.u32 (bits BinOp.xor IntKind.u32 (rr (rd ss 4) 6) (rr (rd ss 4) 11)) (rr (rd ss 4) 25)) + bits BinOp.xor IntKind.u32 (bits BinOp.and IntKind.u32 (rd ss 4) (rd ss 5)) (bits BinOp.and IntKind.u32 (bits BinOp.xor IntKind.u32 4294967295 (rd ss 4)) (rd ss 6))) + rd roundsL i) + rd xw i) = one from hone.symm]
                      have Hone := Lib.hid hone
                      have hS2 : ArrK .u32 wr.drew wt.heap.size 115 ss := hS
                      have hb9 : Below wt.heap.size wt wr.drew := below_drew hb
                      have hs9 : wt.heap.size + 1 ≤ wr.drew.heap.size := hsz
                      clear hone hS hb hsz s4 s5 s6 s7 x0 k0 b0
                      generalize wr.drew = w9 at hS2 hb9 hs9 ⊢
                      have s0 := arr_cell hS2 0 (by omega)
                      have s1 := arr_cell hS2 1 (by omega)
                      have s2 := arr_cell hS2 2 (by omega)
                      go_upto_region 29 with fail
                      refine wp_region_still_lit (by kernel_rfl) (by kernel_rfl) ?_
                      repeat still_step
                      still_call (turn_2 _ _)
                      repeat still_step
                      still_call (turn_13 _ _)
                      repeat still_step
                      still_call (turn_22 _ _)
                      repeat still_step
                      refine wpStill_nil ?_
                      change Exit.then _ _ _ _ w9.drew
                      obtain ⟨two, htwo⟩ : ∃ two, two = mixTwo ss := ⟨_, rfl⟩
                      rw [show IntKind.u32.wrap (bits BinOp.xor IntKind.u32 (bits BinOp.xor IntKind.u32 (rr (rd ss 0) 2) (rr (rd ss 0) 13)) (rr (rd ss 0) 22) + bits BinOp.xor IntKind.u32 (bits BinOp.xor IntKind.u32 (bits BinOp.and IntKind.u32 (rd ss 0) (rd ss 1)) (bits BinOp.and IntKind.u32 (rd ss 0) (rd ss 2))) (bits BinOp.and IntKind.u32 (rd ss 1) (rd ss 2))) = two from htwo.symm]
                      have Htwo := Lib.hid htwo
                      have hS3 : ArrK .u32 w9.drew wt.heap.size 115 ss := hS2
                      have hb10 : Below wt.heap.size wt w9.drew := below_drew hb9
                      have hs10 : wt.heap.size + 1 ≤ w9.drew.heap.size := hs9
                      clear htwo hS2 hb9 hs9 s0 s1 s2
                      generalize w9.drew = w10 at hS3 hb10 hs10 ⊢
                      have LS := Lib.hid lS
                      have lsh := (shiftTo_length ss 7).trans lS
                      clear lS hdec
                      go_upto_region 31 with fail
                      go_loopw [18] (fun v18 wr => ∃ j : Nat, j ≤ 7 ∧ v18 = .int .i64 j ∧ ArrK .u32 wr wt.heap.size 115 (shiftTo ss (7 - j)) ∧ Below wt.heap.size wt wr ∧ wt.heap.size + 1 ≤ wr.heap.size) (fun v18 _ => (intOf v18).toNat)
                      case atStart => exact ⟨7, by omega, rfl, hS3, hb10, hs10⟩
                      case round =>
                        clear hS3 hb10 hs10
                        obtain ⟨j, hj, rfl, hS, hb, hsz⟩ := hrel
                        by_cases hpos : 0 < j
                        · obtain ⟨q, rfl⟩ : ∃ q, j = q + 1 := ⟨j - 1, by omega⟩
                          have lT : (shiftTo ss (7 - (q + 1))).length = 8 := (shiftTo_length ss _).trans LS
                          obtain ⟨sh, hsh⟩ : ∃ sh, sh = shiftTo ss (7 - (q + 1)) := ⟨_, rfl⟩
                          rw [← hsh] at lT hS
                          have Hsh := Lib.hid hsh
                          clear hsh
                          have hdec : decide ((0 : Int) < ((q + 1 : Nat) : Int)) = true := by simp
                          have g0 : ((0 : Int) < (q : Int) + 1) = True := eq_true (by omega)
                          have g1 : (0 ≤ (q : Int) + 1) = True := by simp; omega
                          have g2 : ((q : Int) + 1 < 8) = True := by simp; omega
                          have g3 : ((q : Int) < 8) = True := by simp; omega
                          have g4 : ((q : Int) + 1).toNat = q + 1 := by omega
                          have g5 : IntKind.i64.wrap (q : Int) = (q : Int) := IntWalk.i64_in _ (by omega)
                          have g6 : IntKind.i64.wrap ((q : Int) + 1 - 1) = (q : Int) := (IntWalk.i64_in _ (by omega)).trans (by omega)
                          have c0 := arr_cell hS q (by omega)
                          have c1 := arr_cell hS (q + 1) (by omega)
                          have f1 := arr_frozen hS (q + 1)
                          have LT := Lib.hid lT
                          clear lT
                          go_upto_region 33 with fail
                          go_wp2_with fail
                          have hrow : ArrK .u32 (wr.setCell ⟨wt.heap.size, q + 1, none⟩ (.int .u32 (rd sh (q : Int)))) wt.heap.size 115 (shiftTo ss (7 - q)) := by
                            rw [show 7 - q = (7 - (q + 1)) + 1 by omega, shiftTo_succ, ← (show sh = shiftTo ss (7 - (q + 1)) from Hsh), show 7 - (7 - (q + 1)) = q + 1 by omega, show 6 - (7 - (q + 1)) = q by omega]
                            exact arr_set hS (q + 1) _
                          exact ⟨⟨q, by omega, by go_num, hrow, hb.setCell (p := ⟨wt.heap.size, q + 1, none⟩) (Nat.le_refl _) _, by simpa using hsz⟩, by simp [intOf]⟩
                        · obtain rfl : j = 0 := by omega
                          clear hpos hj
                          rw [show 7 - 0 = 7 from rfl] at hS
                          obtain ⟨sh, hsh⟩ : ∃ sh, sh = shiftTo ss 7 := ⟨_, rfl⟩
                          rw [← hsh] at lsh hS
                          have Hsh := Lib.hid hsh
                          clear hsh
                          have c4 := arr_cell hS 4 (by omega)
                          have f4 := arr_frozen hS 4
                          go_upto_region 35 with fail
                          refine wp_world ?_
                          intro w11 hw11
                          have hS5 : ArrK .u32 w11 wt.heap.size 115 (sh.set 4 (w32 (rd sh 4 + one))) := by
                            rw [hw11]; (first | exact arr_set hS 4 _ | (unfold w32; rw [IntKind.wrap_u32]; exact arr_set hS 4 _))
                          have hb11 : Below wt.heap.size wt w11 := by rw [hw11]; exact hb.setCell (p := ⟨wt.heap.size, 4, none⟩) (Nat.le_refl _) _
                          have hs11 : wt.heap.size + 1 ≤ w11.heap.size := by rw [hw11]; simpa using hsz
                          clear hw11 c4 f4 hS hb hsz
                          have lsh2 : (sh.set 4 (w32 (rd sh 4 + one))).length = 8 := by rw [List.length_set]; exact lsh
                          have c0 := arr_cell hS5 0 (by omega)
                          have f0 := arr_frozen hS5 0
                          clear lsh2 lsh
                          go_upto_region 27 with fail
                          refine wp_world ?_
                          intro w12 hw12
                          have hS6 : ArrK .u32 w12 wt.heap.size 115 (mixTo xw hs (i + 1)) := by
                            rw [hw12, mixTo_succ, ← (show ss = mixTo xw hs i from Hss), ← shift_is xw ss LS i one two Hone Htwo, ← (show sh = shiftTo ss 7 from Hsh)]
                            (first | exact arr_set hS5 0 _ | (unfold w32; simp only [IntKind.wrap_u32]; exact arr_set hS5 0 _))
                          have hb12 : Below wt.heap.size wt w12 := by rw [hw12]; exact hb11.setCell (p := ⟨wt.heap.size, 0, none⟩) (Nat.le_refl _) _
                          have hs12 : wt.heap.size + 1 ≤ w12.heap.size := by rw [hw12]; simpa using hs11
                          clear hw12 c0 f0 hS5 hb11 hs11
                          go_wp2_with fail
                          exact ⟨⟨i + 1, by omega, by go_num, hS6, hb12, hs12⟩, by simp [intOf]; omega⟩
                    · as_aux_lemma =>
                      obtain rfl : i = 64 := by omega
                      clear hlt hi
                      have lS := mixTo_length xw hs lh 64
                      obtain ⟨SS, hSS⟩ : ∃ SS, SS = mixTo xw hs 64 := ⟨_, rfl⟩
                      rw [← hSS] at hS lS
                      have HSS := Lib.hid hSS
                      clear hSS
                      have hk3 := arr_below hk9 hb
                      have hh3 := arr_below hh9 hb
                      have hbel3 := below_then hbel9 (by omega) hb
                      have hm3 : OwnM wr w2.heap.size 5 (.slice (some ⟨g2, 0, none⟩) P.length cap2) M := hm9.kept (fun k hk => hb.block k (hm9.lt k hk).2)
                      have hlow : w2.heap.size + 1 ≤ wr.heap.size := by omega
                      have hsz3 : wt.heap.size + 1 ≤ wr.heap.size := hsz
                      clear hk9 hh9 hbel9 hm9 hb hsz hW lX
                      go_upto_region 37 with fail
                      go_loopw [19] (fun v19 wr => ∃ j : Nat, j ≤ 8 ∧ v19 = .int .i64 j ∧ OwnM wr w2.heap.size 5 (.slice (some ⟨g2, 0, none⟩) P.length cap2) M ∧ ArrK .u32 wr w.heap.size 114 roundsL ∧ ArrK .u32 wr w1.heap.size 115 (addTo SS hs j) ∧ ArrK .u32 wr wt.heap.size 115 SS ∧ Below w.heap.size w wr ∧ w2.heap.size + 1 ≤ wr.heap.size) (fun v19 _ => 8 - (intOf v19).toNat)
                      case atStart => exact ⟨0, by omega, rfl, hm3, hk3, hh3, hS, hbel3, hlow⟩
                      case round =>
                        clear hm3 hk3 hh3 hS hbel3 hlow hsz3
                        obtain ⟨j, hj, rfl, hm3, hk3, hh3, hS, hbel3, hlow⟩ := hrel
                        by_cases hlt : j < 8
                        · have hdec : decide ((j : Int) < 8) = true := by simp; omega
                          have b0 : ((j : Int) < 8) = True := by simp; omega
                          have la := (addTo_length SS hs j).trans lh
                          obtain ⟨hj2, hhj⟩ : ∃ xs, xs = addTo SS hs j := ⟨_, rfl⟩
                          rw [← hhj] at hh3 la
                          have Hhj := Lib.hid hhj
                          clear hhj
                          have c0 := arr_cell hh3 j (by omega)
                          have d0 := arr_cell hS j (by omega)
                          have f0 := arr_frozen hh3 j
                          have LA := Lib.hid la
                          clear la
                          go_upto_region 39 with fail
                          go_still_tail 9, (by kernel_rfl)
                          change wpList _ _ _ _ _ wr.drew
                          have hbel4 : Below w.heap.size w wr.drew := below_drew hbel3
                          have hm4 : OwnM wr.drew w2.heap.size 5 (.slice (some ⟨g2, 0, none⟩) P.length cap2) M := hm3
                          have hk4 : ArrK .u32 wr.drew w.heap.size 114 roundsL := hk3
                          have hh4 : ArrK .u32 wr.drew w1.heap.size 115 hj2 := hh3
                          have hS4 : ArrK .u32 wr.drew wt.heap.size 115 SS := hS
                          have hlow4 : w2.heap.size + 1 ≤ wr.drew.heap.size := hlow
                          clear hbel3 hm3 hk3 hh3 hS hlow c0 d0 f0
                          generalize wr.drew = w6 at hbel4 hm4 hk4 hh4 hS4 hlow4 ⊢
                          have la : hj2.length = 8 := LA
                          have f0 := arr_frozen hh4 j
                          have c0 := arr_cell hh4 j (by omega)
                          clear la
                          go_wp2_with fail
                          refine ⟨?_, ?measure⟩
                          apply Exists.intro
                          (repeat apply Exists.intro)
                          refine ⟨?rel, rfl⟩
                          case measure => simp [intOf]; omega
                          case rel =>
                            have hlt1 : w1.heap.size ≠ wt.heap.size := by omega
                            refine ⟨j + 1, by omega, by go_num, hm4.kept (fun k hk => Below.heap_setCell _ _ _ _ (by show k ≠ w1.heap.size; have := (hm4.lt k hk).1; omega)), arr_far hk4 (by show w.heap.size ≠ w1.heap.size; omega) _, ?_, arr_far hS4 (by show wt.heap.size ≠ w1.heap.size; omega) _, hbel4.setCell (p := ⟨w1.heap.size, j, none⟩) (by show w.heap.size ≤ w1.heap.size; omega) _, by simpa using hlow4⟩
                            rw [addTo_succ, ← (show hj2 = addTo SS hs j from Hhj)]
                            exact arr_set hh4 j _
                        · obtain rfl : j = 8 := by omega
                          clear hlt hj
                          have hst : statesTo P (k + 1) = addTo SS hs 8 := by
                            rw [statesTo_succ, show SS = mixTo xw hs 64 from HSS, show xw = sprTo (blockOf P k) 64 from Hxw, ← (show hs = statesTo P k from Hhs)]
                            rfl
                          have hlk : 64 * (k + 1) ≤ P.length := by omega
                          rw [← hst] at hh3
                          clear hst
                          go_wp2_with fail
                          refine ⟨?_, ?measure⟩
                          apply Exists.intro
                          (repeat apply Exists.intro)
                          refine ⟨?rel, rfl⟩
                          case measure => simp [intOf]; omega
                          case rel => exact ⟨k + 1, hlk, by go_num, hm3, hk3, hh3, hbel3, by omega⟩
            · as_aux_lemma =>
              have hc : decide ((64 : Int) * (k : Int) < (P.length : Int)) = false := by simp; omega
              have hkP : k = P.length / 64 := by omega
              clear hm hk3 hk lP hMs LQ
              have lh := statesTo_length P k
              obtain ⟨hs', hhs⟩ : ∃ hs, hs = statesTo P k := ⟨_, rfl⟩
              rw [← hhs] at lh hh3
              have Hhs := Lib.hid (hhs.trans (by rw [hkP, show P = padL b.data.toList from HP]) : hs' = statesTo (padL b.data.toList) ((padL b.data.toList).length / 64))
              clear hhs hkP hlt HP HM HL
              have lH := Lib.hid lh
              clear lh
              go_upto_region 42 with fail
              obtain ⟨we, rfl⟩ : ∃ we : World, we = wr := ⟨_, rfl⟩
              go_loopw [20, 21] (fun v20 v21 wr => ∃ j : Nat, j ≤ 8 ∧ v21 = .int .i64 j ∧ Kd.R (Kd.int .u8) 5 wr we.heap.size (fun _ => True) v20 (fourTo hs' j) ∧ Below we.heap.size we wr ∧ we.heap.size ≤ wr.heap.size) (fun _ v21 _ => 8 - (intOf v21).toNat)
              case atStart => exact ⟨0, by omega, rfl, Kd.R_nil _ _ _ _ _, Below.refl _ _, Nat.le_refl _⟩
              case round =>
                obtain ⟨j, hj, rfl, hr, hbw, hsw⟩ := hrel
                by_cases hlt : j < 8
                · have hdec : decide ((j : Int) < 8) = true := by simp; omega
                  have b0 : ((j : Int) < 8) = True := by simp; omega
                  have lh : hs'.length = 8 := lH
                  have c0 := arr_cell (arr_below hh3 hbw) j (by omega)
                  have hjl : j < hs'.length := by omega
                  clear lh
                  go_upto_region 44 with fail
                  have hbw6 : Below we.heap.size we wr.drew := below_drew hbw
                  have hr6 : Kd.R (Kd.int .u8) 5 wr.drew we.heap.size (fun _ => True) u20 (fourTo hs' j) := Kd.R_drew hr
                  have hsw6 : we.heap.size ≤ wr.drew.heap.size := hsw
                  clear hbw hr hsw
                  -- [44
                  refine start_ (n := 23) (S := fun w' => w'.cell? ⟨w1.heap.size, j, none⟩ = some (.int .u32 (rd hs' (j : Int)))) (ds := []) #[false, false, false, false, false, false, false, false, false, false, false, false, false, false, false, false, false, false, false, false, false, false, false] (by kernel_rfl) rfl rfl (c0) (fun hHeld => ?_)
                  generalize wr.drew = w6 at hbw6 hr6 hsw6 hHeld ⊢
                  refine pure_ (i := 0) (N := some 253) (v := ?_) (a' := ?_) #[true, false, false, false, false, false, false, false, false, false, false, false, false, false, false, false, false, false, false, false, false, false, false] rfl rfl (by kernel_rfl) (fun _ _ _ h => h) (Or.inl ⟨by rfl, ?_⟩) ?_ ?_
                  rotate_left
                  · intro w'
                    go_simp
                    with_reducible rfl
                  rotate_left
                  · simp only [Act.put, List.setIfInBounds_toArray, List.set_cons_zero, List.set_cons_succ, i64_w, i32_w]
                    rfl
                  refine pure_ (i := 1) (N := some 254) (v := ?_) (a' := ?_) #[true, true, false, false, false, false, false, false, false, false, false, false, false, false, false, false, false, false, false, false, false, false, false] rfl rfl (by kernel_rfl) (fun _ _ _ h => h) (Or.inl ⟨by rfl, ?_⟩) ?_ ?_
                  rotate_left
                  · intro w'
                    go_simp
                    with_reducible rfl
                  rotate_left
                  · simp only [Act.put, List.setIfInBounds_toArray, List.set_cons_zero, List.set_cons_succ, i64_w, i32_w]
                    rfl
                  refine pure_ (i := 2) (N := some 255) (v := ?_) (a' := ?_) #[true, true, true, false, false, false, false, false, false, false, false, false, false, false, false, false, false, false, false, false, false, false, false] rfl rfl (by kernel_rfl) (fun _ _ _ h => h) (Or.inl ⟨by rfl, ?_⟩) ?_ ?_
                  rotate_left
                  · intro w'
                    go_simp
                    with_reducible rfl
                  rotate_left
                  · simp only [Act.put, List.setIfInBounds_toArray, List.set_cons_zero, List.set_cons_succ, i64_w, i32_w]
                    rfl
                  refine pure_ (i := 6) (N := some 259) (v := ?_) (a' := ?_) #[true, true, true, false, false, false, true, false, false, false, false, false, false, false, false, false, false, false, false, false, false, false, false] rfl rfl (by kernel_rfl) (fun _ _ _ h => h) (Or.inl ⟨by rfl, ?_⟩) ?_ ?_
                  rotate_left
                  · intro w'
                    go_simp
                    with_reducible rfl
                  rotate_left
                  · simp only [Act.put, List.setIfInBounds_toArray, List.set_cons_zero, List.set_cons_succ, i64_w, i32_w]
                    rfl
                  refine pure_ (i := 7) (N := some 260) (v := ?_) (a' := ?_) #[true, true, true, false, false, false, true, true, false, false, false, false, false, false, false, false, false, false, false, false, false, false, false] rfl rfl (by kernel_rfl) (fun _ _ _ h => h) (Or.inl ⟨by rfl, ?_⟩) ?_ ?_
                  rotate_left
                  · intro w'
                    go_simp
                    with_reducible rfl
                  rotate_left
                  · simp only [Act.put, List.setIfInBounds_toArray, List.set_cons_zero, List.set_cons_succ, i64_w, i32_w]
                    rfl
                  refine pure_ (i := 11) (N := some 264) (v := ?_) (a' := ?_) #[true, true, true, false, false, false, true, true, false, false, false, true, false, false, false, false, false, false, false, false, false, false, false] rfl rfl (by kernel_rfl) (fun _ _ _ h => h) (Or.inl ⟨by rfl, ?_⟩) ?_ ?_
                  rotate_left
                  · intro w'
                    go_simp
                    with_reducible rfl
                  rotate_left
                  · simp only [Act.put, List.setIfInBounds_toArray, List.set_cons_zero, List.set_cons_succ, i64_w, i32_w]
                    rfl
                  refine pure_ (i := 12) (N := some 265) (v := ?_) (a' := ?_) #[true, true, true, false, false, false, true, true, false, false, false, true, true, false, false, false, false, false, false, false, false, false, false] rfl rfl (by kernel_rfl) (fun _ _ _ h => h) (Or.inl ⟨by rfl, ?_⟩) ?_ ?_
                  rotate_left
                  · intro w'
                    go_simp
                    with_reducible rfl
                  rotate_left
                  · simp only [Act.put, List.setIfInBounds_toArray, List.set_cons_zero, List.set_cons_succ, i64_w, i32_w]
                    rfl
                  refine pure_ (i := 16) (N := some 269) (v := ?_) (a' := ?_) #[true, true, true, false, false, false, true, true, false, false, false, true, true, false, false, false, true, false, false, false, false, false, false] rfl rfl (by kernel_rfl) (fun _ _ _ h => h) (Or.inl ⟨by rfl, ?_⟩) ?_ ?_
                  rotate_left
                  · intro w'
                    go_simp
                    with_reducible rfl
                  rotate_left
                  · simp only [Act.put, List.setIfInBounds_toArray, List.set_cons_zero, List.set_cons_succ, i64_w, i32_w]
                    rfl
                  refine pure_ (i := 17) (N := some 270) (v := ?_) (a' := ?_) #[true, true, true, false, false, false, true, true, false, false, false, true, true, false, false, false, true, true, false, false, false, false, false] rfl rfl (by kernel_rfl) (fun _ _ _ h => h) (Or.inl ⟨by rfl, ?_⟩) ?_ ?_
                  rotate_left
                  · intro w'
                    go_simp
                    with_reducible rfl
                  rotate_left
                  · simp only [Act.put, List.setIfInBounds_toArray, List.set_cons_zero, List.set_cons_succ, i64_w, i32_w]
                    rfl
                  refine take_ (i := 3) (N := some 256) (v := ?_) (a' := ?_) #[true, true, true, true, false, false, true, true, false, false, false, true, true, false, false, false, true, true, false, false, false, false, false] rfl rfl (by kernel_rfl) (fun _ _ _ h => h) (Or.inl ⟨by rfl, ?_⟩) hHeld ?_ ?_
                  rotate_left
                  · intro w' s0
                    go_simp
                    with_reducible rfl
                  rotate_left
                  · simp only [Act.put, List.setIfInBounds_toArray, List.set_cons_zero, List.set_cons_succ, i64_w, i32_w]
                    rfl
                  refine pure_ (i := 4) (N := some 257) (v := ?_) (a' := ?_) #[true, true, true, true, true, false, true, true, false, false, false, true, true, false, false, false, true, true, false, false, false, false, false] rfl rfl (by kernel_rfl) (fun _ _ _ h => h) (Or.inl ⟨by rfl, ?_⟩) ?_ ?_
                  rotate_left
                  · intro w'
                    go_simp
                    with_reducible rfl
                  rotate_left
                  · simp only [Act.put, List.setIfInBounds_toArray, List.set_cons_zero, List.set_cons_succ, i64_w, i32_w]
                    rfl
                  refine pure_ (i := 5) (N := some 258) (v := ?_) (a' := ?_) #[true, true, true, true, true, true, true, true, false, false, false, true, true, false, false, false, true, true, false, false, false, false, false] rfl rfl (by kernel_rfl) (fun _ _ _ h => h) (Or.inl ⟨by rfl, ?_⟩) ?_ ?_
                  rotate_left
                  · intro w'
                    go_simp
                    with_reducible rfl
                  rotate_left
                  · simp only [Act.put, List.setIfInBounds_toArray, List.set_cons_zero, List.set_cons_succ, i64_w, i32_w]
                    rfl
                  refine take_ (i := 8) (N := some 261) (v := ?_) (a' := ?_) #[true, true, true, true, true, true, true, true, true, false, false, true, true, false, false, false, true, true, false, false, false, false, false] rfl rfl (by kernel_rfl) (fun _ _ _ h => h) (Or.inl ⟨by rfl, ?_⟩) hHeld ?_ ?_
                  rotate_left
                  · intro w' s0
                    go_simp
                    with_reducible rfl
                  rotate_left
                  · simp only [Act.put, List.setIfInBounds_toArray, List.set_cons_zero, List.set_cons_succ, i64_w, i32_w]
                    rfl
                  refine pure_ (i := 9) (N := some 262) (v := ?_) (a' := ?_) #[true, true, true, true, true, true, true, true, true, true, false, true, true, false, false, false, true, true, false, false, false, false, false] rfl rfl (by kernel_rfl) (fun _ _ _ h => h) (Or.inl ⟨by rfl, ?_⟩) ?_ ?_
                  rotate_left
                  · intro w'
                    go_simp
                    with_reducible rfl
                  rotate_left
                  · simp only [Act.put, List.setIfInBounds_toArray, List.set_cons_zero, List.set_cons_succ, i64_w, i32_w]
                    rfl
                  refine pure_ (i := 10) (N := some 263) (v := ?_) (a' := ?_) #[true, true, true, true, true, true, true, true, true, true, true, true, true, false, false, false, true, true, false, false, false, false, false] rfl rfl (by kernel_rfl) (fun _ _ _ h => h) (Or.inl ⟨by rfl, ?_⟩) ?_ ?_
                  rotate_left
                  · intro w'
                    go_simp
                    with_reducible rfl
                  rotate_left
                  · simp only [Act.put, List.setIfInBounds_toArray, List.set_cons_zero, List.set_cons_succ, i64_w, i32_w]
                    rfl
                  refine take_ (i := 13) (N := some 266) (v := ?_) (a' := ?_) #[true, true, true, true, true, true, true, true, true, true, true, true, true, true, false, false, true, true, false, false, false, false, false] rfl rfl (by kernel_rfl) (fun _ _ _ h => h) (Or.inl ⟨by rfl, ?_⟩) hHeld ?_ ?_
                  rotate_left
                  · intro w' s0
                    go_simp
                    with_reducible rfl
                  rotate_left
                  · simp only [Act.put, List.setIfInBounds_toArray, List.set_cons_zero, List.set_cons_succ, i64_w, i32_w]
                    rfl
                  refine pure_ (i := 14) (N := some 267) (v := ?_) (a' := ?_) #[true, true, true, true, true, true, true, true, true, true, true, true, true, true, true, false, true, true, false, false, false, false, false] rfl rfl (by kernel_rfl) (fun _ _ _ h => h) (Or.inl ⟨by rfl, ?_⟩) ?_ ?_
                  rotate_left
                  · intro w'
                    go_simp
                    with_reducible rfl
                  rotate_left
                  · simp only [Act.put, List.setIfInBounds_toArray, List.set_cons_zero, List.set_cons_succ, i64_w, i32_w]
                    rfl
                  refine pure_ (i := 15) (N := some 268) (v := ?_) (a' := ?_) #[true, true, true, true, true, true, true, true, true, true, true, true, true, true, true, true, true, true, false, false, false, false, false] rfl rfl (by kernel_rfl) (fun _ _ _ h => h) (Or.inl ⟨by rfl, ?_⟩) ?_ ?_
                  rotate_left
                  · intro w'
                    go_simp
                    with_reducible rfl
                  rotate_left
                  · simp only [Act.put, List.setIfInBounds_toArray, List.set_cons_zero, List.set_cons_succ, i64_w, i32_w]
                    rfl
                  refine take_ (i := 18) (N := some 271) (v := ?_) (a' := ?_) #[true, true, true, true, true, true, true, true, true, true, true, true, true, true, true, true, true, true, true, false, false, false, false] rfl rfl (by kernel_rfl) (fun _ _ _ h => h) (Or.inl ⟨by rfl, ?_⟩) hHeld ?_ ?_
                  rotate_left
                  · intro w' s0
                    go_simp
                    with_reducible rfl
                  rotate_left
                  · simp only [Act.put, List.setIfInBounds_toArray, List.set_cons_zero, List.set_cons_succ, i64_w, i32_w]
                    rfl
                  refine pure_ (i := 19) (N := some 272) (v := ?_) (a' := ?_) #[true, true, true, true, true, true, true, true, true, true, true, true, true, true, true, true, true, true, true, true, false, false, false] rfl rfl (by kernel_rfl) (fun _ _ _ h => h) (Or.inl ⟨by rfl, ?_⟩) ?_ ?_
                  rotate_left
                  · intro w'
                    go_simp
                    with_reducible rfl
                  rotate_left
                  · simp only [Act.put, List.setIfInBounds_toArray, List.set_cons_zero, List.set_cons_succ, i64_w, i32_w]
                    rfl
                  refine one_ (i := 20) (N := some 273) #[true, true, true, true, true, true, true, true, true, true, true, true, true, true, true, true, true, true, true, true, true, false, false] rfl rfl (by kernel_rfl) (by decide) (fun K hK => ?_)
                  refine Kd.R_lit_step (Kd.int .u8) _ 5 (by rfl) (N := 273) rfl (xs := four (rd hs' (j : Int))) (inner := [.int .u8 (rd hs' (j : Int) / 16777216 % 256), .int .u8 (rd hs' (j : Int) / 65536 % 256), .int .u8 (rd hs' (j : Int) / 256 % 256), .int .u8 (rd hs' (j : Int) % 256)]) (ok := fun _ => True) (okp := fun _ => True) ?hr ?hp (fun _ hk => hk) trivial (Below.refl _ _) (Nat.le_refl _) (by simp [four]) ?_
                  case hr => go_simp; simp only [IntKind.wrap_u8]; exact ⟨rfl, trivial⟩
                  case hp => exact (Reps.one (show Kd.M (Kd.int .u8) _ _ _ (rd hs' (j : Int) / 16777216 % 256) [.int .u8 (rd hs' (j : Int) / 16777216 % 256)] from rfl) (Reps.one (show Kd.M (Kd.int .u8) _ _ _ (rd hs' (j : Int) / 65536 % 256) [.int .u8 (rd hs' (j : Int) / 65536 % 256)] from rfl) (Reps.one (show Kd.M (Kd.int .u8) _ _ _ (rd hs' (j : Int) / 256 % 256) [.int .u8 (rd hs' (j : Int) / 256 % 256)] from rfl) (Reps.one (show Kd.M (Kd.int .u8) _ _ _ (rd hs' (j : Int) % 256) [.int .u8 (rd hs' (j : Int) % 256)] from rfl) (Reps.none _ _)))))
                  intro v273 w7 ho5 hb7 hg7 hnew7
                  clear hg7 hnew7
                  have hr7 := Kd.R_elder' hr6 (Kd.R_base ho5) hb7
                  obtain ⟨Ao, co, eo⟩ := Kd.R_slice ho5
                  subst eo
                  have hbw7 := below_then hbw6 hsw6 hb7
                  have hsw7 : we.heap.size ≤ w7.heap.size := hbw7.size
                  clear hr6 hbw6 hsw6 hb7
                  refine hK.out _ _ (arr_cell (arr_below hh3 hbw7) j hjl) (fun hHeld => ?_)
                  clear hK K
                  refine norm_ (a' := ?_) ?_ ?_
                  rotate_left
                  · show Act.put _ (some 273) _ = _
                    simp only [Act.put, List.setIfInBounds_toArray, List.set_cons_zero, List.set_cons_succ, i64_w, i32_w]
                    rfl
                  refine one_ (i := 21) (N := some 274) #[true, true, true, true, true, true, true, true, true, true, true, true, true, true, true, true, true, true, true, true, true, true, false] rfl rfl (by kernel_rfl) (by decide) (fun K hK => ?_)
                  refine Kd.R_append_rows_step (Kd.int .u8) (w0 := we) we.heap.size (by rfl) (.tmp 253) (.tmp 273) 22 5 (.int .u8 0) 1 rfl Tryd.underlying22 rfl rfl (by decide) (by omega) u20 (fourTo hs' j) (four (rd hs' (j : Int))) _ _ _ (fun k_ => True ∧ some k_ ≠ (.slice Ao (four (rd hs' (j : Int))).length co : Value).ownBlock) (fun _ => False) rfl rfl ?aO ?aR (fun _ _ h => h) (fun _ h => h.elim) ?aF ?aB ?aS ?aL ?_
                  case aR => exact (Kd.R_reads' ho5).2.2
                  case aB => exact hbw7
                  case aF => exact fun k_ hk => ⟨trivial, Kd.fresh' (Kd.R_lt ho5) k_ hk⟩
                  case aO => exact hr7
                  case aS => exact hsw7
                  case aL => rw [fourTo_length]; simp [four]; omega
                  intro v274 w8 ho8 hb8 hg8 hat8
                  clear hg8 hat8
                  rw [← fourTo_succ] at ho8
                  have hr8 := Kd.R_mono (ok' := fun _ => True) ho8 (fun _ _ => trivial)
                  clear ho8 ho5 hr7 hbw7 hsw7
                  refine hK.out _ _ (arr_cell (arr_below hh3 hb8) j hjl) (fun hHeld => ?_)
                  clear hK K
                  refine norm_ (a' := ?_) ?_ ?_
                  rotate_left
                  · show Act.put _ (some 274) _ = _
                    simp only [Act.put, List.setIfInBounds_toArray, List.set_cons_zero, List.set_cons_succ, i64_w, i32_w]
                    rfl
                  refine pure_ (i := 22) (N := some 20) (v := ?_) (a' := ?_) #[true, true, true, true, true, true, true, true, true, true, true, true, true, true, true, true, true, true, true, true, true, true, true] rfl rfl (by kernel_rfl) (fun _ _ _ h => h) (Or.inl ⟨by rfl, ?_⟩) ?_ ?_
                  rotate_left
                  · intro w'
                    go_simp
                    with_reducible rfl
                  rotate_left
                  · simp only [Act.put, List.setIfInBounds_toArray, List.set_cons_zero, List.set_cons_succ, i64_w, i32_w]
                    rfl
                  refine done_ (by kernel_rfl) ?_
                  -- 44]
                  go_wp2_with fail
                  exact ⟨⟨j + 1, by omega, by go_num, hr8, hb8, hb8.size⟩, by simp [intOf]; omega⟩
                · obtain rfl : j = 8 := by omega
                  have hcv := own_string (P := Tryd.prog) Tryd.underlying22 Tryd.underlying5 Tryd.underlying9 (Kd.own_of_R hr)
                  have hbelF := below_then hbel (by omega) hbw
                  go_wp2_with fail
                  go_ret
                  exact ⟨by rw [sumS, ← (show hs' = statesTo (padL b.data.toList) ((padL b.data.toList).length / 64) from Hhs)]; rfl, hbelF⟩
def exequaturref01_Sum.f (a0 : ByteArray) : Option (ByteArray) := if a0.size ≤ 1000000000 then some (sumS a0.data.toList) else none
theorem exequaturref01_Sum.calls (a0 : ByteArray) (r : ByteArray) (w : World) (h : exequaturref01_Sum.f a0 = some r) :
    Calls Tryd.prog 63 #[.string a0] w fun e w' => e = .returned (.string r) ∧ Below w.heap.size w w' := by
  unfold exequaturref01_Sum.f at h
  split at h
  case isTrue hs =>
    obtain rfl := Option.some.inj h
    exact exequaturref01_Sum.says a0 hs w
  case isFalse hs => exact absurd h (by simp)

/-! ### exequaturref10_Frame: function 47 -/
def exequaturref10_Frame.f (l0 : List Int) : Option (List Int) := (exequaturref10_Four.f (l0.length : Int)).bind fun t342 => (if (strOfNums t342).size + (strOfNums l0).size ≤ 9223372036854775807 then ((exequaturref01_Sum.f ((strOfNums t342) ++ (strOfNums l0))).bind fun t345 => (if 0 ≤ 4 then (if 4 ≤ (t345.size : Int) then (if t342.length + (t345.extract 0 4).size < 140737488355328 then ((some (t342 ++ bytesOf (t345.extract 0 4) : List Int)).bind fun y346 => (if y346.length + l0.length < 140737488355328 then (some (y346 ++ l0)) else (none))) else (none)) else (none)) else (none))) else (none))
set_option maxHeartbeats 8000000 in
set_option maxRecDepth 100000 in
theorem exequaturref10_Frame.calls (A0 : Option Addr) (c0 : Nat) (l0 : List Int) (r : List Int) (w : World) (hr0 : Kd.C (Kd.int .u8) w A0 l0.length l0) (hc0 : l0.length ≤ c0) (h : exequaturref10_Frame.f l0 = some r) :
    Calls Tryd.prog 47 #[.slice A0 l0.length c0] w fun e w' => ∃ v0_ : Value, e = .returned (v0_) ∧ Kd.R (Kd.int .u8) 5 w' w.heap.size (fun _ => True) v0_ r ∧ Below w.heap.size w w' := by
  have HR0 := Aside0.mk hr0
  have HC0 := Aside0.mk hc0
  clear hr0 hc0
  have HB := Aside0.mk (Below.refl w.heap.size w)
  have H : ((exequaturref10_Four.f (l0.length : Int)).bind fun t342 => (if (strOfNums t342).size + (strOfNums l0).size ≤ 9223372036854775807 then ((exequaturref01_Sum.f ((strOfNums t342) ++ (strOfNums l0))).bind fun t345 => (if 0 ≤ 4 then (if 4 ≤ (t345.size : Int) then (if t342.length + (t345.extract 0 4).size < 140737488355328 then ((some (t342 ++ bytesOf (t345.extract 0 4) : List Int)).bind fun y346 => (if y346.length + l0.length < 140737488355328 then (some (y346 ++ l0)) else (none))) else (none)) else (none)) else (none))) else (none))) = some r := h
  clear h
  replace H := Option.bind_eq_some_iff.mp H
  obtain ⟨t342, A20, H⟩ := H
  replace H : (if (strOfNums t342).size + (strOfNums l0).size ≤ 9223372036854775807 then ((exequaturref01_Sum.f ((strOfNums t342) ++ (strOfNums l0))).bind fun t345 => (if 0 ≤ 4 then (if 4 ≤ (t345.size : Int) then (if t342.length + (t345.extract 0 4).size < 140737488355328 then ((some (t342 ++ bytesOf (t345.extract 0 4) : List Int)).bind fun y346 => (if y346.length + l0.length < 140737488355328 then (some (y346 ++ l0)) else (none))) else (none)) else (none)) else (none))) else (none)) = some r := H
  have A2 := Aside0.mk A20
  clear A20
  by_cases c3 : (strOfNums t342).size + (strOfNums l0).size ≤ 9223372036854775807
  · rw [if_pos c3] at H
    have c3b0 := eq_true c3
    have c3b1 : decide ((strOfNums t342).size + (strOfNums l0).size ≤ 9223372036854775807) = true := decide_eq_true c3
    try have c3b2 : (9223372036854775807 < (strOfNums t342).size + (strOfNums l0).size) = False := eq_false (Nat.not_lt.2 c3)
    replace H := Option.bind_eq_some_iff.mp H
    obtain ⟨t345, A40, H⟩ := H
    replace H : (if 0 ≤ 4 then (if 4 ≤ (t345.size : Int) then (if t342.length + (t345.extract 0 4).size < 140737488355328 then ((some (t342 ++ bytesOf (t345.extract 0 4) : List Int)).bind fun y346 => (if y346.length + l0.length < 140737488355328 then (some (y346 ++ l0)) else (none))) else (none)) else (none)) else (none)) = some r := H
    have A4 := Aside0.mk A40
    clear A40
    by_cases c5 : 0 ≤ 4
    · rw [if_pos c5] at H
      have c5b0 := eq_true c5
      have c5b1 : decide (0 ≤ 4) = true := decide_eq_true c5
      clear c5
      by_cases c6 : 4 ≤ (t345.size : Int)
      · rw [if_pos c6] at H
        have c6b0 := eq_true c6
        have c6b1 : decide (4 ≤ (t345.size : Int)) = true := decide_eq_true c6
        clear c6
        by_cases c7 : t342.length + (t345.extract 0 4).size < 140737488355328
        · rw [if_pos c7] at H
          have LMc7 := Aside0.mk c7
          clear c7
          obtain ⟨y346, hy346⟩ : ∃ y_ : List Int, y_ = (t342 ++ bytesOf (t345.extract 0 4)) := ⟨_, rfl⟩
          replace H : (if y346.length + l0.length < 140737488355328 then (some (y346 ++ l0)) else (none)) = some r := by first | (rw [hy346]; with_reducible exact H) | (have H2_ := (Option.bind_some _ _).symm.trans H; rw [hy346]; with_reducible exact H2_) | (have H2_ := (Option.bind_some _ _).symm.trans H; with_reducible exact H2_) | with_reducible exact H | (rw [hy346]; exact H) | exact H
          have Ny346 := Aside0.mk hy346
          clear hy346
          by_cases c8 : y346.length + l0.length < 140737488355328
          · rw [if_pos c8] at H
            have LMc8 := Aside0.mk c8
            clear c8
            obtain ⟨y349, hy349⟩ : ∃ y_ : List Int, y_ = (y346 ++ l0) := ⟨_, rfl⟩
            replace H : (some y349) = some r := by first | (rw [hy349]; with_reducible exact H) | (have H2_ := (Option.bind_some _ _).symm.trans H; rw [hy349]; with_reducible exact H2_) | (have H2_ := (Option.bind_some _ _).symm.trans H; with_reducible exact H2_) | with_reducible exact H | (rw [hy349]; exact H) | exact H
            have Ny349 := Aside0.mk hy349
            clear hy349
            obtain rfl := Option.some.inj H
            go_enter Tryd.func47, Tryd.ntmps47
            go_wp2_with (first | ((with_reducible refine gate_callee (f := 62) rfl ?_); refine goesL_ (some 7) rfl rfl Tryd.func62 (by kernel_rfl) rfl #[.int .i64 (l0.length : Int)] rfl (by (try simp only [List.map_toArray, List.map_cons, List.map_nil]); first | done | rfl | (simp only [List.length_drop, List.length_take]; rfl)) ?_; (with_reducible refine (exequaturref10_Four.calls (l0.length : Int) t342 _ A2.out).mono ?_); rintro e w9 ⟨v343, rfl, ho0, hb⟩; refine ⟨_, rfl, ?_⟩; have n0_ := Aside0.mk (Kd.R_lower ho0 (below_size (by repeat (first | (with_reducible first | exact HB.out | apply below_alloc | apply pw_below_drewN | apply below_drew1) | exact HB.out)))); have n1_ := Aside0.mk (below_step (by repeat (first | (with_reducible first | exact HB.out | apply below_alloc | apply pw_below_drewN | apply below_drew1) | exact HB.out)) hb); clear HB; have HO344 := n0_; have HB := n1_; clear n0_ n1_; (try clear hb); (try clear hb2); (try clear hk); (try clear hi); (try clear ho0); have hcv10 := (own_string (P := Tryd.prog) Tryd.underlying22 Tryd.underlying5 Tryd.underlying9 (Kd.own_of_R HO344.out)); have hcv11 := Kd.C_string (P := Tryd.prog) (A := A0) (c := c0) Tryd.underlying22 Tryd.underlying5 Tryd.underlying9 (Kd.C_below HR0.out HB.out)) | ((with_reducible refine gate_callee (f := 63) rfl ?_); refine goesL_ (some 13) rfl rfl Tryd.func63 (by kernel_rfl) rfl #[.string ((strOfNums t342) ++ (strOfNums l0))] rfl (by (try simp only [List.map_toArray, List.map_cons, List.map_nil]); first | done | rfl | (simp only [List.length_drop, List.length_take]; rfl)) ?_; (with_reducible refine (exequaturref01_Sum.calls ((strOfNums t342) ++ (strOfNums l0)) t345 _ A4.out).mono ?_); rintro e w12 ⟨rfl, hb⟩; refine ⟨_, rfl, ?_⟩; have n0_ := Aside0.mk (Kd.R_below (by (with_reducible repeat (first | apply Kd.R_alloc | apply Kd.R_drewN | apply Kd.R_drew)); exact HO344.out) hb); have n1_ := Aside0.mk (below_step (by repeat (first | (with_reducible first | exact HB.out | apply below_alloc | apply pw_below_drewN | apply below_drew1) | exact HB.out)) hb); clear HO344; clear HB; have HO344 := n0_; have HB := n1_; clear n0_ n1_; (try clear hb); (try clear hb2); (try clear hk); (try clear hi)) | (at_builtin; refine print_append_str (w0 := w) w.heap.size rfl (.tmp 15) _ 22 9 5 rfl Tryd.underlying22 Tryd.underlying9 info5 v343 t342 (t345.extract 0 4) rfl rfl ?aO ?aB ?aS ?aL ?_; (case aB => exact (by repeat (first | (with_reducible first | exact HB.out | apply below_alloc | apply pw_below_drewN | apply below_drew1) | exact HB.out))); (case aO => exact (Kd.own_of_R (by (with_reducible repeat (first | apply Kd.R_alloc | apply Kd.R_drewN | apply Kd.R_drew)); exact HO344.out))); (case aS => exact (below_size (by repeat (first | (with_reducible first | exact HB.out | apply below_alloc | apply pw_below_drewN | apply below_drew1) | exact HB.out)))); (case aL => have := LMc7.out; omega); intro v347 w13 ho0 hb hg; have ho := Kd.R_of_own (h1 := fun _ => rfl) (ok := fun _ => True) ho0 (fun _ _ => trivial); clear ho0; have hat := True.intro; rw [← Ny346.out] at ho; change Kd.R (Kd.int .u8) 5 w13 w.heap.size (fun _ => True) v347 y346 at ho; have n0_ := Aside0.mk (hb); have n1_ := Aside0.mk (ho); clear HB; clear HO344; have HB := n0_; have HO348 := n1_; clear n0_ n1_; clear ho hb hg hat) | ((with_reducible refine gate_builtin (b := .append) (xs := #[.tmp 17, .tmp 18]) rfl ?_); at_builtin; refine Kd.R_append_rows (Kd.int .u8) (w0 := w) w.heap.size rfl (.tmp 17) (.tmp 18) 22 5 (.int .u8 0) 1 rfl Tryd.underlying22 info5 rfl (by decide) (by omega) v347 y346 l0 _ _ _ (fun _ => True) (fun _ => False) rfl rfl ?aO ?aR (fun _ _ h => h) (fun _ h => h.elim) ?aF ?aB ?aS ?aL ?_; (case aR => repeat (first | exact (Kd.C_below HR0.out HB.out) | (with_reducible refine Kd.C_alloc ?_ _) | (with_reducible refine Kd.C_drewN ?_ _) | (with_reducible refine Kd.C_drew ?_))); (case aB => exact (by repeat (first | (with_reducible first | exact HB.out | apply below_alloc | apply pw_below_drewN | apply below_drew1) | exact HB.out))); (case aF => exact (fun _ _ => trivial)); (case aO => exact (by (with_reducible repeat (first | apply Kd.R_alloc | apply Kd.R_drewN | apply Kd.R_drew)); exact HO348.out)); (case aS => exact (below_size (by repeat (first | (with_reducible first | exact HB.out | apply below_alloc | apply pw_below_drewN | apply below_drew1) | exact HB.out)))); (case aL => have := LMc8.out; omega); intro v350 w14 ho hb hg hat; rw [← Ny349.out] at ho; have n0_ := Aside0.mk (hb); have n1_ := Aside0.mk (ho); clear HB; clear HO348; have HB := n0_; have HO351 := n1_; clear n0_ n1_; clear ho hb hg hat))
            go_ret
            exact ⟨_, by first | rfl | (simp [errW_none, errW_some] <;> rfl) | (simp [*, errW_none, errW_some] <;> rfl), by (with_reducible repeat (first | apply Kd.R_alloc | apply Kd.R_drewN | apply Kd.R_drew)); exact HO351.out, by repeat (first | (with_reducible first | exact HB.out | apply below_alloc | apply pw_below_drewN | apply below_drew1) | exact HB.out)⟩
          · rw [if_neg c8] at H
            exact absurd H (by simp)
        · rw [if_neg c7] at H
          exact absurd H (by simp)
      · rw [if_neg c6] at H
        exact absurd H (by simp)
    · rw [if_neg c5] at H
      exact absurd H (by simp)
  · rw [if_neg c3] at H
    exact absurd H (by simp)

end Go.Proofs.YtkmokcfnfhabgaaDoor.Q
