-- Written by a program of this session (wip/xprint.py) over the kit's print.py; Lean checks it.
import Derived.Test.YtfoepbjbgohhdaaDoorQ0
import Derived.Test.YtfoepbjbgohhdaaDoorQ1
namespace Go.Proofs.YtfoepbjbgohhdaaDoor.Q
open Go.RowKit Go.Proofs.YtfoepbjbgohhdaaDoorW.PrintWords Go.Proofs.YtfoepbjbgohhdaaDoorW.PrintLast Go.Proofs.YtfoepbjbgohhdaaDoorW.PrintMore
attribute [local go_sem] max2_int min2_int max_two min_two max_three min_three max_four min_four   -- for this text's walks alone
open Go.Proofs.YtfoepbjbgohhdaaDoor.X
set_option linter.unusedVariables false
set_option linter.unusedSimpArgs false

/-! ### hash_Sum: function 9, by hand -/
theorem be_Long_nil (n : Nat) (hn : n < 18446744073709551616) : be_Long.f [] (n : Int) = some ((longL n).map fun c => (c.toNat : Int)) := by
  unfold be_Long.f be_Put.f
  have e (x : Nat) : (((x % 256).toUInt8.toNat : Nat) : Int) = (x : Int) % 256 := by
    rw [UInt8.toNat_ofNat']; omega
  simp only [Option.bind_some, List.length_nil, List.length_cons, List.nil_append, List.cons_append, longL, List.map_cons, List.map_nil, e]
  rw [if_pos (by decide), Option.bind_some, if_pos (by simp), Option.bind_some]
  simp only [Option.some.injEq, List.cons.injEq, and_true, List.cons_append, List.nil_append]
  omega
theorem padded_is (b : ByteArray) (hb : b.size ≤ 1000000000) : hash_padded.f b = some ⟨(padL b.data.toList).toArray⟩ := by
  have hn : ((183 - (b.size : Int)) % 64) = ((padFill b.size : Nat) : Int) := by unfold padFill; omega
  unfold hash_padded.f
  rw [show IntKind.u64.wrap (8 * (b.size : Int)) = ((8 * b.size : Nat) : Int) by simp [IntKind.wrap, IntKind.bits, IntKind.signed]; omega, be_Long_nil _ (by omega), Option.bind_some, if_pos (by omega), hn]
  have hp : padFill b.size < 64 := by unfold padFill; omega
  unfold strings_Repeat.f
  have h0 : ∀ n, Lib.repeatL [0] n = List.replicate n 0 := by
    intro n
    induction n with
    | zero => rfl
    | succ n ih => rw [Lib.repeatL, ih]; rfl
  have h1 (l : List UInt8) : strOfNums (l.map fun c => (c.toNat : Int)) = ⟨l.toArray⟩ := by
    unfold strOfNums; simp [List.map_map, Function.comp_def]
  have h2 : (⟨(Lib.repeatL (⟨#[0]⟩ : ByteArray).data.toList ((padFill b.size : Nat) : Int).toNat).toArray⟩ : ByteArray) = ⟨(List.replicate (padFill b.size) 0).toArray⟩ := by
    rw [Int.toNat_natCast]; exact congrArg (fun l : List UInt8 => (⟨l.toArray⟩ : ByteArray)) (h0 _)
  have h3 : (⟨(List.replicate (padFill b.size) (0 : UInt8)).toArray⟩ : ByteArray).size = padFill b.size := by show (List.replicate (padFill b.size) (0 : UInt8)).toArray.size = _; simp
  have h4 : (⟨(longL (8 * b.size)).toArray⟩ : ByteArray).size = 8 := rfl
  rw [if_pos ⟨by omega, by omega, by rw [Int.toNat_natCast]; show 1 * _ ≤ _; omega⟩, Option.bind_some, h2, h1, h3, h4, if_pos (by omega), if_pos (by omega)]
  congr 1
theorem put_is (l0 : List Int) (v : Int) (h : l0.length + 4 < 140737488355328) : be_Put.f l0 v = some (l0 ++ four v) := by
  unfold be_Put.f
  rw [Option.bind_some, if_pos (by simpa using h)]
  rfl
set_option maxHeartbeats 4000000 in
set_option maxRecDepth 100000 in
theorem hash_Sum.says (b : ByteArray) (hb : b.size ≤ 1000000000) (w : World) (hG : GL w) : Calls Tryd.prog 9 #[.string b] w fun e w' => e = .returned (.string (sumS b.data.toList)) ∧ Below w.heap.size w w' := by
  go_enter Tryd.func9, Tryd.ntmps9
  go_upto_region 1 with fail
  obtain ⟨_, _, hGb, -⟩ := id hG
  go_upto_region 2 with (first | refine arr_load hGb 30 (.global 0) rfl rfl rfl rfl rfl ?_ | refine arr_store (arr_new w 30 (List.replicate 8 0) rfl) beginL rfl 30 (.tmp 3) (.tmp 8) rfl rfl rfl rfl rfl ?_)
  refine wp_world ?_
  intro w1 hw1
  have hh1 : ArrK .u32 w1 w.heap.size 30 beginL := by rw [hw1]; exact arr_setRow (arr_new w 30 (List.replicate 8 0) rfl) _
  have hbel1 : Below w.heap.size w w1 := by rw [hw1]; exact below_setRow ((Below.refl _ _).alloc (Nat.le_refl _) _) (Nat.le_refl _) _
  have hs1 : w.heap.size + 1 ≤ w1.heap.size := by rw [hw1]; simp
  clear hw1 hGb
  go_wp2_with fail
  refine (hash_padded.calls b _ w1 (padded_is b hb)).mono ?_
  rintro e w2 ⟨rfl, hb2⟩
  have hbel2 := below_then hbel1 (by omega) hb2
  have hh2 := arr_below hh1 hb2
  have hs2 : w.heap.size + 1 ≤ w2.heap.size := Nat.le_trans hs1 hb2.size
  clear hbel1 hh1 hb2
  have lP := padL_mod b.data.toList
  obtain ⟨P, hP⟩ : ∃ P, P = padL b.data.toList := ⟨_, rfl⟩
  rw [← hP] at lP ⊢
  have HP := Lib.hid hP
  clear hP
  go_upto_region 3 with fail
  go_loopw [4] (fun v4 wr => ∃ (k : Nat) (q : ByteArray), 64 * k ≤ P.length ∧ v4 = .string q ∧ q.data.toList = P.drop (64 * k) ∧ ArrK .u32 wr w.heap.size 30 (statesTo P k) ∧ Below w.heap.size w wr ∧ w.heap.size + 1 ≤ wr.heap.size ∧ GL wr) (fun v4 _ => match v4 with | .string q => q.size | _ => 0)
  case atStart => exact ⟨0, _, by omega, rfl, rfl, hh2, hbel2, hs2, hG.below hbel2⟩
  case round =>
    clear hh2 hbel2 hs2
    obtain ⟨k, q, hk, rfl, hq, hh, hbel, hs, hGw⟩ := hrel
    have lq : q.size = P.length - 64 * k := by
      have := congrArg List.length hq
      rw [List.length_drop, Array.length_toList] at this
      exact this
    have hE : q.toList.isEmpty = decide (q.size = 0) := by
      rw [ByteArray.toList_eq]; show q.data.toList.isEmpty = decide (q.data.size = 0); rw [← Array.length_toList]; cases q.data.toList <;> rfl
    by_cases hlt : q.size = 0
    · have hE' : q.toList.isEmpty = true := by rw [hE]; simp [hlt]
      obtain rfl : k = P.length / 64 := by omega
      clear hE lq hq hlt
      have lh := statesTo_length P (P.length / 64)
      obtain ⟨H, hH⟩ : ∃ H, H = statesTo P (P.length / 64) := ⟨_, rfl⟩
      rw [← hH] at hh lh
      have HH := Lib.hid hH
      clear hH
      go_upto_region 8 with (refine arr_load hh 30 (.tmp 3) rfl rfl rfl rfl (by rw [lh]; rfl) ?_)
      go_loopw [5, 20] (fun v5 v20 wr => ∃ j : Nat, j ≤ 8 ∧ v20 = .int .i64 j ∧ Kd.R (Kd.int .u8) 5 wr w.heap.size (fun _ => True) v5 (fourTo H j) ∧ Below w.heap.size w wr) (fun _ v20 _ => 8 - (intOf v20).toNat)
      case atStart => exact ⟨0, by omega, rfl, Kd.R_nil _ _ _ _ _, hbel⟩
      case round =>
        clear hh hbel hs hGw
        obtain ⟨j, hj, rfl, hr, hbel⟩ := hrel
        by_cases hlt : j < 8
        · have hdec : decide ((j : Int) < 8) = true := by simp; omega
          have hidx : ∀ W, Sem.run Tryd.prog (Instr.index 30 (.agg (nums .u32 H).toArray) (.int .i64 (j : Int))) W = .ok (.int .u32 (rd H (j : Int))) W := fun W => run_index_num (n := 8) rfl rfl rfl rfl rfl lh j hlt W
          go_wp2_with fail
          refine (be_Put.calls (fun _ => True) u5 _ _ _ w wr hbel hr (put_is (fourTo H j) (rd H j) (by rw [fourTo_length]; omega))).mono ?_
          rintro e w4 ⟨v1, rfl, hr1, hb1, -⟩
          have hr2 := Kd.R_mono (ok' := fun _ => True) hr1 (fun _ _ => trivial)
          rw [← fourTo_succ] at hr2
          clear hr hr1 hbel
          go_wp2_with fail
          exact ⟨⟨j + 1, by omega, by go_num, hr2, hb1⟩, by simp [intOf]; omega⟩
        · obtain rfl : j = 8 := by omega
          have hcv := own_string (P := Tryd.prog) Tryd.underlying27 Tryd.underlying5 Tryd.underlying9 (Kd.own_of_R hr)
          go_wp2_with fail
          go_ret
          exact ⟨by rw [sumS, ← (show P = padL b.data.toList from HP), ← (show H = statesTo P (P.length / 64) from HH)]; rfl, hbel⟩
    · have hE' : q.toList.isEmpty = false := by rw [hE]; simp [hlt]
      clear hE
      have l1 : 64 ≤ q.size := by omega
      have b64 : ((64 : Int) ≤ (q.size : Int)) = True := by simp; omega
      have Lq := Lib.hid lq
      clear lq
      have lh := statesTo_length P k
      go_upto_region 5 with fail
      refine wp_region_still_tail 3 (by kernel_rfl) (by kernel_rfl) ?_
      simp only [List.take_succ_cons, List.take_zero, List.drop_succ_cons, List.drop_zero]
      change wpStill _ _ wr.drew _ _ _
      have hbel1 : Below w.heap.size w wr.drew := below_drew hbel
      have hh1 : ArrK .u32 wr.drew w.heap.size 30 (statesTo P k) := hh
      have hs1 : w.heap.size + 1 ≤ wr.drew.heap.size := hs
      have hG1 : GL wr.drew := hGw
      clear hbel hh hs hGw
      refine arr_still_load hh1 30 (.tmp 3) rfl rfl rfl rfl (by rw [lh]; rfl) ?_
      repeat still_step
      refine wpStill_nil ?_
      change wpList _ _ _ _ _ wr.drew
      generalize wr.drew = w3 at hbel1 hh1 hs1 hG1 ⊢
      go_wp2_with fail
      have le : (q.extract 0 64).size = 64 := by simp; omega
      refine (hash_mix.says (statesTo P k) lh (q.extract 0 64) le w3 hG1).mono ?_
      rintro e w4 ⟨rfl, hb4⟩
      have hbel4 := below_then hbel1 (by omega) hb4
      have hh4 := arr_below hh1 hb4
      have hs4 : w.heap.size + 1 ≤ w4.heap.size := Nat.le_trans hs1 hb4.size
      have hG4 := hG1.below hb4
      clear hbel1 hh1 hs1 hG1 hb4
      have lm := mixed_length (statesTo P k) (q.extract 0 64).data.toList
      rw [lh] at lm
      obtain ⟨M, hM⟩ : ∃ M, M = mixed (statesTo P k) (q.extract 0 64).data.toList := ⟨_, rfl⟩
      rw [← hM] at lm ⊢
      have HM := Lib.hid hM
      clear hM
      go_upto_region 4 with (refine arr_store hh4 M (by rw [lm, lh]) 30 (.tmp 3) (.tmp 18) rfl rfl rfl rfl (by rw [lm]; rfl) ?_)
      refine wp_world ?_
      intro w5 hw5
      have hq2 : (q.extract 0 64).data.toList = blockOf P k := by
        rw [ByteArray.data_extract, Array.toList_extract, List.extract_eq_take_drop, hq]; rfl
      have hq3 : (q.extract 64 q.size).data.toList = P.drop (64 * (k + 1)) := by
        rw [ByteArray.data_extract, Array.toList_extract, List.extract_eq_take_drop, hq, List.take_of_length_le (by rw [List.length_drop, List.length_drop]; have := (show q.size = P.length - 64 * k from Lq); omega), List.drop_drop]
        congr 1
      have hM2 : M = mixed (statesTo P k) (blockOf P k) := by rw [show M = mixed (statesTo P k) (q.extract 0 64).data.toList from HM, hq2]
      rw [hM2] at hw5
      have hh5 : ArrK .u32 w5 w.heap.size 30 (statesTo P (k + 1)) := by rw [hw5, statesTo_succ]; exact arr_setRow hh4 _
      have hbel5 : Below w.heap.size w w5 := by rw [hw5]; exact below_setRow hbel4 (Nat.le_refl _) _
      have hs5 : w.heap.size + 1 ≤ w5.heap.size := by rw [hw5, size_setRow]; exact hs4
      have hG5 : GL w5 := hG.below hbel5
      clear hw5 hh4 hbel4 hs4 hG4 lm hq2
      go_wp2_with fail
      have Lq2 : q.size = P.length - 64 * k := Lq
      exact ⟨⟨k + 1, _, by omega, rfl, hq3, hh5, hbel5, hs5, hG5⟩, by show (q.extract 64 q.size).size < q.size; simp; omega⟩
def hash_Sum.f (a0 : ByteArray) : Option (ByteArray) := if a0.size ≤ 1000000000 then some (sumS a0.data.toList) else none
theorem hash_Sum.calls (a0 : ByteArray) (r : ByteArray) (w : World) (h : hash_Sum.f a0 = some r) (hGL : GL w) :
    Calls Tryd.prog 9 #[.string a0] w fun e w' => e = .returned (.string r) ∧ Below w.heap.size w w' := by
  unfold hash_Sum.f at h
  split at h
  case isTrue hs =>
    obtain rfl := Option.some.inj h
    exact hash_Sum.says a0 hs w hGL
  case isFalse hs => exact absurd h (by simp)

/-! ### exequaturlaw04_answers: function 8 -/
def exequaturlaw04_answers.f  : Option (Bool) := (hash_Sum.f (⟨#[]⟩ : ByteArray)).bind fun t120 => (if (t120.size : Int) = 32 then (if 0 < (t120.size : Int) then (if (bt t120 0) = 227 then (if 1 < (t120.size : Int) then (if (bt t120 1) = 176 then (if 2 < (t120.size : Int) then (if (bt t120 2) = 196 then (if 3 < (t120.size : Int) then (some ((bt t120 3) == 66)) else (none)) else (some false)) else (none)) else (some false)) else (none)) else (some false)) else (none)) else (some false))
set_option maxHeartbeats 8000000 in
set_option maxRecDepth 100000 in
theorem exequaturlaw04_answers.calls  (r : Bool) (w : World) (h : exequaturlaw04_answers.f  = some r) (hGL : GL w) :
    Calls Tryd.prog 8 #[] w fun e w' => e = .returned (.bool r) ∧ Below w.heap.size w w' := by
  have HGL := Aside0.mk hGL
  clear hGL
  have HB := Aside0.mk (Below.refl w.heap.size w)
  have H : ((hash_Sum.f (⟨#[]⟩ : ByteArray)).bind fun t120 => (if (t120.size : Int) = 32 then (if 0 < (t120.size : Int) then (if (bt t120 0) = 227 then (if 1 < (t120.size : Int) then (if (bt t120 1) = 176 then (if 2 < (t120.size : Int) then (if (bt t120 2) = 196 then (if 3 < (t120.size : Int) then (some ((bt t120 3) == 66)) else (none)) else (some false)) else (none)) else (some false)) else (none)) else (some false)) else (none)) else (some false))) = some r := h
  clear h
  replace H := Option.bind_eq_some_iff.mp H
  obtain ⟨t120, A10, H⟩ := H
  replace H : (if (t120.size : Int) = 32 then (if 0 < (t120.size : Int) then (if (bt t120 0) = 227 then (if 1 < (t120.size : Int) then (if (bt t120 1) = 176 then (if 2 < (t120.size : Int) then (if (bt t120 2) = 196 then (if 3 < (t120.size : Int) then (some ((bt t120 3) == 66)) else (none)) else (some false)) else (none)) else (some false)) else (none)) else (some false)) else (none)) else (some false)) = some r := H
  have A1 := Aside0.mk A10
  clear A10
  by_cases c2 : (t120.size : Int) = 32
  · rw [if_pos c2] at H
    have c2b0 : ((t120.size : Int) == 32) = true := beq_iff_eq.mpr c2
    have c2b1 : ((t120.size : Int) != 32) = false := bne_eq_false_iff_eq.mpr c2
    clear c2
    by_cases c3 : 0 < (t120.size : Int)
    · rw [if_pos c3] at H
      have c3b0 : decide (0 < (t120.size : Int)) = true := decide_eq_true c3
      have c3b1 : decide (0 < t120.size) = true := decide_eq_true (by omega)
      clear c3
      by_cases c5 : (bt t120 0) = 227
      · rw [if_pos c5] at H
        have c5b0 : ((bt t120 0) == 227) = true := beq_iff_eq.mpr c5
        have c5b1 : ((bt t120 0) != 227) = false := bne_eq_false_iff_eq.mpr c5
        clear c5
        by_cases c6 : 1 < (t120.size : Int)
        · rw [if_pos c6] at H
          have c6b0 : decide (1 < (t120.size : Int)) = true := decide_eq_true c6
          have c6b1 : decide (1 < t120.size) = true := decide_eq_true (by omega)
          clear c6
          by_cases c8 : (bt t120 1) = 176
          · rw [if_pos c8] at H
            have c8b0 : ((bt t120 1) == 176) = true := beq_iff_eq.mpr c8
            have c8b1 : ((bt t120 1) != 176) = false := bne_eq_false_iff_eq.mpr c8
            clear c8
            by_cases c9 : 2 < (t120.size : Int)
            · rw [if_pos c9] at H
              have c9b0 : decide (2 < (t120.size : Int)) = true := decide_eq_true c9
              have c9b1 : decide (2 < t120.size) = true := decide_eq_true (by omega)
              clear c9
              by_cases c11 : (bt t120 2) = 196
              · rw [if_pos c11] at H
                have c11b0 : ((bt t120 2) == 196) = true := beq_iff_eq.mpr c11
                have c11b1 : ((bt t120 2) != 196) = false := bne_eq_false_iff_eq.mpr c11
                clear c11
                by_cases c12 : 3 < (t120.size : Int)
                · rw [if_pos c12] at H
                  have c12b0 : decide (3 < (t120.size : Int)) = true := decide_eq_true c12
                  have c12b1 : decide (3 < t120.size) = true := decide_eq_true (by omega)
                  clear c12
                  obtain rfl := Option.some.inj H
                  go_enter Tryd.func8, Tryd.ntmps8
                  go_wp2_with (first | ((with_reducible refine gate_callee (f := 9) rfl ?_); refine goesL_ (some 2) rfl rfl Tryd.func9 (by kernel_rfl) rfl #[.string (⟨#[]⟩ : ByteArray)] rfl (by (try simp only [List.map_toArray, List.map_cons, List.map_nil]); first | done | rfl | (simp only [List.length_drop, List.length_take]; rfl)) ?_; (with_reducible refine (hash_Sum.calls (⟨#[]⟩ : ByteArray) t120 _ A1.out (GL.below HGL.out (by repeat (first | (with_reducible first | exact HB.out | apply below_alloc | apply pw_below_drewN | apply below_drew1) | exact HB.out)))).mono ?_); rintro e w14 ⟨rfl, hb⟩; refine ⟨_, rfl, ?_⟩; have n0_ := Aside0.mk (below_step (by repeat (first | (with_reducible first | exact HB.out | apply below_alloc | apply pw_below_drewN | apply below_drew1) | exact HB.out)) hb); clear HB; have HB := n0_; clear n0_; (try clear hb); (try clear hb2); (try clear hk); (try clear hi); have p4 : 0 ≤ (0 : Int) := (by omega); have q4 : 0 < t120.size := (by have : (0 : Int) < (t120.size : Int) := of_decide_eq_true (by first | (with_reducible assumption) | assumption); omega); have hx4 : ∀ h : 0 < t120.size, ((t120[0]'h).toNat : Int) = bt t120 0 := bt_at t120 0; clear p4; have qi4 : (0 < (t120.size : Int)) = True := eq_true (of_decide_eq_true (by first | (with_reducible assumption) | assumption)); replace q4 := eq_true q4; have p7 : 0 ≤ (1 : Int) := (by omega); have q7 : 1 < t120.size := (by have : (1 : Int) < (t120.size : Int) := of_decide_eq_true (by first | (with_reducible assumption) | assumption); omega); have hx7 : ∀ h : 1 < t120.size, ((t120[1]'h).toNat : Int) = bt t120 1 := bt_at t120 1; clear p7; have qi7 : (1 < (t120.size : Int)) = True := eq_true (of_decide_eq_true (by first | (with_reducible assumption) | assumption)); replace q7 := eq_true q7; have p10 : 0 ≤ (2 : Int) := (by omega); have q10 : 2 < t120.size := (by have : (2 : Int) < (t120.size : Int) := of_decide_eq_true (by first | (with_reducible assumption) | assumption); omega); have hx10 : ∀ h : 2 < t120.size, ((t120[2]'h).toNat : Int) = bt t120 2 := bt_at t120 2; clear p10; have qi10 : (2 < (t120.size : Int)) = True := eq_true (of_decide_eq_true (by first | (with_reducible assumption) | assumption)); replace q10 := eq_true q10; have p13 : 0 ≤ (3 : Int) := (by omega); have q13 : 3 < t120.size := (by have : (3 : Int) < (t120.size : Int) := of_decide_eq_true (by first | (with_reducible assumption) | assumption); omega); have hx13 : ∀ h : 3 < t120.size, ((t120[3]'h).toNat : Int) = bt t120 3 := bt_at t120 3; clear p13; have qi13 : (3 < (t120.size : Int)) = True := eq_true (of_decide_eq_true (by first | (with_reducible assumption) | assumption)); replace q13 := eq_true q13))
                  go_ret
                  exact ⟨by first | rfl | (simp [errW_none, errW_some] <;> rfl) | (simp [*, errW_none, errW_some] <;> rfl), by repeat (first | (with_reducible first | exact HB.out | apply below_alloc | apply pw_below_drewN | apply below_drew1) | exact HB.out)⟩
                · rw [if_neg c12] at H
                  exact absurd H (by simp)
              · rw [if_neg c11] at H
                have c11b0 : ((bt t120 2) == 196) = false := beq_eq_false_iff_ne.mpr c11
                have c11b1 : ((bt t120 2) != 196) = true := bne_iff_ne.mpr c11
                obtain rfl := Option.some.inj H
                go_enter Tryd.func8, Tryd.ntmps8
                go_wp2_with (first | ((with_reducible refine gate_callee (f := 9) rfl ?_); refine goesL_ (some 2) rfl rfl Tryd.func9 (by kernel_rfl) rfl #[.string (⟨#[]⟩ : ByteArray)] rfl (by (try simp only [List.map_toArray, List.map_cons, List.map_nil]); first | done | rfl | (simp only [List.length_drop, List.length_take]; rfl)) ?_; (with_reducible refine (hash_Sum.calls (⟨#[]⟩ : ByteArray) t120 _ A1.out (GL.below HGL.out (by repeat (first | (with_reducible first | exact HB.out | apply below_alloc | apply pw_below_drewN | apply below_drew1) | exact HB.out)))).mono ?_); rintro e w15 ⟨rfl, hb⟩; refine ⟨_, rfl, ?_⟩; have n0_ := Aside0.mk (below_step (by repeat (first | (with_reducible first | exact HB.out | apply below_alloc | apply pw_below_drewN | apply below_drew1) | exact HB.out)) hb); clear HB; have HB := n0_; clear n0_; (try clear hb); (try clear hb2); (try clear hk); (try clear hi); have p4 : 0 ≤ (0 : Int) := (by omega); have q4 : 0 < t120.size := (by have : (0 : Int) < (t120.size : Int) := of_decide_eq_true (by first | (with_reducible assumption) | assumption); omega); have hx4 : ∀ h : 0 < t120.size, ((t120[0]'h).toNat : Int) = bt t120 0 := bt_at t120 0; clear p4; have qi4 : (0 < (t120.size : Int)) = True := eq_true (of_decide_eq_true (by first | (with_reducible assumption) | assumption)); replace q4 := eq_true q4; have p7 : 0 ≤ (1 : Int) := (by omega); have q7 : 1 < t120.size := (by have : (1 : Int) < (t120.size : Int) := of_decide_eq_true (by first | (with_reducible assumption) | assumption); omega); have hx7 : ∀ h : 1 < t120.size, ((t120[1]'h).toNat : Int) = bt t120 1 := bt_at t120 1; clear p7; have qi7 : (1 < (t120.size : Int)) = True := eq_true (of_decide_eq_true (by first | (with_reducible assumption) | assumption)); replace q7 := eq_true q7; have p10 : 0 ≤ (2 : Int) := (by omega); have q10 : 2 < t120.size := (by have : (2 : Int) < (t120.size : Int) := of_decide_eq_true (by first | (with_reducible assumption) | assumption); omega); have hx10 : ∀ h : 2 < t120.size, ((t120[2]'h).toNat : Int) = bt t120 2 := bt_at t120 2; clear p10; have qi10 : (2 < (t120.size : Int)) = True := eq_true (of_decide_eq_true (by first | (with_reducible assumption) | assumption)); replace q10 := eq_true q10))
                go_ret
                exact ⟨by first | rfl | (simp [errW_none, errW_some] <;> rfl) | (simp [*, errW_none, errW_some] <;> rfl), by repeat (first | (with_reducible first | exact HB.out | apply below_alloc | apply pw_below_drewN | apply below_drew1) | exact HB.out)⟩
            · rw [if_neg c9] at H
              exact absurd H (by simp)
          · rw [if_neg c8] at H
            have c8b0 : ((bt t120 1) == 176) = false := beq_eq_false_iff_ne.mpr c8
            have c8b1 : ((bt t120 1) != 176) = true := bne_iff_ne.mpr c8
            obtain rfl := Option.some.inj H
            go_enter Tryd.func8, Tryd.ntmps8
            go_wp2_with (first | ((with_reducible refine gate_callee (f := 9) rfl ?_); refine goesL_ (some 2) rfl rfl Tryd.func9 (by kernel_rfl) rfl #[.string (⟨#[]⟩ : ByteArray)] rfl (by (try simp only [List.map_toArray, List.map_cons, List.map_nil]); first | done | rfl | (simp only [List.length_drop, List.length_take]; rfl)) ?_; (with_reducible refine (hash_Sum.calls (⟨#[]⟩ : ByteArray) t120 _ A1.out (GL.below HGL.out (by repeat (first | (with_reducible first | exact HB.out | apply below_alloc | apply pw_below_drewN | apply below_drew1) | exact HB.out)))).mono ?_); rintro e w16 ⟨rfl, hb⟩; refine ⟨_, rfl, ?_⟩; have n0_ := Aside0.mk (below_step (by repeat (first | (with_reducible first | exact HB.out | apply below_alloc | apply pw_below_drewN | apply below_drew1) | exact HB.out)) hb); clear HB; have HB := n0_; clear n0_; (try clear hb); (try clear hb2); (try clear hk); (try clear hi); have p4 : 0 ≤ (0 : Int) := (by omega); have q4 : 0 < t120.size := (by have : (0 : Int) < (t120.size : Int) := of_decide_eq_true (by first | (with_reducible assumption) | assumption); omega); have hx4 : ∀ h : 0 < t120.size, ((t120[0]'h).toNat : Int) = bt t120 0 := bt_at t120 0; clear p4; have qi4 : (0 < (t120.size : Int)) = True := eq_true (of_decide_eq_true (by first | (with_reducible assumption) | assumption)); replace q4 := eq_true q4; have p7 : 0 ≤ (1 : Int) := (by omega); have q7 : 1 < t120.size := (by have : (1 : Int) < (t120.size : Int) := of_decide_eq_true (by first | (with_reducible assumption) | assumption); omega); have hx7 : ∀ h : 1 < t120.size, ((t120[1]'h).toNat : Int) = bt t120 1 := bt_at t120 1; clear p7; have qi7 : (1 < (t120.size : Int)) = True := eq_true (of_decide_eq_true (by first | (with_reducible assumption) | assumption)); replace q7 := eq_true q7))
            go_ret
            exact ⟨by first | rfl | (simp [errW_none, errW_some] <;> rfl) | (simp [*, errW_none, errW_some] <;> rfl), by repeat (first | (with_reducible first | exact HB.out | apply below_alloc | apply pw_below_drewN | apply below_drew1) | exact HB.out)⟩
        · rw [if_neg c6] at H
          exact absurd H (by simp)
      · rw [if_neg c5] at H
        have c5b0 : ((bt t120 0) == 227) = false := beq_eq_false_iff_ne.mpr c5
        have c5b1 : ((bt t120 0) != 227) = true := bne_iff_ne.mpr c5
        obtain rfl := Option.some.inj H
        go_enter Tryd.func8, Tryd.ntmps8
        go_wp2_with (first | ((with_reducible refine gate_callee (f := 9) rfl ?_); refine goesL_ (some 2) rfl rfl Tryd.func9 (by kernel_rfl) rfl #[.string (⟨#[]⟩ : ByteArray)] rfl (by (try simp only [List.map_toArray, List.map_cons, List.map_nil]); first | done | rfl | (simp only [List.length_drop, List.length_take]; rfl)) ?_; (with_reducible refine (hash_Sum.calls (⟨#[]⟩ : ByteArray) t120 _ A1.out (GL.below HGL.out (by repeat (first | (with_reducible first | exact HB.out | apply below_alloc | apply pw_below_drewN | apply below_drew1) | exact HB.out)))).mono ?_); rintro e w17 ⟨rfl, hb⟩; refine ⟨_, rfl, ?_⟩; have n0_ := Aside0.mk (below_step (by repeat (first | (with_reducible first | exact HB.out | apply below_alloc | apply pw_below_drewN | apply below_drew1) | exact HB.out)) hb); clear HB; have HB := n0_; clear n0_; (try clear hb); (try clear hb2); (try clear hk); (try clear hi); have p4 : 0 ≤ (0 : Int) := (by omega); have q4 : 0 < t120.size := (by have : (0 : Int) < (t120.size : Int) := of_decide_eq_true (by first | (with_reducible assumption) | assumption); omega); have hx4 : ∀ h : 0 < t120.size, ((t120[0]'h).toNat : Int) = bt t120 0 := bt_at t120 0; clear p4; have qi4 : (0 < (t120.size : Int)) = True := eq_true (of_decide_eq_true (by first | (with_reducible assumption) | assumption)); replace q4 := eq_true q4))
        go_ret
        exact ⟨by first | rfl | (simp [errW_none, errW_some] <;> rfl) | (simp [*, errW_none, errW_some] <;> rfl), by repeat (first | (with_reducible first | exact HB.out | apply below_alloc | apply pw_below_drewN | apply below_drew1) | exact HB.out)⟩
    · rw [if_neg c3] at H
      exact absurd H (by simp)
  · rw [if_neg c2] at H
    have c2b0 : ((t120.size : Int) == 32) = false := beq_eq_false_iff_ne.mpr c2
    have c2b1 : ((t120.size : Int) != 32) = true := bne_iff_ne.mpr c2
    obtain rfl := Option.some.inj H
    go_enter Tryd.func8, Tryd.ntmps8
    go_wp2_with (first | ((with_reducible refine gate_callee (f := 9) rfl ?_); refine goesL_ (some 2) rfl rfl Tryd.func9 (by kernel_rfl) rfl #[.string (⟨#[]⟩ : ByteArray)] rfl (by (try simp only [List.map_toArray, List.map_cons, List.map_nil]); first | done | rfl | (simp only [List.length_drop, List.length_take]; rfl)) ?_; (with_reducible refine (hash_Sum.calls (⟨#[]⟩ : ByteArray) t120 _ A1.out (GL.below HGL.out (by repeat (first | (with_reducible first | exact HB.out | apply below_alloc | apply pw_below_drewN | apply below_drew1) | exact HB.out)))).mono ?_); rintro e w18 ⟨rfl, hb⟩; refine ⟨_, rfl, ?_⟩; have n0_ := Aside0.mk (below_step (by repeat (first | (with_reducible first | exact HB.out | apply below_alloc | apply pw_below_drewN | apply below_drew1) | exact HB.out)) hb); clear HB; have HB := n0_; clear n0_; (try clear hb); (try clear hb2); (try clear hk); (try clear hi)))
    go_ret
    exact ⟨by first | rfl | (simp [errW_none, errW_some] <;> rfl) | (simp [*, errW_none, errW_some] <;> rfl), by repeat (first | (with_reducible first | exact HB.out | apply below_alloc | apply pw_below_drewN | apply below_drew1) | exact HB.out)⟩

/-! ### exequaturref01_turn: function 23, by hand -/
theorem turn_2 (x : Int) (w : World) : Calls Tryd.prog 23 #[.int .u32 x, .int .u64 2] w fun e w' => e = .returned (.int .u32 (rr x 2)) ∧ w' = w := by
  go_enter Tryd.func23, Tryd.ntmps23
  go_wp2
  go_ret
  exact ⟨rfl, rfl⟩
theorem turn_6 (x : Int) (w : World) : Calls Tryd.prog 23 #[.int .u32 x, .int .u64 6] w fun e w' => e = .returned (.int .u32 (rr x 6)) ∧ w' = w := by
  go_enter Tryd.func23, Tryd.ntmps23
  go_wp2
  go_ret
  exact ⟨rfl, rfl⟩
theorem turn_7 (x : Int) (w : World) : Calls Tryd.prog 23 #[.int .u32 x, .int .u64 7] w fun e w' => e = .returned (.int .u32 (rr x 7)) ∧ w' = w := by
  go_enter Tryd.func23, Tryd.ntmps23
  go_wp2
  go_ret
  exact ⟨rfl, rfl⟩
theorem turn_11 (x : Int) (w : World) : Calls Tryd.prog 23 #[.int .u32 x, .int .u64 11] w fun e w' => e = .returned (.int .u32 (rr x 11)) ∧ w' = w := by
  go_enter Tryd.func23, Tryd.ntmps23
  go_wp2
  go_ret
  exact ⟨rfl, rfl⟩
theorem turn_13 (x : Int) (w : World) : Calls Tryd.prog 23 #[.int .u32 x, .int .u64 13] w fun e w' => e = .returned (.int .u32 (rr x 13)) ∧ w' = w := by
  go_enter Tryd.func23, Tryd.ntmps23
  go_wp2
  go_ret
  exact ⟨rfl, rfl⟩
theorem turn_17 (x : Int) (w : World) : Calls Tryd.prog 23 #[.int .u32 x, .int .u64 17] w fun e w' => e = .returned (.int .u32 (rr x 17)) ∧ w' = w := by
  go_enter Tryd.func23, Tryd.ntmps23
  go_wp2
  go_ret
  exact ⟨rfl, rfl⟩
theorem turn_18 (x : Int) (w : World) : Calls Tryd.prog 23 #[.int .u32 x, .int .u64 18] w fun e w' => e = .returned (.int .u32 (rr x 18)) ∧ w' = w := by
  go_enter Tryd.func23, Tryd.ntmps23
  go_wp2
  go_ret
  exact ⟨rfl, rfl⟩
theorem turn_19 (x : Int) (w : World) : Calls Tryd.prog 23 #[.int .u32 x, .int .u64 19] w fun e w' => e = .returned (.int .u32 (rr x 19)) ∧ w' = w := by
  go_enter Tryd.func23, Tryd.ntmps23
  go_wp2
  go_ret
  exact ⟨rfl, rfl⟩
theorem turn_22 (x : Int) (w : World) : Calls Tryd.prog 23 #[.int .u32 x, .int .u64 22] w fun e w' => e = .returned (.int .u32 (rr x 22)) ∧ w' = w := by
  go_enter Tryd.func23, Tryd.ntmps23
  go_wp2
  go_ret
  exact ⟨rfl, rfl⟩
theorem turn_25 (x : Int) (w : World) : Calls Tryd.prog 23 #[.int .u32 x, .int .u64 25] w fun e w' => e = .returned (.int .u32 (rr x 25)) ∧ w' = w := by
  go_enter Tryd.func23, Tryd.ntmps23
  go_wp2
  go_ret
  exact ⟨rfl, rfl⟩
def exequaturref01_turn.f (a0 a1 : Int) : Option (Int) := none
theorem exequaturref01_turn.calls (a0 : Int) (a1 : Int) (r : Int) (w : World) (h : exequaturref01_turn.f a0 a1 = some r) :
    Calls Tryd.prog 23 #[.int .u32 a0, .int .u64 a1] w fun e w' => e = .returned (.int .u32 r) ∧ Drawn0 w w' := by cases h

end Go.Proofs.YtfoepbjbgohhdaaDoor.Q
