-- Written by a program of this session (wip/xprint.py) over the kit's print.py; Lean checks it.
import Derived.Lib.SlBytesConst
import Derived.Test.YtkmnbnfkpccobaaDoorQ0
import Derived.Test.YtkmnbnfkpccobaaDoorQ1
namespace Go.Proofs.YtkmnbnfkpccobaaDoor.Q
open Go.RowKit Go.Proofs.YtkmnbnfkpccobaaDoorW.PrintWords Go.Proofs.YtkmnbnfkpccobaaDoorW.PrintLast Go.Proofs.YtkmnbnfkpccobaaDoorW.PrintMore
attribute [local go_sem] max2_int min2_int max_two min_two max_three min_three max_four min_four   -- for this text's walks alone
open Go.Proofs.YtkmnbnfkpccobaaDoor.X
set_option linter.unusedVariables false
set_option linter.unusedSimpArgs false

/-! ### hash_Sum: function 19, by hand -/
theorem be_Long_nil (n : Nat) (hn : n < 18446744073709551616) : be_Long.f [] (n : Int) = some ((longL n).map fun c => (c.toNat : Int)) := by
  unfold be_Long.f be_Put.f
  have e (x : Nat) : (((x % 256).toUInt8.toNat : Nat) : Int) = (x : Int) % 256 := by
    rw [UInt8.toNat_ofNat']; omega
  simp only [Option.bind_some, List.length_nil, List.length_cons, List.nil_append, List.cons_append, longL, List.map_cons, List.map_nil, e]
  rw [if_pos (by decide), Option.bind_some, if_pos (by simp), Option.bind_some]
  simp only [Option.some.injEq, List.cons.injEq, and_true, List.cons_append, List.nil_append]
  omega
theorem padded_is (b : ByteArray) (hb : b.size ≤ 1000000000) : hash_padded.f b = some ⟨(padL b.data.toList).toArray⟩ := by
  have hn : ((183 - (b.size : Int)) % 64) = ((padFill b.size : Nat) : Int) := by unfold padFill; omega
  unfold hash_padded.f
  rw [show IntKind.u64.wrap (8 * (b.size : Int)) = ((8 * b.size : Nat) : Int) by simp [IntKind.wrap, IntKind.bits, IntKind.signed]; omega, be_Long_nil _ (by omega), Option.bind_some, if_pos (by omega), hn]
  have hp : padFill b.size < 64 := by unfold padFill; omega
  unfold strings_Repeat.f
  have h0 : ∀ n, Lib.repeatL [0] n = List.replicate n 0 := by
    intro n
    induction n with
    | zero => rfl
    | succ n ih => rw [Lib.repeatL, ih]; rfl
  have h1 (l : List UInt8) : strOfNums (l.map fun c => (c.toNat : Int)) = ⟨l.toArray⟩ := by
    unfold strOfNums; simp [List.map_map, Function.comp_def]
  have h2 : (⟨(Lib.repeatL (⟨#[0]⟩ : ByteArray).data.toList ((padFill b.size : Nat) : Int).toNat).toArray⟩ : ByteArray) = ⟨(List.replicate (padFill b.size) 0).toArray⟩ := by
    rw [Int.toNat_natCast]; exact congrArg (fun l : List UInt8 => (⟨l.toArray⟩ : ByteArray)) (h0 _)
  have h3 : (⟨(List.replicate (padFill b.size) (0 : UInt8)).toArray⟩ : ByteArray).size = padFill b.size := by show (List.replicate (padFill b.size) (0 : UInt8)).toArray.size = _; simp
  have h4 : (⟨(longL (8 * b.size)).toArray⟩ : ByteArray).size = 8 := rfl
  rw [if_pos ⟨by omega, by omega, by rw [Int.toNat_natCast]; show 1 * _ ≤ _; omega⟩, Option.bind_some, h2, h1, h3, h4, if_pos (by omega), if_pos (by omega)]
  congr 1
theorem put_is (l0 : List Int) (v : Int) (h : l0.length + 4 < 140737488355328) : be_Put.f l0 v = some (l0 ++ four v) := by
  unfold be_Put.f
  rw [Option.bind_some, if_pos (by simpa using h)]
  rfl
set_option maxHeartbeats 4000000 in
set_option maxRecDepth 100000 in
theorem hash_Sum.says (b : ByteArray) (hb : b.size ≤ 1000000000) (w : World) (hG : GL w) : Calls Tryd.prog 19 #[.string b] w fun e w' => e = .returned (.string (sumS b.data.toList)) ∧ Below w.heap.size w w' := by
  go_enter Tryd.func19, Tryd.ntmps19
  go_upto_region 1 with fail
  obtain ⟨_, _, hGb, -⟩ := id hG
  go_upto_region 2 with (first | refine arr_load hGb 46 (.global 0) rfl rfl rfl rfl rfl ?_ | refine arr_store (arr_new w 46 (List.replicate 8 0) rfl) beginL rfl 46 (.tmp 3) (.tmp 8) rfl rfl rfl rfl rfl ?_)
  refine wp_world ?_
  intro w1 hw1
  have hh1 : ArrK .u32 w1 w.heap.size 46 beginL := by rw [hw1]; exact arr_setRow (arr_new w 46 (List.replicate 8 0) rfl) _
  have hbel1 : Below w.heap.size w w1 := by rw [hw1]; exact below_setRow ((Below.refl _ _).alloc (Nat.le_refl _) _) (Nat.le_refl _) _
  have hs1 : w.heap.size + 1 ≤ w1.heap.size := by rw [hw1]; simp
  clear hw1 hGb
  go_wp2_with fail
  refine (hash_padded.calls b _ w1 (padded_is b hb)).mono ?_
  rintro e w2 ⟨rfl, hb2⟩
  have hbel2 := below_then hbel1 (by omega) hb2
  have hh2 := arr_below hh1 hb2
  have hs2 : w.heap.size + 1 ≤ w2.heap.size := Nat.le_trans hs1 hb2.size
  clear hbel1 hh1 hb2
  have lP := padL_mod b.data.toList
  obtain ⟨P, hP⟩ : ∃ P, P = padL b.data.toList := ⟨_, rfl⟩
  rw [← hP] at lP ⊢
  have HP := Lib.hid hP
  clear hP
  go_upto_region 3 with fail
  go_loopw [4] (fun v4 wr => ∃ (k : Nat) (q : ByteArray), 64 * k ≤ P.length ∧ v4 = .string q ∧ q.data.toList = P.drop (64 * k) ∧ ArrK .u32 wr w.heap.size 46 (statesTo P k) ∧ Below w.heap.size w wr ∧ w.heap.size + 1 ≤ wr.heap.size ∧ GL wr) (fun v4 _ => match v4 with | .string q => q.size | _ => 0)
  case atStart => exact ⟨0, _, by omega, rfl, rfl, hh2, hbel2, hs2, hG.below hbel2⟩
  case round =>
    clear hh2 hbel2 hs2
    obtain ⟨k, q, hk, rfl, hq, hh, hbel, hs, hGw⟩ := hrel
    have lq : q.size = P.length - 64 * k := by
      have := congrArg List.length hq
      rw [List.length_drop, Array.length_toList] at this
      exact this
    have hE : q.toList.isEmpty = decide (q.size = 0) := by
      rw [ByteArray.toList_eq]; show q.data.toList.isEmpty = decide (q.data.size = 0); rw [← Array.length_toList]; cases q.data.toList <;> rfl
    by_cases hlt : q.size = 0
    · have hE' : q.toList.isEmpty = true := by rw [hE]; simp [hlt]
      obtain rfl : k = P.length / 64 := by omega
      clear hE lq hq hlt
      have lh := statesTo_length P (P.length / 64)
      obtain ⟨H, hH⟩ : ∃ H, H = statesTo P (P.length / 64) := ⟨_, rfl⟩
      rw [← hH] at hh lh
      have HH := Lib.hid hH
      clear hH
      go_upto_region 8 with (refine arr_load hh 46 (.tmp 3) rfl rfl rfl rfl (by rw [lh]; rfl) ?_)
      go_loopw [5, 20] (fun v5 v20 wr => ∃ j : Nat, j ≤ 8 ∧ v20 = .int .i64 j ∧ Kd.R (Kd.int .u8) 5 wr w.heap.size (fun _ => True) v5 (fourTo H j) ∧ Below w.heap.size w wr) (fun _ v20 _ => 8 - (intOf v20).toNat)
      case atStart => exact ⟨0, by omega, rfl, Kd.R_nil _ _ _ _ _, hbel⟩
      case round =>
        clear hh hbel hs hGw
        obtain ⟨j, hj, rfl, hr, hbel⟩ := hrel
        by_cases hlt : j < 8
        · have hdec : decide ((j : Int) < 8) = true := by simp; omega
          have hidx : ∀ W, Sem.run Tryd.prog (Instr.index 46 (.agg (nums .u32 H).toArray) (.int .i64 (j : Int))) W = .ok (.int .u32 (rd H (j : Int))) W := fun W => run_index_num (n := 8) rfl rfl rfl rfl rfl lh j hlt W
          go_wp2_with fail
          refine (be_Put.calls (fun _ => True) u5 _ _ _ w wr hbel hr (put_is (fourTo H j) (rd H j) (by rw [fourTo_length]; omega))).mono ?_
          rintro e w4 ⟨v1, rfl, hr1, hb1, -⟩
          have hr2 := Kd.R_mono (ok' := fun _ => True) hr1 (fun _ _ => trivial)
          rw [← fourTo_succ] at hr2
          clear hr hr1 hbel
          go_wp2_with fail
          exact ⟨⟨j + 1, by omega, by go_num, hr2, hb1⟩, by simp [intOf]; omega⟩
        · obtain rfl : j = 8 := by omega
          have hcv := own_string (P := Tryd.prog) Tryd.underlying23 Tryd.underlying5 Tryd.underlying9 (Kd.own_of_R hr)
          go_wp2_with fail
          go_ret
          exact ⟨by rw [sumS, ← (show P = padL b.data.toList from HP), ← (show H = statesTo P (P.length / 64) from HH)]; rfl, hbel⟩
    · have hE' : q.toList.isEmpty = false := by rw [hE]; simp [hlt]
      clear hE
      have l1 : 64 ≤ q.size := by omega
      have b64 : ((64 : Int) ≤ (q.size : Int)) = True := by simp; omega
      have Lq := Lib.hid lq
      clear lq
      have lh := statesTo_length P k
      go_upto_region 5 with fail
      refine wp_region_still_tail 3 (by kernel_rfl) (by kernel_rfl) ?_
      simp only [List.take_succ_cons, List.take_zero, List.drop_succ_cons, List.drop_zero]
      change wpStill _ _ wr.drew _ _ _
      have hbel1 : Below w.heap.size w wr.drew := below_drew hbel
      have hh1 : ArrK .u32 wr.drew w.heap.size 46 (statesTo P k) := hh
      have hs1 : w.heap.size + 1 ≤ wr.drew.heap.size := hs
      have hG1 : GL wr.drew := hGw
      clear hbel hh hs hGw
      refine arr_still_load hh1 46 (.tmp 3) rfl rfl rfl rfl (by rw [lh]; rfl) ?_
      repeat still_step
      refine wpStill_nil ?_
      change wpList _ _ _ _ _ wr.drew
      generalize wr.drew = w3 at hbel1 hh1 hs1 hG1 ⊢
      go_wp2_with fail
      have le : (q.extract 0 64).size = 64 := by simp; omega
      refine (hash_mix.says (statesTo P k) lh (q.extract 0 64) le w3 hG1).mono ?_
      rintro e w4 ⟨rfl, hb4⟩
      have hbel4 := below_then hbel1 (by omega) hb4
      have hh4 := arr_below hh1 hb4
      have hs4 : w.heap.size + 1 ≤ w4.heap.size := Nat.le_trans hs1 hb4.size
      have hG4 := hG1.below hb4
      clear hbel1 hh1 hs1 hG1 hb4
      have lm := mixed_length (statesTo P k) (q.extract 0 64).data.toList
      rw [lh] at lm
      obtain ⟨M, hM⟩ : ∃ M, M = mixed (statesTo P k) (q.extract 0 64).data.toList := ⟨_, rfl⟩
      rw [← hM] at lm ⊢
      have HM := Lib.hid hM
      clear hM
      go_upto_region 4 with (refine arr_store hh4 M (by rw [lm, lh]) 46 (.tmp 3) (.tmp 18) rfl rfl rfl rfl (by rw [lm]; rfl) ?_)
      refine wp_world ?_
      intro w5 hw5
      have hq2 : (q.extract 0 64).data.toList = blockOf P k := by
        rw [ByteArray.data_extract, Array.toList_extract, List.extract_eq_take_drop, hq]; rfl
      have hq3 : (q.extract 64 q.size).data.toList = P.drop (64 * (k + 1)) := by
        rw [ByteArray.data_extract, Array.toList_extract, List.extract_eq_take_drop, hq, List.take_of_length_le (by rw [List.length_drop, List.length_drop]; have := (show q.size = P.length - 64 * k from Lq); omega), List.drop_drop]
        congr 1
      have hM2 : M = mixed (statesTo P k) (blockOf P k) := by rw [show M = mixed (statesTo P k) (q.extract 0 64).data.toList from HM, hq2]
      rw [hM2] at hw5
      have hh5 : ArrK .u32 w5 w.heap.size 46 (statesTo P (k + 1)) := by rw [hw5, statesTo_succ]; exact arr_setRow hh4 _
      have hbel5 : Below w.heap.size w w5 := by rw [hw5]; exact below_setRow hbel4 (Nat.le_refl _) _
      have hs5 : w.heap.size + 1 ≤ w5.heap.size := by rw [hw5, size_setRow]; exact hs4
      have hG5 : GL w5 := hG.below hbel5
      clear hw5 hh4 hbel4 hs4 hG4 lm hq2
      go_wp2_with fail
      have Lq2 : q.size = P.length - 64 * k := Lq
      exact ⟨⟨k + 1, _, by omega, rfl, hq3, hh5, hbel5, hs5, hG5⟩, by show (q.extract 64 q.size).size < q.size; simp; omega⟩
def hash_Sum.f (a0 : ByteArray) : Option (ByteArray) := if a0.size ≤ 1000000000 then some (sumS a0.data.toList) else none
theorem hash_Sum.calls (a0 : ByteArray) (r : ByteArray) (w : World) (h : hash_Sum.f a0 = some r) (hGL : GL w) :
    Calls Tryd.prog 19 #[.string a0] w fun e w' => e = .returned (.string r) ∧ Below w.heap.size w w' := by
  unfold hash_Sum.f at h
  split at h
  case isTrue hs =>
    obtain rfl := Option.some.inj h
    exact hash_Sum.says a0 hs w hGL
  case isFalse hs => exact absurd h (by simp)

/-! ### frame_mark: function 14, by hand -/
theorem take_four (l : List Int) (h : 4 ≤ l.length) : l.take 4 = [rd l 0, rd l 1, rd l 2, rd l 3] := by
  match l, h with
  | a :: b :: c :: d :: r, _ => rfl
set_option maxHeartbeats 4000000 in
set_option maxRecDepth 100000 in
theorem frame_mark.says (As Ab : Option Addr) (cs cb : Nat) (ls lb : List Int) (w : World) (hs : Kd.C (Kd.int .u8) w As ls.length ls) (hb : Kd.C (Kd.int .u8) w Ab lb.length lb) (hl : ls.length + lb.length ≤ 1000000000) (hG : GL w) :
    Calls Tryd.prog 14 #[.slice As ls.length cs, .slice Ab lb.length cb] w fun e w' => e = .returned (.agg (nums .u8 (markL (strOfNums ls ++ strOfNums lb))).toArray) ∧ Below w.heap.size w w' := by
  have s1 : (strOfNums ls ++ strOfNums lb).size ≤ 1000000000 := by rw [ByteArray.size_append, strOfNums_size, strOfNums_size]; exact hl
  have g1 : (9223372036854775807 < (strOfNums ls).size + (strOfNums lb).size) = False := eq_false (by rw [strOfNums_size, strOfNums_size]; omega)
  go_enter Tryd.func14, Tryd.ntmps14
  go_upto_region 1 with fail
  refine wp_world ?_
  intro w1 hw1
  have hA1 : ArrK .u8 w1 w.heap.size 37 (List.replicate 4 0) := by rw [hw1]; exact arr_new w 37 (List.replicate 4 0) rfl
  have hb1 : Below w.heap.size w w1 := by rw [hw1]; exact (Below.refl _ _).alloc (Nat.le_refl _) _
  have hz1 : w.heap.size + 1 ≤ w1.heap.size := by rw [hw1]; simp
  clear hw1
  have hcv1 := Kd.C_string (P := Tryd.prog) (A := As) (c := cs) Tryd.underlying23 Tryd.underlying5 Tryd.underlying9 (Kd.C_below hs hb1)
  have hcv2 := Kd.C_string (P := Tryd.prog) (A := Ab) (c := cb) Tryd.underlying23 Tryd.underlying5 Tryd.underlying9 (Kd.C_below hb hb1)
  go_wp2_with fail
  refine (hash_Sum.says _ s1 w1 (hG.below hb1)).mono ?_
  rintro e w2 ⟨rfl, hb2⟩
  have hA2 := arr_below hA1 hb2
  have hb2t := below_then hb1 hb1.size hb2
  have hz2 : w.heap.size + 1 ≤ w2.heap.size := Nat.le_trans hz1 hb2.size
  clear hcv1 hcv2 hA1 hb1 hb2
  obtain ⟨S, hS⟩ : ∃ S, S = sumS (strOfNums ls ++ strOfNums lb).data.toList := ⟨_, rfl⟩
  have hSs : S.size = 32 := by rw [hS]; exact sumS_size _
  rw [← hS]
  have HS := Lib.hid hS
  clear hS
  have kb := fun (s : ByteArray) W => print_bytes (P := Tryd.prog) 9 23 5 Tryd.underlying9 Tryd.underlying23 Tryd.underlying5 s W
  have hO := OwnM.of_bytes w2 5 w2.heap.size (Nat.le_refl _) S (by rw [hSs]; decide)
  obtain ⟨g, cap, hv, -, hcl⟩ := hO.cell
  simp only [Value.slice.injEq, Option.some.injEq, Addr.mk.injEq, and_true, true_and] at hv
  obtain ⟨rfl, -⟩ := hv
  have hbl : (bytesOf S).length = 32 := by rw [bytesOf_length, hSs]
  have c0 := hcl 0 (by omega)
  have c1 := hcl 1 (by omega)
  have c2 := hcl 2 (by omega)
  have c3 := hcl 3 (by omega)
  have hb3 : Below w2.heap.size w2 (Lib.bytesWorld w2 5 S) := bytes_below (Below.refl _ _) (Nat.le_refl _) _ _
  have hA3 := arr_below hA2 hb3
  have hb3t := below_then hb2t hb2t.size hb3
  have hm : markL (strOfNums ls ++ strOfNums lb) = [rd (bytesOf S) 0, rd (bytesOf S) 1, rd (bytesOf S) 2, rd (bytesOf S) 3] := by
    unfold markL
    rw [← (show S = sumS (strOfNums ls ++ strOfNums lb).data.toList from HS)]
    exact take_four _ (by omega)
  clear hcl hO hA2 hb2t hbl hb3
  have harr : ∀ c W, Sem.run Tryd.prog (Instr.arrayAt 37 (.slice (some ⟨w2.heap.size, 0, none⟩) 32 c)) W = .ok (.pointer (some ⟨w2.heap.size, 0, none⟩)) W := fun c W => run_arrayAt (P := Tryd.prog) W 37 _ _ _ _ _ Tryd.underlying37 (by decide)
  go_wp2_with (refine arr_store hA3 [rd (bytesOf S) 0, rd (bytesOf S) 1, rd (bytesOf S) 2, rd (bytesOf S) 3] rfl 37 (.tmp 4) (.tmp 13) rfl rfl rfl rfl rfl ?_)
  have hA4 := arr_setRow hA3 [rd (bytesOf S) 0, rd (bytesOf S) 1, rd (bytesOf S) 2, rd (bytesOf S) 3]
  have hb4 := below_setRow hb3t (Nat.le_refl _) (nums .u8 [rd (bytesOf S) 0, rd (bytesOf S) 1, rd (bytesOf S) 2, rd (bytesOf S) 3]).toArray
  exact bodyPost_ret (arr_result hA4 rfl _ rfl rfl rfl) rfl ⟨by rw [hm], hb4⟩
def frame_mark.f (l0 l1 : List Int) : Option (List Int) := none
theorem frame_mark.calls (a : Nat) (h : frame_mark.f [] [] = some []) : True := trivial

/-! ### frame_Frame: function 8, by hand -/
/-- Bytes in a frame. -/
def frameL (l : List Int) : List Int := four (l.length : Int) ++ markL (strOfNums (four (l.length : Int)) ++ strOfNums l) ++ l
theorem markL_length (s : ByteArray) : (markL s).length = 4 := by
  unfold markL
  rw [List.length_take, bytesOf_length, sumS_size]; rfl
theorem arr_C {w : World} {g T : Nat} {xs : List Int} (h : ArrK .u8 w g T xs) (hl : xs.length ≤ 9223372036854775807) (n : Nat) (hn : xs.length = n) : Kd.C (Kd.int .u8) w (some ⟨g, 0, none⟩) n xs := by
  subst hn
  refine ⟨rfl, hl, fun _ => ⟨⟨g, 0, none⟩, rfl, fun j p hj => ⟨[.int .u8 p], rfl, rfl, fun i u hu => ?_⟩⟩⟩
  have hlt : j < xs.length := (List.getElem?_eq_some_iff.1 hj).1
  match i, hu with
  | 0, hu =>
    simp only [List.getElem?_cons_zero, Option.some.injEq] at hu
    subst hu
    have hc := arr_cell h j hlt
    have e : rd xs (j : Int) = p := by simp [rd, List.getD_eq_getElem?_getD, hj]
    rw [e] at hc
    have ha : (⟨g, 0, none⟩ : Addr).add (j * (Kd.int .u8).sz + 0) = ⟨g, j, none⟩ := by
      show (⟨g, 0, none⟩ : Addr).add (j * 1 + 0) = _
      unfold Addr.add
      simp
      intro h; omega
    rw [ha]
    exact hc
set_option maxHeartbeats 4000000 in
set_option maxRecDepth 100000 in
theorem frame_Frame.says (A0 : Option Addr) (c0 : Nat) (l0 : List Int) (w : World) (hr0 : Kd.C (Kd.int .u8) w A0 l0.length l0) (hc0 : l0.length ≤ c0) (hl : l0.length ≤ 100000000) (hGL : GL w) :
    Calls Tryd.prog 8 #[.slice A0 l0.length c0] w fun e w' => ∃ v0_ : Value, e = .returned (v0_) ∧ Kd.R (Kd.int .u8) 5 w' w.heap.size (fun _ => True) v0_ (frameL l0) ∧ Below w.heap.size w w' := by
  go_enter Tryd.func8, Tryd.ntmps8
  go_wp2_with fail
  have eu : IntKind.u32.wrap (l0.length : Int) = (l0.length : Int) := by rw [IntKind.wrap_u32]; omega
  have hp := put_is [] (l0.length : Int) (by rw [List.length_nil]; omega)
  refine (be_Put.calls (fun _ => True) (.slice none 0 0) [] (l0.length : Int) ([] ++ four (l0.length : Int)) w w (Below.refl _ _) (Kd.R_nil _ _ _ _ _) hp).mono ?_
  rintro e w1 ⟨v1, rfl, hr1, hb1, -⟩
  have hr1' := Kd.R_mono (ok' := fun _ => True) hr1 (fun _ _ => trivial)
  rw [List.nil_append] at hr1'
  clear hr1
  obtain ⟨z, hz⟩ : ∃ z, z = four (l0.length : Int) := ⟨_, rfl⟩
  have hzl : z.length = 4 := by rw [hz]; rfl
  rw [← hz] at hr1'
  obtain ⟨A1, c1, e1⟩ := Kd.R_slice hr1'
  subst e1
  have hrd := Kd.R_reads' hr1'
  have Hz := Lib.hid hz
  have Hzl := Lib.hid hzl
  clear hz hzl
  go_wp2_with fail
  have hzl : z.length = 4 := Hzl
  refine (frame_mark.says A1 A0 c1 c0 z l0 w1 hrd.2.2 (Kd.C_below hr0 hb1) (by omega) (hGL.below hb1)).mono ?_
  rintro e w2 ⟨rfl, hb2⟩
  have hr2 := Kd.R_below hr1' hb2
  have hb2t := below_then hb1 hb1.size hb2
  obtain ⟨m, hm⟩ : ∃ m, m = markL (strOfNums z ++ strOfNums l0) := ⟨_, rfl⟩
  have hml : m.length = 4 := by rw [hm]; exact markL_length _
  rw [← hm]
  have Hm := Lib.hid hm
  clear hm hrd hr1' hb2 hzl
  go_upto_region 3 with (refine arr_store (arr_new w2 37 (List.replicate 4 0) rfl) m (by rw [hml]; rfl) 37 (.tmp 4) (.tmp 11) rfl rfl rfl rfl (by rw [hml]; rfl) ?_)
  refine wp_world ?_
  intro w3 hw3
  have hM3 : ArrK .u8 w3 w2.heap.size 37 m := by rw [hw3]; exact arr_setRow (arr_new w2 37 (List.replicate 4 0) rfl) _
  have hb3 : Below w2.heap.size w2 w3 := by rw [hw3]; exact below_setRow ((Below.refl _ _).alloc (Nat.le_refl _) _) (Nat.le_refl _) _
  clear hw3
  have hr3 := Kd.R_below hr2 hb3
  have hb3t := below_then hb2t hb2t.size hb3
  have hC3 := Kd.C_below hr0 hb3t
  clear hr2 hb2t hC3
  have Hml := Lib.hid hml
  clear hml
  have hml : m.length = 4 := Hml
  have hRm := arr_C hM3 (by omega) 4 hml
  have hzl : z.length = 4 := Hzl
  have LA := Lib.hid (show (z.length + 4) * 1 ≤ 140737488355328 by omega)
  have LB := Lib.hid (show ((z ++ m).length + l0.length) * 1 ≤ 140737488355328 by rw [List.length_append]; omega)
  clear hml hzl
  have hsz3 : w.heap.size ≤ w3.heap.size := hb3t.size
  go_wp2_with (first
    | ((with_reducible refine gate_builtin (b := .append) (xs := #[.tmp 12, .tmp 13]) rfl ?_); at_builtin; refine Kd.R_append_rows (Kd.int .u8) (w0 := w) w.heap.size rfl (.tmp 12) (.tmp 13) 23 5 (.int .u8 0) 1 rfl Tryd.underlying23 rfl rfl (by decide) (by omega) (.slice A1 z.length c1) z m _ _ _ (fun _ => True) (fun _ => False) rfl rfl hr3 hRm (fun _ _ h => h) (fun _ h => h.elim) (fun _ _ => trivial) hb3t hsz3 LA ?_; intro v4 w4 ho4 hb4 hg4 hat4; clear hg4 hat4 hr3 hRm hM3; have hC4 := Kd.C_below hr0 hb4; have hsz4 : w.heap.size ≤ w4.heap.size := hb4.size)
    | ((with_reducible refine gate_builtin (b := .append) (xs := #[.tmp 14, .tmp 15]) rfl ?_); at_builtin; refine Kd.R_append_rows (Kd.int .u8) (w0 := w) w.heap.size rfl (.tmp 14) (.tmp 15) 23 5 (.int .u8 0) 1 rfl Tryd.underlying23 rfl rfl (by decide) (by omega) v4 (z ++ m) l0 _ _ _ (fun _ => True) (fun _ => False) rfl rfl ho4 hC4 (fun _ _ h => h) (fun _ h => h.elim) (fun _ _ => trivial) hb4 hsz4 LB ?_; intro v5 w5 ho5 hb5 hg5 hat5; clear hg5 hat5))
  go_ret
  exact ⟨_, rfl, by rw [show frameL l0 = z ++ m ++ l0 by rw [frameL, ← (show z = four (l0.length : Int) from Hz), ← (show m = markL (strOfNums z ++ strOfNums l0) from Hm)]]; exact ho5, hb5⟩
def frame_Frame.f (l0 : List Int) : Option (List Int) := if l0.length ≤ 100000000 then some (frameL l0) else none
theorem frame_Frame.calls (A0 : Option Addr) (c0 : Nat) (l0 : List Int) (r : List Int) (w : World) (hr0 : Kd.C (Kd.int .u8) w A0 l0.length l0) (hc0 : l0.length ≤ c0) (h : frame_Frame.f l0 = some r) (hGL : GL w) :
    Calls Tryd.prog 8 #[.slice A0 l0.length c0] w fun e w' => ∃ v0_ : Value, e = .returned (v0_) ∧ Kd.R (Kd.int .u8) 5 w' w.heap.size (fun _ => True) v0_ r ∧ Below w.heap.size w w' := by
  unfold frame_Frame.f at h
  split at h
  case isTrue hs =>
    obtain rfl := Option.some.inj h
    exact frame_Frame.says A0 c0 l0 w hr0 hc0 hs hGL
  case isFalse hs => exact absurd h (by simp)

/-! ### frame_one: function 17, by hand -/
theorem getL_range (l : List Int) : 0 ≤ getL l ∧ getL l < 4294967296 := by
  have h : ∀ (l : List Int) (v : Int), 0 ≤ v ∧ v < 4294967296 → 0 ≤ l.foldl (fun v c => Go.bits .or .u32 (v * 256 % 4294967296) (c % 4294967296)) v ∧ l.foldl (fun v c => Go.bits .or .u32 (v * 256 % 4294967296) (c % 4294967296)) v < 4294967296 := by
    intro l
    induction l with
    | nil => intro v hv; exact hv
    | cons a t ih =>
      intro v _
      rw [List.foldl_cons]
      refine ih _ ?_
      unfold Go.bits
      simp only [IntKind.wrap_u32]
      omega
  exact h l 0 (by omega)
/-- What the first frame has in it; false: there is none. -/
def oneL (l : List Int) : List Int × Bool :=
  if l.length < 8 then ([], false)
  else if getL (l.take 4) > 32768 ∨ getL (l.take 4) > (l.length : Int) - 8 then ([], false)
  else ((l.drop 8).take (getL (l.take 4)).toNat, decide (markL (strOfNums (l.take 4) ++ strOfNums ((l.drop 8).take (getL (l.take 4)).toNat)) = (l.drop 4).take 4))
/-- A cut of a row of bytes that is read. -/
theorem cut_row {w : World} {A : Option Addr} {l : List Int} {c : Nat} (h : Kd.C (Kd.int .u8) w A l.length l) (hc : l.length ≤ c) (lo hi : Nat) (h1 : lo ≤ hi) (h2 : hi ≤ l.length) :
    ∃ Ai ci, (∀ W, Sem.run Tryd.prog (Instr.slice 23 (.slice A l.length c) (some (.int .i64 (lo : Int))) (some (.int .i64 (hi : Int))) none) W = .ok (.slice Ai (hi - lo) ci) W) ∧ Kd.C (Kd.int .u8) w Ai (hi - lo) ((l.take hi).drop lo) ∧ hi - lo ≤ ci := by
  obtain ⟨i05, hi05, _, hsz5, _⟩ := info_parts (show (Tryd.prog.info? 5).map (fun i => (i.zero, i.size, i.bytes)) = some (some (.int .u8 0), 1, 1) by kernel_rfl)
  have hcut := cut_mid (P := Tryd.prog) 23 5 .i64 .i64 Tryd.underlying23 hi05 1 hsz5 A l.length c (lo : Int) (hi : Int) (by omega) (by omega) (by omega) hc
  simp only [Int.toNat_natCast] at hcut
  have ht : (l.take hi).length = hi := by rw [List.length_take]; omega
  have hd : ((l.take hi).drop lo).length = hi - lo := by rw [List.length_drop, ht]
  have hC := Kd.C_drop (Kd.C_take h h2) (m := lo) (c := c) (by rw [ht]; exact h1) (by rw [ht]; omega)
  rw [hd] at hC
  exact ⟨_, _, hcut, hC, by omega⟩
/-- The four bytes behind the first four. -/
theorem cut_48 {w : World} {A : Option Addr} {l : List Int} {c : Nat} (h : Kd.C (Kd.int .u8) w A l.length l) (hc : l.length ≤ c) (h8 : 8 ≤ l.length) :
    ∃ g o cj, (∀ W, Sem.run Tryd.prog (Instr.slice 23 (.slice A l.length c) (some (.int .i64 4)) (some (.int .i64 8)) none) W = .ok (.slice (some ⟨g, o, none⟩) 4 cj) W) ∧ (∀ j < 4, w.cell? ⟨g, o + j, none⟩ = some (.int .u8 (rd l ((4 + j : Nat) : Int)))) := by
  obtain ⟨i05, hi05, _, hsz5, _⟩ := info_parts (show (Tryd.prog.info? 5).map (fun i => (i.zero, i.size, i.bytes)) = some (some (.int .u8 0), 1, 1) by kernel_rfl)
  have hcut := cut_mid (P := Tryd.prog) 23 5 .i64 .i64 Tryd.underlying23 hi05 1 hsz5 A l.length c 4 8 (by omega) (by omega) (by omega) hc
  have hcl0 := h.2.2 (by omega)
  obtain ⟨ad, rfl, hcl⟩ := hcl0
  refine ⟨ad.block, ad.off + 4, c - 4, ?_, ?_⟩
  · intro W
    have := hcut W
    rw [if_neg (by omega)] at this
    simpa [Addr.add] using this
  · intro j hj
    obtain ⟨cs, _, hK, hcs⟩ := hcl (4 + j) _ (List.getElem?_eq_getElem (by omega))
    have hK2 : cs = [.int .u8 (l[4 + j]'(by omega))] := hK
    rw [hK2] at hcs
    have h2 := hcs 0 _ rfl
    have ha : ad.add ((4 + j) * (Kd.int .u8).sz + 0) = ⟨ad.block, ad.off + 4 + j, none⟩ := by
      show ad.add ((4 + j) * 1 + 0) = _
      unfold Addr.add
      rw [if_neg (by omega)]
      simp <;> omega
    rw [ha] at h2
    have e : rd l ((4 + j : Nat) : Int) = l[4 + j]'(by omega) := by
      unfold rd
      rw [Int.toNat_natCast, List.getD_eq_getElem?_getD, List.getElem?_eq_getElem (by omega)]
      rfl
    rw [h2, e]
theorem cell_below {w w' : World} {a : Addr} {v : Value} (h : w.cell? a = some v) (hb : Below w.heap.size w w') : w'.cell? a = some v := by
  have h2 := hb.block a.block (World.block_lt_of_cell? w a h)
  unfold World.cell? at h ⊢
  rw [h2]
  exact h
theorem mark_at (As Ab : Option Addr) (cs cb ms mb : Nat) (ls lb : List Int) (w : World) (e1 : ls.length = ms) (e2 : lb.length = mb) (hs : Kd.C (Kd.int .u8) w As ls.length ls) (hb : Kd.C (Kd.int .u8) w Ab lb.length lb) (hl : ls.length + lb.length ≤ 1000000000) (hG : GL w) :
    Calls Tryd.prog 14 #[.slice As ms cs, .slice Ab mb cb] w fun e w' => e = .returned (.agg (nums .u8 (markL (strOfNums ls ++ strOfNums lb))).toArray) ∧ Below w.heap.size w w' := by
  subst e1; subst e2
  exact frame_mark.says As Ab cs cb ls lb w hs hb hl hG
theorem nil_C (w : World) : Kd.C (Kd.int .u8) w none ([] : List Int).length [] := ⟨rfl, by simp, fun h => absurd h (by simp)⟩
set_option maxHeartbeats 4000000 in
set_option maxRecDepth 100000 in
theorem frame_one.says (A0 : Option Addr) (c0 : Nat) (l0 : List Int) (w : World) (hr0 : Kd.C (Kd.int .u8) w A0 l0.length l0) (hc0 : l0.length ≤ c0) (hl : l0.length ≤ 100000000) (hGL : GL w) :
    Calls Tryd.prog 17 #[.slice A0 l0.length c0] w fun e w' => ∃ Ai ci, e = .returned (.tuple #[.slice Ai (oneL l0).1.length ci, .bool (oneL l0).2]) ∧ Kd.C (Kd.int .u8) w' Ai (oneL l0).1.length (oneL l0).1 ∧ (oneL l0).1.length ≤ ci ∧ Below w.heap.size w w' := by
  go_enter Tryd.func17, Tryd.ntmps17
  by_cases h8 : l0.length < 8
  · have hdec : decide ((l0.length : Int) < 8) = true := by simp; omega
    have ho : oneL l0 = ([], false) := if_pos h8
    go_wp2_with fail
    go_ret2
    rw [ho]
    refine ⟨none, 0, by rfl, ?_, by simp, Below.refl _ _⟩
    exact nil_C w
  · have hdec : decide ((l0.length : Int) < 8) = false := by simp; omega
    go_wp2_with fail
    refine (be_Get.says A0 _ c0 l0 w rfl hr0 hc0).mono ?_
    rintro e w1 ⟨rfl, rfl⟩
    obtain ⟨n, hn⟩ : ∃ n : Nat, getL (l0.take 4) = (n : Int) := ⟨(getL (l0.take 4)).toNat, by have := (getL_range (l0.take 4)).1; omega⟩
    rw [hn]
    by_cases hbig : 32768 < n
    · have hdec2 : decide ((32768 : Int) < (n : Int)) = true := by simp; omega
      have ho : oneL l0 = ([], false) := by rw [oneL, if_neg h8, if_pos (.inl (by omega))]
      go_wp2_with fail
      go_ret2
      rw [ho]
      exact ⟨none, 0, by rfl, nil_C w1, by simp, Below.refl _ _⟩
    · have hdec2 : decide ((32768 : Int) < (n : Int)) = false := by simp; omega
      by_cases hlong : l0.length < n + 8
      · have hdec3 : decide ((l0.length : Int) - 8 < (n : Int)) = true := by simp; omega
        have ho : oneL l0 = ([], false) := by rw [oneL, if_neg h8, if_pos (.inr (by omega))]
        go_wp2_with fail
        go_ret2
        rw [ho]
        exact ⟨none, 0, by rfl, nil_C w1, by simp, Below.refl _ _⟩
      · have hdec3 : decide ((l0.length : Int) - 8 < (n : Int)) = false := by simp; omega
        obtain ⟨Ai, ci, hcut, hCi, hci⟩ := cut_row hr0 hc0 8 (8 + n) (by omega) (by omega)
        rw [show 8 + n - 8 = n by omega] at hCi hci hcut
        rw [show ((8 + n : Nat) : Int) = 8 + (n : Int) by omega] at hcut
        rw [show ((8 : Nat) : Int) = 8 from rfl] at hcut
        obtain ⟨inn, hinn⟩ : ∃ inn, inn = (l0.take (8 + n)).drop 8 := ⟨_, rfl⟩
        rw [← hinn] at hCi
        have hinl : inn.length = n := by rw [hinn, List.length_drop, List.length_take]; omega
        have hinn2 : (l0.drop 8).take n = inn := by rw [hinn, List.drop_take, show 8 + n - 8 = n by omega]
        obtain ⟨g, o, cj, hcut2, hcl⟩ := cut_48 hr0 hc0 (by omega)
        have hcut3 := cut_to (P := Tryd.prog) 23 5 .i64 Tryd.underlying23 (info_parts (show (Tryd.prog.info? 5).map (fun i => (i.zero, i.size, i.bytes)) = some (some (.int .u8 0), 1, 1) by kernel_rfl)).choose_spec.1 A0 l0.length c0 4 (by omega) (by omega) hc0
        have hC4 := Kd.C_take hr0 (m := 4) (by omega)
        obtain ⟨M, hM⟩ : ∃ M, M = markL (strOfNums (l0.take 4) ++ strOfNums inn) := ⟨_, rfl⟩
        have hMl : M.length = 4 := by rw [hM]; exact markL_length _
        have ht4 : (l0.take 4).length = 4 := by rw [List.length_take]; omega
        obtain ⟨x0, hx0⟩ : ∃ x, x = rd l0 ((4 + 0 : Nat) : Int) := ⟨_, rfl⟩
        obtain ⟨x1, hx1⟩ : ∃ x, x = rd l0 ((4 + 1 : Nat) : Int) := ⟨_, rfl⟩
        obtain ⟨x2, hx2⟩ : ∃ x, x = rd l0 ((4 + 2 : Nat) : Int) := ⟨_, rfl⟩
        obtain ⟨x3, hx3⟩ : ∃ x, x = rd l0 ((4 + 3 : Nat) : Int) := ⟨_, rfl⟩
        have hx : (l0.drop 4).take 4 = [x0, x1, x2, x3] := by
          rw [take_four _ (by rw [List.length_drop]; omega), hx0, hx1, hx2, hx3]
          simp [rd, List.getD_eq_getElem?_getD]
        have k0 : w1.cell? ⟨g, o, none⟩ = some (.int .u8 x0) := by rw [hx0]; exact hcl 0 (by omega)
        have k1 : w1.cell? ⟨g, o + 1, none⟩ = some (.int .u8 x1) := by rw [hx1]; exact hcl 1 (by omega)
        have k2 : w1.cell? ⟨g, o + 2, none⟩ = some (.int .u8 x2) := by rw [hx2]; exact hcl 2 (by omega)
        have k3 : w1.cell? ⟨g, o + 3, none⟩ = some (.int .u8 x3) := by rw [hx3]; exact hcl 3 (by omega)
        have heq : ∀ W, Sem.run Tryd.prog (Op.equalIn 10000 37 (.agg (nums .u8 M).toArray) (.agg #[.int .u8 x0, .int .u8 x1, .int .u8 x2, .int .u8 x3])) W = .ok (M == [x0, x1, x2, x3]) W := fun W => run_equalIn_nums (P := Tryd.prog) W 9998 37 5 4 (k := .u8) Tryd.underlying37 Tryd.underlying5 (fun w => by kernel_rfl) M [x0, x1, x2, x3] hMl rfl
        have harr : ∀ c W, Sem.run Tryd.prog (Instr.arrayAt 37 (.slice (some ⟨g, o, none⟩) 4 c)) W = .ok (.pointer (some ⟨g, o, none⟩)) W := fun c W => run_arrayAt (P := Tryd.prog) W 37 _ _ _ _ _ Tryd.underlying37 (by decide)
        have ho : oneL l0 = (inn, M == [x0, x1, x2, x3]) := by
          rw [oneL, if_neg h8, if_neg (by omega), hn, Int.toNat_natCast, hinn2, ← hM, hx]
          congr 1
          rw [Bool.eq_iff_iff]; simp
        have hcallM : ∀ W, Below w1.heap.size w1 W → Calls Tryd.prog 14 #[.slice A0 4 c0, .slice Ai n ci] W fun e w' => e = .returned (.agg (nums .u8 M).toArray) ∧ Below W.heap.size W w' := fun W hW => by
          have := mark_at A0 Ai c0 ci 4 n (l0.take 4) inn W ht4 hinl (Kd.C_below hC4 hW) (by rw [hinl]; exact Kd.C_below hCi hW) (by omega) (hGL.below hW)
          rw [← hM] at this
          exact this
        have Hinl := Lib.hid hinl
        clear hinl hinn hinn2 hM hMl ht4 hx hx0 hx1 hx2 hx3 hcl hC4
        have ew : IntKind.i64.wrap (8 + (n : Int)) = 8 + (n : Int) := IntWalk.i64_in _ (by omega)
        go_upto_region 7 with fail
        have hb6 : Below w1.heap.size w1 w1.drew := below_drew (Below.refl _ _)
        -- [7
        refine start_ (n := 12) (S := fun w' => w'.cell? ⟨g, o, none⟩ = some (.int .u8 x0) ∧ w'.cell? ⟨g, o + 1, none⟩ = some (.int .u8 x1) ∧ w'.cell? ⟨g, o + 2, none⟩ = some (.int .u8 x2) ∧ w'.cell? ⟨g, o + 3, none⟩ = some (.int .u8 x3)) (ds := []) #[false, false, false, false, false, false, false, false, false, false, false, false] (by kernel_rfl) rfl rfl ⟨k0, k1, k2, k3⟩ (fun hHeld => ?_)
        generalize w1.drew = w6 at hb6 hHeld ⊢
        refine pure_ (i := 0) (N := some 26) (v := ?_) (a' := ?_) #[true, false, false, false, false, false, false, false, false, false, false, false] rfl rfl (by kernel_rfl) (fun _ _ _ h => h) (Or.inl ⟨by rfl, ?_⟩) ?_ ?_
        rotate_left
        · intro w'
          go_simp
          with_reducible rfl
        rotate_left
        · simp only [Act.put, List.setIfInBounds_toArray, List.set_cons_zero, List.set_cons_succ, i64_w, i32_w]
          rfl
        refine pure_ (i := 1) (N := some 27) (v := ?_) (a' := ?_) #[true, true, false, false, false, false, false, false, false, false, false, false] rfl rfl (by kernel_rfl) (fun _ _ _ h => h) (Or.inl ⟨by rfl, ?_⟩) ?_ ?_
        rotate_left
        · intro w'
          go_simp
          with_reducible rfl
        rotate_left
        · simp only [Act.put, List.setIfInBounds_toArray, List.set_cons_zero, List.set_cons_succ, i64_w, i32_w]
          rfl
        refine pure_ (i := 2) (N := some 28) (v := ?_) (a' := ?_) #[true, true, true, false, false, false, false, false, false, false, false, false] rfl rfl (by kernel_rfl) (fun _ _ _ h => h) (Or.inl ⟨by rfl, ?_⟩) ?_ ?_
        rotate_left
        · intro w'
          go_simp
          with_reducible rfl
        rotate_left
        · simp only [Act.put, List.setIfInBounds_toArray, List.set_cons_zero, List.set_cons_succ, i64_w, i32_w]
          rfl
        refine pure_ (i := 3) (N := some 29) (v := ?_) (a' := ?_) #[true, true, true, true, false, false, false, false, false, false, false, false] rfl rfl (by kernel_rfl) (fun _ _ _ h => h) (Or.inl ⟨by rfl, ?_⟩) ?_ ?_
        rotate_left
        · intro w'
          go_simp
          with_reducible rfl
        rotate_left
        · simp only [Act.put, List.setIfInBounds_toArray, List.set_cons_zero, List.set_cons_succ, i64_w, i32_w]
          rfl
        refine pure_ (i := 5) (N := some 31) (v := ?_) (a' := ?_) #[true, true, true, true, false, true, false, false, false, false, false, false] rfl rfl (by kernel_rfl) (fun _ _ _ h => h) (Or.inl ⟨by rfl, ?_⟩) ?_ ?_
        rotate_left
        · intro w'
          go_simp
          with_reducible rfl
        rotate_left
        · simp only [Act.put, List.setIfInBounds_toArray, List.set_cons_zero, List.set_cons_succ, i64_w, i32_w]
          rfl
        refine pure_ (i := 6) (N := some 32) (v := ?_) (a' := ?_) #[true, true, true, true, false, true, true, false, false, false, false, false] rfl rfl (by kernel_rfl) (fun _ _ _ h => h) (Or.inl ⟨by rfl, ?_⟩) ?_ ?_
        rotate_left
        · intro w'
          go_simp
          with_reducible rfl
        rotate_left
        · simp only [Act.put, List.setIfInBounds_toArray, List.set_cons_zero, List.set_cons_succ, i64_w, i32_w]
          rfl
        refine pure_ (i := 7) (N := some 33) (v := ?_) (a' := ?_) #[true, true, true, true, false, true, true, true, false, false, false, false] rfl rfl (by kernel_rfl) (fun _ _ _ h => h) (Or.inl ⟨by rfl, ?_⟩) ?_ ?_
        rotate_left
        · intro w'
          go_simp
          with_reducible rfl
        rotate_left
        · simp only [Act.put, List.setIfInBounds_toArray, List.set_cons_zero, List.set_cons_succ, i64_w, i32_w]
          rfl
        refine take_ (i := 8) (N := some 34) (v := ?_) (a' := ?_) #[true, true, true, true, false, true, true, true, true, false, false, false] rfl rfl (by kernel_rfl) (fun _ _ _ h => h) (Or.inl ⟨by rfl, ?_⟩) hHeld ?_ ?_
        rotate_left
        · rintro w' ⟨s0, s1, s2, s3⟩
          go_simp
          with_reducible rfl
        rotate_left
        · simp only [Act.put, List.setIfInBounds_toArray, List.set_cons_zero, List.set_cons_succ, i64_w, i32_w]
          rfl
        refine one_ (i := 4) (N := some 30) #[true, true, true, true, true, true, true, true, true, false, false, false] rfl rfl (by kernel_rfl) (by decide) (fun K hK => ?_)
        refine goes_ Tryd.func14 (by kernel_rfl) rfl #[.slice A0 4 c0, .slice Ai n ci] (by rfl) rfl rfl (by simp only [List.map_toArray, List.map_cons, List.map_nil]; rfl) ?_
        with_reducible refine (hcallM _ hb6).mono ?_
        rintro e w7 ⟨rfl, hb7⟩
        refine ⟨_, rfl, ?_⟩
        have hb7t := below_then hb6 hb6.size hb7
        refine hK.out _ _ ⟨cell_below k0 hb7t, cell_below k1 hb7t, cell_below k2 hb7t, cell_below k3 hb7t⟩ (fun hHeld => ?_)
        clear hK K
        refine norm_ (a' := ?_) ?_ ?_
        rotate_left
        · show Act.put _ (some 30) _ = _
          simp only [Act.put, List.setIfInBounds_toArray, List.set_cons_zero, List.set_cons_succ, i64_w, i32_w]
          rfl
        refine pure_ (i := 9) (N := some 35) (v := ?_) (a' := ?_) #[true, true, true, true, true, true, true, true, true, true, false, false] rfl rfl (by kernel_rfl) (fun _ _ _ h => h) (Or.inl ⟨by rfl, ?_⟩) ?_ ?_
        rotate_left
        · intro w'
          go_simp
          with_reducible rfl
        rotate_left
        · simp only [Act.put, List.setIfInBounds_toArray, List.set_cons_zero, List.set_cons_succ, i64_w, i32_w]
          rfl
        refine pure_ (i := 10) (N := some 2) (v := ?_) (a' := ?_) #[true, true, true, true, true, true, true, true, true, true, true, false] rfl rfl (by kernel_rfl) (fun _ _ _ h => h) (Or.inl ⟨by rfl, ?_⟩) ?_ ?_
        rotate_left
        · intro w'
          go_simp
          with_reducible rfl
        rotate_left
        · simp only [Act.put, List.setIfInBounds_toArray, List.set_cons_zero, List.set_cons_succ, i64_w, i32_w]
          rfl
        refine pure_ (i := 11) (N := some 3) (v := ?_) (a' := ?_) #[true, true, true, true, true, true, true, true, true, true, true, true] rfl rfl (by kernel_rfl) (fun _ _ _ h => h) (Or.inl ⟨by rfl, ?_⟩) ?_ ?_
        rotate_left
        · intro w'
          go_simp
          with_reducible rfl
        rotate_left
        · simp only [Act.put, List.setIfInBounds_toArray, List.set_cons_zero, List.set_cons_succ, i64_w, i32_w]
          rfl
        refine done_ (by kernel_rfl) ?_
        -- 7]
        go_wp2_with fail
        go_ret2
        rw [ho]
        exact ⟨Ai, ci, by rw [show inn.length = n from Hinl]; rfl, by rw [show inn.length = n from Hinl]; exact Kd.C_below hCi hb7t, by rw [show inn.length = n from Hinl]; exact hci, hb7t⟩
def frame_one.f (l0 : List Int) : Option (List Int × Bool) := none
theorem frame_one.calls (a : Nat) (h : frame_one.f [] = some ([], false)) : True := trivial

/-! ### frame_Split: function 10, by hand -/
theorem oneL_fits (l : List Int) (h : (oneL l).2 = true) : 8 + (oneL l).1.length ≤ l.length := by
  unfold oneL at h ⊢
  split
  · rename_i h1; rw [if_pos h1] at h; cases h
  · rename_i h1
    rw [if_neg h1] at h
    split
    · rename_i h2; rw [if_pos h2] at h; cases h
    · rename_i h2
      have hr := (getL_range (l.take 4)).1
      show 8 + ((l.drop 8).take (getL (l.take 4)).toNat).length ≤ _
      rw [List.length_take, List.length_drop]; omega
/-- What is in all frames from a place on, and where they end. -/
def splitF : Nat → List Int → Nat → List (List Int) × Nat
  | 0, _, i => ([], i)
  | k + 1, l, i => if (oneL (l.drop i)).2 = true then ((oneL (l.drop i)).1 :: (splitF k l (i + 8 + (oneL (l.drop i)).1.length)).1, (splitF k l (i + 8 + (oneL (l.drop i)).1.length)).2) else ([], i)
def splitL (l : List Int) : List (List Int) × Nat := splitF (l.length + 1) l 0
/-- A cut of a row of bytes from a place on. -/
theorem drop_row {w : World} {A : Option Addr} {l : List Int} {c : Nat} (h : Kd.C (Kd.int .u8) w A l.length l) (hc : l.length ≤ c) (lo : Nat) (h1 : lo ≤ l.length) :
    ∃ Ad cd, (∀ W, Sem.run Tryd.prog (Instr.slice 23 (.slice A l.length c) (some (.int .i64 (lo : Int))) none none) W = .ok (.slice Ad (l.drop lo).length cd) W) ∧ Kd.C (Kd.int .u8) w Ad (l.drop lo).length (l.drop lo) ∧ (l.drop lo).length ≤ cd := by
  obtain ⟨i05, hi05, _, hsz5, _⟩ := info_parts (show (Tryd.prog.info? 5).map (fun i => (i.zero, i.size, i.bytes)) = some (some (.int .u8 0), 1, 1) by kernel_rfl)
  have hcut := cut_from (P := Tryd.prog) 23 5 .i64 Tryd.underlying23 hi05 1 hsz5 A l.length c (lo : Int) (by omega) (by omega)
  simp only [Int.toNat_natCast] at hcut
  have hd : (l.drop lo).length = l.length - lo := List.length_drop
  have hC := Kd.C_drop h (m := lo) (c := c) h1 hc
  exact ⟨_, _, by rw [hd]; exact hcut, hC, by rw [hd]; omega⟩
set_option maxHeartbeats 4000000 in
set_option maxRecDepth 100000 in
theorem frame_Split.says (A0 : Option Addr) (c0 : Nat) (l0 : List Int) (w : World) (hr0 : Kd.C (Kd.int .u8) w A0 l0.length l0) (hc0 : l0.length ≤ c0) (hl : l0.length ≤ 100000000) (hGL : GL w) :
    Calls Tryd.prog 10 #[.slice A0 l0.length c0] w fun e w' => ∃ v0_ : Value, e = .returned (.tuple #[v0_, .int .i64 ((splitL l0).2 : Int)]) ∧ Kd.S (Kd.slice 5 (Kd.int .u8)) 23 w' w.heap.size (fun _ => True) v0_ (splitL l0).1 ∧ Below w.heap.size w w' := by
  go_enter Tryd.func10, Tryd.ntmps10
  go_upto_region 3 with fail
  go_loopw [4, 5] (fun v4 v5 wr => ∃ (i k : Nat) (out : List (List Int)), v5 = .int .i64 i ∧ i ≤ l0.length ∧ l0.length < i + k ∧ out.length ≤ i ∧ Kd.S (Kd.slice 5 (Kd.int .u8)) 23 wr w.heap.size (fun _ => True) v4 out ∧ Below w.heap.size w wr ∧ splitL l0 = (out ++ (splitF k l0 i).1, (splitF k l0 i).2)) (fun _ v5 _ => l0.length - (intOf v5).toNat)
  case atStart => exact ⟨0, l0.length + 1, [], rfl, by omega, by omega, by simp, Kd.S_nil _ _ _ _ _, Below.refl _ _, rfl⟩
  case round =>
    obtain ⟨i, k, out, rfl, hi, hk, hout, hr, hb, hsp⟩ := hrel
    obtain ⟨k, rfl⟩ : ∃ m, k = m + 1 := ⟨k - 1, by omega⟩
    have hC := Kd.C_below hr0 hb
    obtain ⟨Ad, cd, hcut, hCd, hcd⟩ := drop_row hC hc0 i hi
    have hsp2 : splitF (k + 1) l0 i = if (oneL (l0.drop i)).2 = true then ((oneL (l0.drop i)).1 :: (splitF k l0 (i + 8 + (oneL (l0.drop i)).1.length)).1, (splitF k l0 (i + 8 + (oneL (l0.drop i)).1.length)).2) else ([], i) := rfl
    have hdl : (l0.drop i).length = l0.length - i := List.length_drop
    obtain ⟨D, hD⟩ : ∃ D, D = l0.drop i := ⟨_, rfl⟩
    rw [← hD] at hcut hCd hcd hsp2 hdl
    have Hdl := Lib.hid hdl
    clear hdl hD
    go_wp2_with fail
    refine (frame_one.says Ad cd D wr hCd hcd (by have := (show D.length = l0.length - i from Hdl); omega) (hGL.below hb)).mono ?_
    rintro e w2 ⟨Ai, ci, rfl, hCi, hci, hb2⟩
    have hr2 := Kd.S_below hr hb2
    have hb2t := below_then hb hb.size hb2
    have hfit := oneL_fits D
    obtain ⟨inn, hinn⟩ : ∃ inn, inn = (oneL D).1 := ⟨_, rfl⟩
    rw [← hinn] at hCi hci hsp2 hfit ⊢
    have Hsp2 := Lib.hid hsp2
    have Hsp := Lib.hid hsp
    clear hcut hCd hcd hsp hsp2 hr hb hb2 hC hinn
    cases hok : (oneL D).2 with
    | false =>
      go_wp2_with fail
      go_ret2
      have h1 : splitL l0 = (out, i) := by
        rw [(show splitL l0 = (out ++ (splitF (k + 1) l0 i).1, (splitF (k + 1) l0 i).2) from Hsp), (show splitF (k + 1) l0 i = _ from Hsp2), if_neg (by rw [hok]; decide)]
        simp
      exact ⟨_, by rw [h1]; rfl, by rw [h1]; exact hr2, hb2t⟩
    | true =>
      have hf := hfit hok
      have hdl : D.length = l0.length - i := Hdl
      have hsz2 : w.heap.size ≤ w2.heap.size := hb2t.size
      have LA := Lib.hid (show (([] : List Int).length + inn.length) * 1 ≤ 140737488355328 by rw [List.length_nil]; omega)
      have LB := Lib.hid (show (out.length + 1) * 24 ≤ 140737488355328 by omega)
      obtain ⟨A4, c4, e4⟩ := Kd.S_slice hr2
      subst e4
      have e1 : IntKind.i64.wrap (8 + (inn.length : Int)) = 8 + (inn.length : Int) := IntWalk.i64_in _ (by omega)
      have e2 : IntKind.i64.wrap ((i : Int) + (8 + (inn.length : Int))) = (i : Int) + (8 + (inn.length : Int)) := IntWalk.i64_in _ (by omega)
      have hi2 : i + 8 + inn.length ≤ l0.length := by omega
      clear hf hdl hfit
      go_wp2_with (first
        | ((with_reducible refine gate_builtin (b := .append) (xs := #[.const (.slice none 0 0), .tmp 20]) rfl ?_); at_builtin; refine Kd.R_append_rows (Kd.int .u8) (w0 := w2) w2.heap.size rfl (.const (.slice none 0 0)) (.tmp 20) 23 5 (.int .u8 0) 1 rfl Tryd.underlying23 rfl rfl (by decide) (by omega) (.slice none 0 0) [] inn _ _ _ (fun _ => True) (fun _ => False) rfl rfl (Kd.R_nil _ _ _ _ _) hCi (fun _ _ h => h) (fun _ h => h.elim) (fun _ _ => trivial) (Below.refl _ _) (Nat.le_refl _) LA ?_; intro v21 w3 ho3 hb3 hg3 hat3; clear hg3 hat3; rw [List.nil_append] at ho3; obtain ⟨A21, c21, e21⟩ := Kd.R_slice ho3; subst e21)
        | ((with_reducible refine gate_builtin (b := .append) (xs := #[.tmp 19, .tmp 22]) rfl ?_); at_builtin; refine Kd.S_append (Kd.slice 5 (Kd.int .u8)) (w0 := w) w.heap.size rfl (.tmp 19) (.tmp 22) 22 23 (.slice none 0 0) 24 rfl Tryd.underlying22 rfl rfl (by decide) (by omega) (.slice A4 out.length c4) out inn [.slice A21 inn.length c21] (fun _ => True) (fun k => (True ∧ some k ≠ (.slice A4 out.length c4 : Value).ownBlock) ∧ w2.heap.size ≤ k) rfl rfl ⟨_, rfl, Kd.R_lower (Kd.R_mono (Kd.R_bound (Kd.R_new' ho3 (Kd.S_lt hr2))) (fun _ hk => ⟨hk.1, hk.2.1⟩)) hsz2⟩ (fun _ h => h.1) (fun _ _ => trivial) (Kd.S_mono (Kd.S_below (Kd.S_bound hr2) hb3) (fun k hk => ⟨trivial, fun h2 => Nat.lt_irrefl k (Nat.lt_of_lt_of_le hk.2.2.1 h2.2)⟩)) (below_then hb2t hsz2 hb3) (Nat.le_trans hsz2 hb3.size) LB ?_; intro v23 w4 ho4 hb4 hg4 hat4; clear hg4 hat4))
      refine ⟨⟨i + 8 + inn.length, k, out ++ [inn], by rw [show ((i + 8 + inn.length : Nat) : Int) = (i : Int) + (8 + (inn.length : Int)) by omega], hi2, by omega, by rw [List.length_append, List.length_singleton]; omega, ho4, hb4, ?_⟩, by simp only [intOf]; omega⟩
      rw [(show splitL l0 = (out ++ (splitF (k + 1) l0 i).1, (splitF (k + 1) l0 i).2) from Hsp), (show splitF (k + 1) l0 i = _ from Hsp2), if_pos hok, List.append_assoc]
      rfl
def frame_Split.f (l0 : List Int) : Option (List (List Int) × Int) := if l0.length ≤ 100000000 then some ((splitL l0).1, ((splitL l0).2 : Int)) else none
theorem frame_Split.calls (A0 : Option Addr) (c0 : Nat) (l0 : List Int) (r1 : List (List Int)) (r2 : Int) (w : World) (hr0 : Kd.C (Kd.int .u8) w A0 l0.length l0) (hc0 : l0.length ≤ c0) (h : frame_Split.f l0 = some (r1, r2)) (hGL : GL w) :
    Calls Tryd.prog 10 #[.slice A0 l0.length c0] w fun e w' => ∃ v0_ : Value, e = .returned (.tuple #[v0_, .int .i64 r2]) ∧ Kd.S (Kd.slice 5 (Kd.int .u8)) 23 w' w.heap.size (fun _ => True) v0_ r1 ∧ Below w.heap.size w w' := by
  unfold frame_Split.f at h
  split at h
  case isTrue hs =>
    simp only [Option.some.injEq, Prod.mk.injEq] at h
    obtain ⟨rfl, rfl⟩ := h
    exact frame_Split.says A0 c0 l0 w hr0 hc0 hs hGL
  case isFalse hs => exact absurd h (by simp)

/-! ### exequaturlaw11_answers: function 7, by hand -/
/-- The bytes of a literal that is marked as a text. -/
theorem two_C (w : World) (T : Nat) (fz : Nat × Nat) : Kd.C (Kd.int .u8) (w.alloc (.cells #[.int .u8 104, .int .u8 105] T fz)) (some ⟨w.heap.size, 0, none⟩) 2 [104, 105] := by
  refine ⟨rfl, by decide, fun _ => ⟨⟨w.heap.size, 0, none⟩, rfl, fun j p hj => ⟨[.int .u8 p], rfl, rfl, fun i u hu => ?_⟩⟩⟩
  have hlt : j < 2 := (List.getElem?_eq_some_iff.1 hj).1
  match i, hu with
  | 0, hu =>
    simp only [List.getElem?_cons_zero, Option.some.injEq] at hu
    subst hu
    have ha : (⟨w.heap.size, 0, none⟩ : Addr).add (j * (Kd.int .u8).sz + 0) = ⟨w.heap.size, j, none⟩ := by
      show (⟨w.heap.size, 0, none⟩ : Addr).add (j * 1 + 0) = _
      unfold Addr.add
      simp
      intro h; omega
    rw [ha, cell_of_row _ w.heap.size j #[.int .u8 104, .int .u8 105] T fz (heap_alloc_new w _)]
    match j, hj with
    | 0, hj => simp at hj; subst hj; rfl
    | 1, hj => simp at hj; subst hj; rfl
set_option maxRecDepth 100000 in
theorem hi_split : splitL (frameL [104, 105]) = ([[104, 105]], 10) := by kernel_rfl
set_option maxHeartbeats 4000000 in
set_option maxRecDepth 100000 in
theorem exequaturlaw11_answers.says (w : World) (hGL : GL w) :
    Calls Tryd.prog 7 #[] w fun e w' => e = .returned (.bool true) ∧ Below w.heap.size w w' := by
  have kc := fun (w : World) (C : Array Value) (n c : Nat) => Lib.run_convert_bytes_const (P := Tryd.prog) w 23 5 C n c Tryd.underlying23 Tryd.underlying5
  go_enter Tryd.func7, Tryd.ntmps7
  go_wp2_with fail
  obtain ⟨w1, hw1⟩ : ∃ w1, w1 = w.alloc (.cells #[.int .u8 104, .int .u8 105] 5 (2, 3)) := ⟨_, rfl⟩
  have hb1 : Below w.heap.size w w1 := by rw [hw1]; exact (Below.refl _ w).alloc (Nat.le_refl _) _
  have hC1 : Kd.C (Kd.int .u8) w1 (some ⟨w.heap.size, 0, none⟩) 2 [104, 105] := by rw [hw1]; exact two_C w _ _
  rw [← hw1]
  clear hw1 kc
  refine (frame_Frame.says (some ⟨w.heap.size, 0, none⟩) 2 [104, 105] w1 hC1 (by decide) (by decide) (hGL.below hb1)).mono ?_
  rintro e w2 ⟨v1, rfl, hr1, hb2⟩
  obtain ⟨F, hF⟩ : ∃ F, F = frameL [104, 105] := ⟨_, rfl⟩
  have hsp : splitL F = ([[104, 105]], 10) := by rw [hF]; exact hi_split
  have hFl : F.length = 10 := by rw [hF]; simp [frameL, markL_length, four]
  rw [← hF] at hr1
  have Hsp := Lib.hid hsp
  have HFl := Lib.hid hFl
  clear hF hsp hFl
  obtain ⟨A1, c1, e1⟩ := Kd.R_slice hr1
  subst e1
  have hrd := Kd.R_reads' hr1
  have hb2t := below_then hb1 hb1.size hb2
  go_wp2_with fail
  refine (frame_Split.says A1 c1 F w2 hrd.2.2 hrd.2.1 (by have := (show F.length = 10 from HFl); omega) (hGL.below hb2t)).mono ?_
  rintro e w3 ⟨v3, rfl, hr3, hb3⟩
  have hb3t := below_then hb2t hb2t.size hb3
  have hsp : splitL F = ([[104, 105]], 10) := Hsp
  rw [hsp] at hr3 ⊢
  clear hsp hr1 hrd hb2 hb3 hC1 hb1 hb2t
  obtain ⟨A3, c3, e3⟩ := Kd.S_slice hr3
  subst e3
  obtain ⟨ad, A30, c30, e30, hx, hl, hi⟩ := at_L3 (Kd.S_reads' hr3).2.2 0 (by decide) (by decide)
  cases e30
  (try rw [show ((0 : Int)).toNat = 0 from rfl] at hx)
  (try rw [Addr.add_zero'] at hx)
  have hcv := Kd.C_string (P := Tryd.prog) (A := A30) (c := c30) Tryd.underlying23 Tryd.underlying5 Tryd.underlying9 hi
  have he : ((strOfNums (rd_L3 [[104, 105]] 0)).toList == ([104, 105] : List UInt8)) = true := by rw [ByteArray.toList_eq]; rfl
  go_wp2_with fail
  go_ret
  exact ⟨rfl, hb3t⟩
def exequaturlaw11_answers.f : Option Bool := some true
theorem exequaturlaw11_answers.calls (r : Bool) (w : World) (h : exequaturlaw11_answers.f = some r) (hGL : GL w) :
    Calls Tryd.prog 7 #[] w fun e w' => e = .returned (.bool r) ∧ Below w.heap.size w w' := by
  obtain rfl := Option.some.inj h
  exact exequaturlaw11_answers.says w hGL

/-! ### exequaturlaw11_same: function 11 -/
def exequaturlaw11_same.l0 : Nat → List (List Int) → List (List Int) → Int → Option (Bool)
  | 0, _, _, _ => none
  | k + 1, x0, x1, x5 => if x5 < (x0.length : Int) then (if 0 ≤ x5 then (if x5 < (x1.length : Int) then (if (strOfNums (rd_L3 x0 x5)).toList = (strOfNums (rd_L3 x1 x5)).toList then (exequaturlaw11_same.l0 k x0 x1 (wrap64 (x5 + 1))) else (some false)) else (none)) else (none)) else (some true)
def exequaturlaw11_same.f (k : Nat) (l0 : List (List Int)) (l1 : List (List Int)) : Option (Bool) := if (l0.length : Int) = (l1.length : Int) then (exequaturlaw11_same.l0 k l0 l1 0) else (some false)
theorem exequaturlaw11_same.mono_l : ∀ k, (∀ y0 y1 y2, LeO (exequaturlaw11_same.l0 k y0 y1 y2) (exequaturlaw11_same.l0 (k + 1) y0 y1 y2))
  | 0 => fun _ _ _ r h => by simp [exequaturlaw11_same.l0] at h
  | k + 1 => by
    have ih0 := exequaturlaw11_same.mono_l k
    · intro y0 y1 y2
      unfold exequaturlaw11_same.l0
      repeat' first
      | (with_reducible exact ih0 _ _ _)
      | (with_reducible exact LeO.refl _)
      | (with_reducible exact LeO.none _)
      | (with_reducible refine LeO.ite ?_ ?_)
      | (with_reducible refine LeO.bind ?_ (fun _ => ?_))
      | exact ih0 _ _ _
      | exact LeO.none _
      | refine LeO.ite ?_ ?_
      | refine LeO.bind ?_ (fun _ => ?_)
theorem exequaturlaw11_same.mono : ∀ a0 a1 k, LeO (exequaturlaw11_same.f k a0 a1) (exequaturlaw11_same.f (k + 1) a0 a1) := by
  intro a0 a1 k
  have ih0 := exequaturlaw11_same.mono_l k
  unfold exequaturlaw11_same.f
  repeat' first
      | (with_reducible exact ih0 _ _ _)
      | (with_reducible exact LeO.refl _)
      | (with_reducible exact LeO.none _)
      | (with_reducible refine LeO.ite ?_ ?_)
      | (with_reducible refine LeO.bind ?_ (fun _ => ?_))
      | exact ih0 _ _ _
      | exact LeO.none _
      | refine LeO.ite ?_ ?_
      | refine LeO.bind ?_ (fun _ => ?_)
set_option maxHeartbeats 8000000 in
set_option maxRecDepth 100000 in
theorem exequaturlaw11_same.calls (k : Nat) (A0 : Option Addr) (c0 : Nat) (l0 : List (List Int)) (A1 : Option Addr) (c1 : Nat) (l1 : List (List Int)) (r : Bool) (w : World) (hr0 : Kd.C (Kd.slice 5 (Kd.int .u8)) w A0 l0.length l0) (hc0 : l0.length ≤ c0) (hr1 : Kd.C (Kd.slice 5 (Kd.int .u8)) w A1 l1.length l1) (hc1 : l1.length ≤ c1) (h : exequaturlaw11_same.f k l0 l1 = some r) :
    Calls Tryd.prog 11 #[.slice A0 l0.length c0, .slice A1 l1.length c1] w fun e w' => e = .returned (.bool r) ∧ Drawn0 w w' := by
  have HR0 := Aside0.mk hr0
  have HC0 := Aside0.mk hc0
  clear hr0 hc0
  have HR1 := Aside0.mk hr1
  have HC1 := Aside0.mk hc1
  clear hr1 hc1
  have H : (if (l0.length : Int) = (l1.length : Int) then (exequaturlaw11_same.l0 k l0 l1 0) else (some false)) = some r := h
  clear h
  by_cases c3 : (l0.length : Int) = (l1.length : Int)
  · rw [if_pos c3] at H
    have c3b0 : ((l0.length : Int) == (l1.length : Int)) = true := beq_iff_eq.mpr c3
    have c3b1 : ((l0.length : Int) != (l1.length : Int)) = false := bne_eq_false_iff_eq.mpr c3
    have c3b2 : (l0.length == l1.length) = true := by first | simpa using c3 | (simp at c3 ⊢; omega)
    clear c3
    have H' := Aside0.mk H
    clear H
    go_enter Tryd.func11, Tryd.ntmps11
    go_wp2
    repeat (go_quiet (fail); try go_wp2)
    go_loopg [5] k (fun kq v5 w' => ∃ (x5_1 : Int), v5 = .int .i64 x5_1 ∧ Aside0 (exequaturlaw11_same.l0 kq l0 l1 x5_1 = some r) ∧ Aside0 (kq ≤ k) ∧ Drawn0 w w')
    case atStart => exact ⟨(0), (by first | rfl | (simp; done) | (simp [*]; done)), H', ⟨Nat.le_refl _⟩, by repeat (first | exact Drawn0.refl _ | apply Drawn0.step)⟩
    case round =>
      clear H'
      try clear c1
      try clear p2
      try clear c3
      try clear c3b0
      try clear c3b1
      try clear c3b2
      obtain ⟨x5_1, rfl, HA, HK1, ⟨m1, rfl⟩⟩ := hrel
      cases gk with
      | zero => exact absurd HA.out (by simp [exequaturlaw11_same.l0])
      | succ k1 =>
        have H := HA.out
        clear HA
        simp only [exequaturlaw11_same.l0] at H
        by_cases c4 : x5_1 < (l0.length : Int)
        · rw [if_pos c4] at H
          have c4b0 : decide (x5_1 < (l0.length : Int)) = true := decide_eq_true c4
          clear c4
          by_cases c5 : 0 ≤ x5_1
          · rw [if_pos c5] at H
            have c5b0 : decide (0 ≤ x5_1) = true := decide_eq_true c5
            clear c5
            by_cases c6 : x5_1 < (l1.length : Int)
            · rw [if_pos c6] at H
              have c6b0 : decide (x5_1 < (l1.length : Int)) = true := decide_eq_true c6
              clear c6
              by_cases c7 : (strOfNums (rd_L3 l0 x5_1)).toList = (strOfNums (rd_L3 l1 x5_1)).toList
              · rw [if_pos c7] at H
                have c7b0 : ((strOfNums (rd_L3 l0 x5_1)).toList == (strOfNums (rd_L3 l1 x5_1)).toList) = true := beq_iff_eq.mpr c7
                have c7b1 : ((strOfNums (rd_L3 l0 x5_1)).toList != (strOfNums (rd_L3 l1 x5_1)).toList) = false := bne_eq_false_iff_eq.mpr c7
                clear c7
                have H' := Aside0.mk H
                clear H
                have p120 : 0 ≤ (x5_1 : Int) := of_decide_eq_true (by first | (with_reducible assumption) | assumption)
                have q120 : x5_1 < (l0.length : Int) := of_decide_eq_true (by first | (with_reducible assumption) | assumption)
                obtain ⟨ad120, A120_0, c120_0, e120, hx120_0, hl120_0, hi120_0⟩ := at_L3 HR0.out x5_1 p120 q120
                cases e120
                have HR120_0 := Aside0.mk hi120_0
                have HC120_0 := Aside0.mk hl120_0
                clear hi120_0 hl120_0
                replace p120 := eq_true p120
                replace q120 := eq_true q120
                have hcv8 := Kd.C_string (P := Tryd.prog) (A := A120_0) (c := c120_0) Tryd.underlying23 Tryd.underlying5 Tryd.underlying9 HR120_0.out
                (try have hcv8q := fun nq_ => Kd.C_string (P := Tryd.prog) (A := A120_0) (c := c120_0) Tryd.underlying23 Tryd.underlying5 Tryd.underlying9 (Kd.C_drewN HR120_0.out nq_))
                have p121 : 0 ≤ (x5_1 : Int) := of_decide_eq_true (by first | (with_reducible assumption) | assumption)
                have q121 : x5_1 < (l1.length : Int) := of_decide_eq_true (by first | (with_reducible assumption) | assumption)
                obtain ⟨ad121, A121_0, c121_0, e121, hx121_0, hl121_0, hi121_0⟩ := at_L3 HR1.out x5_1 p121 q121
                cases e121
                have HR121_0 := Aside0.mk hi121_0
                have HC121_0 := Aside0.mk hl121_0
                clear hi121_0 hl121_0
                replace p121 := eq_true p121
                replace q121 := eq_true q121
                have hcv9 := Kd.C_string (P := Tryd.prog) (A := A121_0) (c := c121_0) Tryd.underlying23 Tryd.underlying5 Tryd.underlying9 HR121_0.out
                (try have hcv9q := fun nq_ => Kd.C_string (P := Tryd.prog) (A := A121_0) (c := c121_0) Tryd.underlying23 Tryd.underlying5 Tryd.underlying9 (Kd.C_drewN HR121_0.out nq_))
                go_wp2
                repeat (go_quiet (fail); try go_wp2)
                go_roundg k1
                case measure => have := HK1.out; omega
                case rel => exact ⟨(wrap64 (x5_1 + 1)), (by first | rfl | (simp; done) | (simp [*]; done)), H', ⟨by have := HK1.out; omega⟩, by repeat (first | exact Drawn0.refl _ | apply Drawn0.step)⟩
              · rw [if_neg c7] at H
                have c7b0 : ((strOfNums (rd_L3 l0 x5_1)).toList == (strOfNums (rd_L3 l1 x5_1)).toList) = false := beq_eq_false_iff_ne.mpr c7
                have c7b1 : ((strOfNums (rd_L3 l0 x5_1)).toList != (strOfNums (rd_L3 l1 x5_1)).toList) = true := bne_iff_ne.mpr c7
                obtain rfl := Option.some.inj H
                have p120 : 0 ≤ (x5_1 : Int) := of_decide_eq_true (by first | (with_reducible assumption) | assumption)
                have q120 : x5_1 < (l0.length : Int) := of_decide_eq_true (by first | (with_reducible assumption) | assumption)
                obtain ⟨ad120, A120_0, c120_0, e120, hx120_0, hl120_0, hi120_0⟩ := at_L3 HR0.out x5_1 p120 q120
                cases e120
                have HR120_0 := Aside0.mk hi120_0
                have HC120_0 := Aside0.mk hl120_0
                clear hi120_0 hl120_0
                replace p120 := eq_true p120
                replace q120 := eq_true q120
                have hcv10 := Kd.C_string (P := Tryd.prog) (A := A120_0) (c := c120_0) Tryd.underlying23 Tryd.underlying5 Tryd.underlying9 HR120_0.out
                (try have hcv10q := fun nq_ => Kd.C_string (P := Tryd.prog) (A := A120_0) (c := c120_0) Tryd.underlying23 Tryd.underlying5 Tryd.underlying9 (Kd.C_drewN HR120_0.out nq_))
                have p121 : 0 ≤ (x5_1 : Int) := of_decide_eq_true (by first | (with_reducible assumption) | assumption)
                have q121 : x5_1 < (l1.length : Int) := of_decide_eq_true (by first | (with_reducible assumption) | assumption)
                obtain ⟨ad121, A121_0, c121_0, e121, hx121_0, hl121_0, hi121_0⟩ := at_L3 HR1.out x5_1 p121 q121
                cases e121
                have HR121_0 := Aside0.mk hi121_0
                have HC121_0 := Aside0.mk hl121_0
                clear hi121_0 hl121_0
                replace p121 := eq_true p121
                replace q121 := eq_true q121
                have hcv11 := Kd.C_string (P := Tryd.prog) (A := A121_0) (c := c121_0) Tryd.underlying23 Tryd.underlying5 Tryd.underlying9 HR121_0.out
                (try have hcv11q := fun nq_ => Kd.C_string (P := Tryd.prog) (A := A121_0) (c := c121_0) Tryd.underlying23 Tryd.underlying5 Tryd.underlying9 (Kd.C_drewN HR121_0.out nq_))
                go_wp2
                repeat (go_quiet (fail); try go_wp2)
                go_ret
                exact ⟨by first | rfl | (simp; done) | (simp [*]; done), by repeat (first | exact Drawn0.refl _ | apply Drawn0.step)⟩
            · rw [if_neg c6] at H
              exact absurd H (by simp)
          · rw [if_neg c5] at H
            exact absurd H (by simp)
        · rw [if_neg c4] at H
          have c4b0 : decide (x5_1 < (l0.length : Int)) = false := decide_eq_false c4
          clear c4
          obtain rfl := Option.some.inj H
          go_wp2
          repeat (go_quiet (fail); try go_wp2)
          go_ret
          exact ⟨by first | rfl | (simp; done) | (simp [*]; done), by repeat (first | exact Drawn0.refl _ | apply Drawn0.step)⟩
  · rw [if_neg c3] at H
    have c3b0 : ((l0.length : Int) == (l1.length : Int)) = false := beq_eq_false_iff_ne.mpr c3
    have c3b1 : ((l0.length : Int) != (l1.length : Int)) = true := bne_iff_ne.mpr c3
    have c3b2 : (l0.length == l1.length) = false := by first | simpa using c3 | (simp at c3 ⊢; omega)
    obtain rfl := Option.some.inj H
    go_enter Tryd.func11, Tryd.ntmps11
    go_wp2
    repeat (go_quiet (fail); try go_wp2)
    go_ret
    exact ⟨by first | rfl | (simp; done) | (simp [*]; done), by repeat (first | exact Drawn0.refl _ | apply Drawn0.step)⟩

end Go.Proofs.YtkmnbnfkpccobaaDoor.Q
