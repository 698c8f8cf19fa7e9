/- LinkFull: the tied card: whatever the input the law answers true and leaves it alone, the listed tables being as the program's text lays them; conditions: as the row's cells say ('laid') (part 20 of 24). -/
import Derived.Shelf.SlSorted.Search
import Derived.Test.YtpoblffgclmmlaaDoorPkPlf11
section
namespace Go.Proofs.YtpoblffgclmmlaaDoor.Q
open Go.RowKit Go.Proofs.YtpoblffgclmmlaaDoorW.PrintWords Go.Proofs.YtpoblffgclmmlaaDoorW.PrintLast Go.Proofs.YtpoblffgclmmlaaDoorW.PrintMore
attribute [local go_sem] max2_int min2_int max_two min_two max_three min_three max_four min_four   -- for this text's walks alone
open Go.Proofs.YtpoblffgclmmlaaDoor.X
set_option linter.unusedVariables false
set_option linter.unusedSimpArgs false

def strconv_Itoa_47.f (a0 : Int) : Option (ByteArray) := if -9223372036854775808 ≤ a0 ∧ a0 ≤ 9223372036854775807 then some ⟨(Lib.itoa a0).toArray⟩ else none
theorem strconv_Itoa_47.calls (a0 : Int) (r : ByteArray) (w : World) (h : strconv_Itoa_47.f a0 = some r) (hGP : GP w) :
    Calls Tryd.prog 47 #[.int .i64 a0] w fun e w' => e = .returned (.string r) ∧ Below w.heap.size w w' := by
  unfold strconv_Itoa_47.f at h
  split at h
  case isTrue hs =>
    obtain rfl := Option.some.inj h
    refine (Tryd.strconv_Itoa a0 hs.1 hs.2 w hGP).mono ?_
    rintro e w' ⟨rfl, k, os, rfl⟩
    exact ⟨rfl, below_grown_sl _ w k os (Nat.le_refl _)⟩
  case isFalse hs => exact absurd h (by simp)

theorem txs_take (l : List ByteArray) (k : Nat) (h : k < l.length) : txs (l.take (k + 1)) = txs (l.take k) ++ tx (l.getD k ByteArray.empty) := by
  rw [List.take_add_one, List.getElem?_eq_getElem h, Option.toList_some, txs_snoc]
  simp [List.getD_eq_getElem?_getD, List.getElem?_eq_getElem h]
theorem txs_take_le (l : List ByteArray) (k : Nat) : (txs (l.take k)).length ≤ (txs l).length := by
  conv => rhs; rw [← List.take_append_drop k l, txs_append, List.length_append]
  omega
set_option maxHeartbeats 2000000 in
theorem row_Texts.says (A0 : Option Addr) (c0 : Nat) (l0 : List ByteArray) (w : World) (hr0 : Kd.C Kd.string w A0 l0.length l0) (hlen : (txs l0).length ≤ 140737488355328) (hGP : GP w) :
    Calls Tryd.prog 29 #[.slice A0 l0.length c0] w fun e w' => e = .returned (.string ⟨(txs l0).toArray⟩) ∧ Below w.heap.size w w' := by
  have hll := txs_long l0
  go_enter Tryd.func29, Tryd.ntmps29
  go_wp2
  go_loopw [8] (fun v8 wr => ∃ (k : Nat), k ≤ l0.length ∧ v8 = .int .i64 k ∧ w.heap.size ≤ wr.heap.size ∧ Lib.IsBuilderF 97 5 w.heap.size w.heap.size (Lib.byteCells (txs (l0.take k))) wr ∧ Below w.heap.size w wr) (fun v8 _ => l0.length - (intOf v8).toNat)
  case atStart =>
    exact ⟨0, by omega, rfl, by simp, Lib.IsBuilderF.of (Lib.fresh_isBuilder 97 5 w), (Below.refl _ _).alloc (Nat.le_refl _) _⟩
  case round =>
    obtain ⟨k, hk, rfl, hBw, hB, hb⟩ := hrel
    by_cases hlt : k < l0.length
    · have d1 : decide ((k : Int) < (l0.length : Int)) = true := decide_eq_true (by omega)
      have HT := Lib.hid (txs_take l0 k hlt)
      have hle := txs_take_le l0 (k + 1)
      rw [txs_take l0 k hlt, List.length_append] at hle
      obtain ⟨ad, e0, hx⟩ := Kd.at_string hr0 (k : Int) (by omega) (by omega)
      cases e0
      replace hx := (hb.cell (World.block_lt_of_cell? w _ hx)).trans hx
      have hrd : rdOf ByteArray.empty l0 (k : Int) = l0.getD k ByteArray.empty := by unfold rdOf; rw [Int.toNat_natCast]
      rw [hrd] at hx
      simp only [Int.toNat_natCast] at hx
      obtain ⟨s, hs⟩ : ∃ s, s = l0.getD k ByteArray.empty := ⟨_, rfl⟩
      rw [← hs] at hx hle HT
      clear hs hrd
      have hsz : s.data.toList.length = s.size := by rw [Array.length_toList, ByteArray.size_data]
      have htx : (tx s).length = (dd s.size).length + (1 + s.size) := by unfold tx; rw [List.length_append, List.length_cons]; omega
      have hit := Lib.itoa_nonneg s.size
      have hGPr := GP.below hGP hb
      have hIt := Tryd.strconv_Itoa (s.size : Int) (by omega) (by omega) wr hGPr
      rw [hit] at hIt
      obtain ⟨t, ht⟩ : ∃ t : ByteArray, t = ⟨(Lib.decDigits s.size).toArray⟩ := ⟨_, rfl⟩
      have hts : t.size = (dd s.size).length := by rw [ht]; show (List.toArray _).size = _; simp
      rw [← ht] at hIt
      have Ht := Lib.hid ht
      have i0 : (0 ≤ (k : Int)) = True := eq_true (by omega)
      have i3 : ((k : Int) < (l0.length : Int)) = True := eq_true (by omega)
      have s1 : t.size + 1 ≤ 9223372036854775807 := by omega
      have s2 : (t ++ (⟨#[58]⟩ : ByteArray)).size + s.size ≤ 9223372036854775807 := by rw [ByteArray.size_append]; show t.size + 1 + s.size ≤ _; omega
      have s3 : ((t ++ (⟨#[58]⟩ : ByteArray)) ++ s).size = (tx s).length := by rw [ByteArray.size_append, ByteArray.size_append, htx, hts]; show _ + 1 + s.size = _; omega
      have Hl := Lib.hid hle
      have Hs3 := Lib.hid s3
      clear hle hts htx ht hit s3 hsz
      go_wp2_with fail
      refine hIt.mono ?_
      rintro e w1 ⟨rfl, q, os, rfl⟩
      have hb1 := below_grown_sl wr.heap.size wr q os (Nat.le_refl _)
      have hB0 := bldF_below hB hb1
      have hb0 := below_then hb hb.size hb1
      have hBw0 := Nat.le_trans hBw hb1.size
      clear hB hb hBw hx
      generalize Sort.grow (wr.drewN q) os = w1 at hB0 hb0 hBw0 hb1 ⊢
      go_wp2_with fail
      refine (bld_string w.heap.size w.heap.size _ _ w1 hB0 ?_ hBw0).mono ?_
      · have h1 := Hl.out; have h3 := Hs3.out
        rw [Lib.byteCells_length, h3]; omega
      rintro e w2 ⟨rfl, hB1, hb2, -⟩
      go_wp2
      go_roundw
      case measure => simp [intOf]; omega
      case rel =>
        refine ⟨k + 1, by omega, by go_num, Nat.le_trans hBw0 hb2.size, .inr ?_, hb0.trans hb2⟩
        rw [HT.out]
        have e1 : Lib.byteCells (txs (l0.take k) ++ tx s) = Lib.byteCells (txs (l0.take k)) ++ Lib.strCells ((t ++ (⟨#[58]⟩ : ByteArray)) ++ s) := by
          have e2 : ((t ++ (⟨#[58]⟩ : ByteArray)) ++ s).data.toList = tx s := by
            rw [ByteArray.data_append, ByteArray.data_append, Ht.out]
            simp [tx]
          rw [Lib.strCells, e2]; simp [Lib.byteCells]
        rw [e1]
        exact hB1
    · obtain rfl : k = l0.length := by omega
      have d1 : decide (((l0.length : Nat) : Int) < (l0.length : Int)) = false := decide_eq_false (by omega)
      rw [List.take_length] at hB
      go_wp2_with fail
      refine (Tryd.Builder_String_any_k w.heap.size w.heap.size _ _ hB hBw).mono ?_
      rintro e w1 ⟨rfl, -, hb1, -⟩
      go_wp2
      go_ret
      exact ⟨rfl, hb.trans hb1⟩
def row_Texts.f (l0 : List ByteArray) : Option (ByteArray) := if (txs l0).length ≤ 140737488355328 then some ⟨(txs l0).toArray⟩ else none
theorem row_Texts.calls (A0 : Option Addr) (c0 : Nat) (l0 : List ByteArray) (r : ByteArray) (w : World) (hr0 : Kd.C Kd.string w A0 l0.length l0) (hc0 : l0.length ≤ c0) (h : row_Texts.f l0 = some r) (hGP : GP w) :
    Calls Tryd.prog 29 #[.slice A0 l0.length c0] w fun e w' => e = .returned (.string r) ∧ Below w.heap.size w w' := by
  unfold row_Texts.f at h
  split at h
  case isTrue hs =>
    obtain rfl := Option.some.inj h
    exact row_Texts.says A0 c0 l0 w hr0 hs hGP
  case isFalse hs => exact absurd h (by simp)

def link_Key.f (a0 : ByteArray) (a1 : ByteArray) : Option (ByteArray) := (row_Texts.f (([a0, a1] : List ByteArray))).bind fun t161 => (if 1 + t161.size ≤ 9223372036854775807 then (some ((⟨#[108]⟩ : ByteArray) ++ t161)) else (none))
set_option maxHeartbeats 8000000 in
set_option maxRecDepth 100000 in
theorem link_Key.calls (a0 : ByteArray) (a1 : ByteArray) (r : ByteArray) (w : World) (h : link_Key.f a0 a1 = some r) (hGP : GP w) :
    Calls Tryd.prog 15 #[.string a0, .string a1] w fun e w' => e = .returned (.string r) ∧ Below w.heap.size w w' := by
  have HGP := Aside0.mk hGP
  clear hGP
  have HB := Aside0.mk (Below.refl w.heap.size w)
  have H : ((row_Texts.f (([a0, a1] : List ByteArray))).bind fun t161 => (if 1 + t161.size ≤ 9223372036854775807 then (some ((⟨#[108]⟩ : ByteArray) ++ t161)) else (none))) = some r := h
  clear h
  obtain ⟨y158, hy158⟩ : ∃ y_ : List ByteArray, y_ = (([a0, a1] : List ByteArray)) := ⟨_, rfl⟩
  replace H : ((row_Texts.f y158).bind fun t161 => (if 1 + t161.size ≤ 9223372036854775807 then (some ((⟨#[108]⟩ : ByteArray) ++ t161)) else (none))) = some r := by first | (rw [hy158]; with_reducible exact H) | (have H2_ := (Option.bind_some _ _).symm.trans H; rw [hy158]; with_reducible exact H2_) | (have H2_ := (Option.bind_some _ _).symm.trans H; with_reducible exact H2_) | with_reducible exact H | (rw [hy158]; exact H) | exact H
  have Ny158 := Aside0.mk hy158
  clear hy158
  replace H := Option.bind_eq_some_iff.mp H
  obtain ⟨t161, A30, H⟩ := H
  replace H : (if 1 + t161.size ≤ 9223372036854775807 then (some ((⟨#[108]⟩ : ByteArray) ++ t161)) else (none)) = some r := H
  have A3 := Aside0.mk A30
  clear A30
  by_cases c4 : 1 + t161.size ≤ 9223372036854775807
  · rw [if_pos c4] at H
    have c4b0 := eq_true c4
    have c4b1 : decide (1 + t161.size ≤ 9223372036854775807) = true := decide_eq_true c4
    try have c4b2 : (9223372036854775807 < 1 + t161.size) = False := eq_false (Nat.not_lt.2 c4)
    obtain rfl := Option.some.inj H
    go_enter Tryd.func15, Tryd.ntmps15
    go_wp2_with (first | ((with_reducible refine gate_dst (N := 7) rfl ?_); refine Kd.R_lit Kd.string _ 9 ?hg (N := 7) ?hd (xs := ([a0, a1] : List ByteArray)) (inner := [.string a0, .string a1]) (ok := fun _ => True) (okp := fun _ => True) ?hr ?hp (fun _ hk => hk) trivial (Below.refl _ _) (Nat.le_refl _) (by simp) ?_; (case hd => rfl); (case hg => rfl); (case hr => first | (go_simp; done) | (go_simp; rfl)); (case hp => exact (Reps.one (show Kd.M Kd.string _ _ _ a0 [.string a0] from rfl) (Reps.one (show Kd.M Kd.string _ _ _ a1 [.string a1] from rfl) (Reps.none _ _)))); intro v159 w5 ho6 hb hg_ hnew_; clear hg_ hnew_; (first | rw [← Ny158.out] at ho6 | (simp only [Int.reduceToNat] at ho6; rw [← Ny158.out] at ho6)); have n0_ := Aside0.mk (Kd.R_lower ho6 (below_size (by repeat (first | (with_reducible first | exact HB.out | apply below_alloc | apply pw_below_drewN | apply below_drew1) | exact HB.out)))); have n1_ := Aside0.mk (below_step (by repeat (first | (with_reducible first | exact HB.out | apply below_alloc | apply pw_below_drewN | apply below_drew1) | exact HB.out)) hb); clear HB; have HO160 := n0_; have HB := n1_; clear n0_ n1_; clear hb ho6; obtain ⟨Ao7, co7, eo7⟩ := Kd.R_slice HO160.out; subst eo7) | ((with_reducible refine gate_callee (f := 29) rfl ?_); refine goesL_ (some 8) rfl rfl Tryd.func29 (by kernel_rfl) rfl #[.slice Ao7 y158.length co7] rfl (by (try simp only [List.map_toArray, List.map_cons, List.map_nil]); first | done | rfl | (simp only [List.length_drop, List.length_take]; rfl)) ?_; (with_reducible refine (row_Texts.calls _ _ y158 t161 _ ?side1 ?side2 A3.out (GP.below HGP.out (by repeat (first | (with_reducible first | exact HB.out | apply below_alloc | apply pw_below_drewN | apply below_drew1) | exact HB.out)))).mono ?_); (case side1 => repeat (first | exact (Kd.R_reads' HO160.out).2.2 | (with_reducible refine Kd.C_alloc ?_ _) | (with_reducible refine Kd.C_drewN ?_ _) | (with_reducible refine Kd.C_drew ?_))); (case side2 => exact (Kd.R_reads' HO160.out).2.1); rintro e w8 ⟨rfl, hb⟩; refine ⟨_, rfl, ?_⟩; have n0_ := Aside0.mk (Kd.R_below (by (with_reducible repeat (first | apply Kd.R_alloc | apply Kd.R_drewN | apply Kd.R_drew)); exact HO160.out) hb); have n1_ := Aside0.mk (below_step (by repeat (first | (with_reducible first | exact HB.out | apply below_alloc | apply pw_below_drewN | apply below_drew1) | exact HB.out)) hb); clear HO160; clear HB; have HO160 := n0_; have HB := n1_; clear n0_ n1_; (try clear hb); (try clear hb2); (try clear hk); (try clear hi)))
    go_ret
    exact ⟨by first | rfl | (simp [errW_none, errW_some] <;> rfl) | (simp [*, errW_none, errW_some] <;> rfl), by repeat (first | (with_reducible first | exact HB.out | apply below_alloc | apply pw_below_drewN | apply below_drew1) | exact HB.out)⟩
  · rw [if_neg c4] at H
    exact absurd H (by simp)

-- NOT PRINTED: function 25 (store_Store_Get)

-- NOT PRINTED: function 13 (link_Find)

-- NOT PRINTED: function 14 (store_Store_Keys)

-- NOT PRINTED: function 7 (link_Resolve)

-- NOT PRINTED: function 6 (exequaturlaw15_answers)

-- NOT PRINTED: function 3 (exequaturlaw15_LinkFull)

-- NOT PRINTED: function 9 (link_Remove)

-- NOT PRINTED: function 4 (exequaturlaw15_LinkTwice)

end Go.Proofs.YtpoblffgclmmlaaDoor.Q
end
