-- Written by a program of this session (wip/xprint.py) over the kit's print.py; Lean checks it.
import Derived.Test.YtkmokcfnfhabgaaDoorQ0
import Derived.Test.YtkmokcfnfhabgaaDoorQ1
import Derived.Test.YtkmokcfnfhabgaaDoorQ2
namespace Go.Proofs.YtkmokcfnfhabgaaDoor.Q
open Go.RowKit Go.Proofs.YtkmokcfnfhabgaaDoorW.PrintWords Go.Proofs.YtkmokcfnfhabgaaDoorW.PrintLast Go.Proofs.YtkmokcfnfhabgaaDoorW.PrintMore
attribute [local go_sem] max2_int min2_int max_two min_two max_three min_three max_four min_four   -- for this text's walks alone
open Go.Proofs.YtkmokcfnfhabgaaDoor.X
set_option linter.unusedVariables false
set_option linter.unusedSimpArgs false

/-! ### frame_Split: function 30, by hand -/
theorem oneL_fits (l : List Int) (h : (oneL l).2 = true) : 8 + (oneL l).1.length ≤ l.length := by
 unfold oneL at h ⊢
 split
 ·
  rename_i h1; rw [if_pos h1] at h; cases h
 ·
  rename_i h1
  rw [if_neg h1] at h
  split
  ·
   rename_i h2; rw [if_pos h2] at h; cases h
  ·
   rename_i h2
   have hr := (getL_range (l.take 4)).1
   show 8 + ((l.drop 8).take (getL (l.take 4)).toNat).length ≤ _
   rw [List.length_take, List.length_drop]; omega
/-- What is in all frames from a place on, and where they end. -/
def splitF : Nat → List Int → Nat → List (List Int) × Nat
 | 0, _, i => ([], i)
 | k + 1, l, i => if (oneL (l.drop i)).2 = true then ((oneL (l.drop i)).1 :: (splitF k l (i + 8 + (oneL (l.drop i)).1.length)).1, (splitF k l (i + 8 + (oneL (l.drop i)).1.length)).2) else ([], i)
def splitL (l : List Int) : List (List Int) × Nat := splitF (l.length + 1) l 0
/-- A cut of a row of bytes from a place on. -/
theorem drop_row {w : World} {A : Option Addr} {l : List Int} {c : Nat} (h : Kd.C (Kd.int .u8) w A l.length l) (hc : l.length ≤ c) (lo : Nat) (h1 : lo ≤ l.length) :
  ∃ Ad cd, (∀ W, Sem.run Tryd.prog (Instr.slice 22 (.slice A l.length c) (some (.int .i64 (lo : Int))) none none) W = .ok (.slice Ad (l.drop lo).length cd) W) ∧ Kd.C (Kd.int .u8) w Ad (l.drop lo).length (l.drop lo) ∧ (l.drop lo).length ≤ cd := by
 obtain ⟨i05, hi05, _, hsz5, _⟩ := info_parts (show (Tryd.prog.info? 5).map (fun i => (i.zero, i.size, i.bytes)) = some (some (.int .u8 0), 1, 1) by kernel_rfl)
 have hcut := cut_from (P := Tryd.prog) 22 5 .i64 Tryd.underlying22 hi05 1 hsz5 A l.length c (lo : Int) (by omega) (by omega)
 simp only [Int.toNat_natCast] at hcut
 have hd : (l.drop lo).length = l.length - lo := List.length_drop
 have hC := Kd.C_drop h (m := lo) (c := c) h1 hc
 exact ⟨_, _, by rw [hd]; exact hcut, hC, by rw [hd]; omega⟩
set_option maxHeartbeats 4000000 in
set_option maxRecDepth 100000 in
theorem frame_Split.says (A0 : Option Addr) (c0 : Nat) (l0 : List Int) (w : World) (hr0 : Kd.C (Kd.int .u8) w A0 l0.length l0) (hc0 : l0.length ≤ c0) (hl : l0.length ≤ 100000000) (hGL : GL w) :
  Calls Tryd.prog 30 #[.slice A0 l0.length c0] w fun e w' => ∃ v0_ : Value, e = .returned (.tuple #[v0_, .int .i64 ((splitL l0).2 : Int)]) ∧ Kd.S (Kd.slice 5 (Kd.int .u8)) 22 w' w.heap.size (fun _ => True) v0_ (splitL l0).1 ∧ Below w.heap.size w w' := by
 go_enter Tryd.func30, Tryd.ntmps30
 go_upto_region 3 with fail
 go_loopw [4, 5] (fun v4 v5 wr => ∃ (i k : Nat) (out : List (List Int)), v5 = .int .i64 i ∧ i ≤ l0.length ∧ l0.length < i + k ∧ out.length ≤ i ∧ Kd.S (Kd.slice 5 (Kd.int .u8)) 22 wr w.heap.size (fun _ => True) v4 out ∧ Below w.heap.size w wr ∧ splitL l0 = (out ++ (splitF k l0 i).1, (splitF k l0 i).2)) (fun _ v5 _ => l0.length - (intOf v5).toNat)
 case atStart => exact ⟨0, l0.length + 1, [], rfl, by omega, by omega, by simp, Kd.S_nil _ _ _ _ _, Below.refl _ _, rfl⟩
 case round =>
  obtain ⟨i, k, out, rfl, hi, hk, hout, hr, hb, hsp⟩ := hrel
  obtain ⟨k, rfl⟩ : ∃ m, k = m + 1 := ⟨k - 1, by omega⟩
  have hC := Kd.C_below hr0 hb
  obtain ⟨Ad, cd, hcut, hCd, hcd⟩ := drop_row hC hc0 i hi
  have hsp2 : splitF (k + 1) l0 i = if (oneL (l0.drop i)).2 = true then ((oneL (l0.drop i)).1 :: (splitF k l0 (i + 8 + (oneL (l0.drop i)).1.length)).1, (splitF k l0 (i + 8 + (oneL (l0.drop i)).1.length)).2) else ([], i) := rfl
  have hdl : (l0.drop i).length = l0.length - i := List.length_drop
  obtain ⟨D, hD⟩ : ∃ D, D = l0.drop i := ⟨_, rfl⟩
  rw [← hD] at hcut hCd hcd hsp2 hdl
  have Hdl := Lib.hid hdl
  clear hdl hD
  go_wp2_with fail
  refine (frame_one.says Ad cd D wr hCd hcd (by have := (show D.length = l0.length - i from Hdl); omega) (hGL.below hb)).mono ?_
  rintro e w2 ⟨Ai, ci, rfl, hCi, hci, hb2⟩
  have hr2 := Kd.S_below hr hb2
  have hb2t := below_then hb hb.size hb2
  have hfit := oneL_fits D
  obtain ⟨inn, hinn⟩ : ∃ inn, inn = (oneL D).1 := ⟨_, rfl⟩
  rw [← hinn] at hCi hci hsp2 hfit ⊢
  have Hsp2 := Lib.hid hsp2
  have Hsp := Lib.hid hsp
  clear hcut hCd hcd hsp hsp2 hr hb hb2 hC hinn
  cases hok : (oneL D).2 with
  | false =>
   go_wp2_with fail
   go_ret2
   have h1 : splitL l0 = (out, i) := by
    rw [(show splitL l0 = (out ++ (splitF (k + 1) l0 i).1, (splitF (k + 1) l0 i).2) from Hsp), (show splitF (k + 1) l0 i = _ from Hsp2), if_neg (by rw [hok]; decide)]
    simp
   exact ⟨_, by rw [h1]; rfl, by rw [h1]; exact hr2, hb2t⟩
  | true =>
   have hf := hfit hok
   have hdl : D.length = l0.length - i := Hdl
   have hsz2 : w.heap.size ≤ w2.heap.size := hb2t.size
   have LA := Lib.hid (show (([] : List Int).length + inn.length) * 1 ≤ 140737488355328 by rw [List.length_nil]; omega)
   have LB := Lib.hid (show (out.length + 1) * 24 ≤ 140737488355328 by omega)
   obtain ⟨A4, c4, e4⟩ := Kd.S_slice hr2
   subst e4
   have e1 : IntKind.i64.wrap (8 + (inn.length : Int)) = 8 + (inn.length : Int) := IntWalk.i64_in _ (by omega)
   have e2 : IntKind.i64.wrap ((i : Int) + (8 + (inn.length : Int))) = (i : Int) + (8 + (inn.length : Int)) := IntWalk.i64_in _ (by omega)
   have hi2 : i + 8 + inn.length ≤ l0.length := by omega
   clear hf hdl hfit
   go_wp2_with (first
    | ((with_reducible refine gate_builtin (b := .append) (xs := #[.const (.slice none 0 0), .tmp 20]) rfl ?_); at_builtin; refine Kd.R_append_rows (Kd.int .u8) (w0 := w2) w2.heap.size rfl (.const (.slice none 0 0)) (.tmp 20) 22 5 (.int .u8 0) 1 rfl Tryd.underlying22 rfl rfl (by decide) (by omega) (.slice none 0 0) [] inn _ _ _ (fun _ => True) (fun _ => False) rfl rfl (Kd.R_nil _ _ _ _ _) hCi (fun _ _ h => h) (fun _ h => h.elim) (fun _ _ => trivial) (Below.refl _ _) (Nat.le_refl _) LA ?_; intro v21 w3 ho3 hb3 hg3 hat3; clear hg3 hat3; rw [List.nil_append] at ho3; obtain ⟨A21, c21, e21⟩ := Kd.R_slice ho3; subst e21)
    | ((with_reducible refine gate_builtin (b := .append) (xs := #[.tmp 19, .tmp 22]) rfl ?_); at_builtin; refine Kd.S_append (Kd.slice 5 (Kd.int .u8)) (w0 := w) w.heap.size rfl (.tmp 19) (.tmp 22) 69 22 (.slice none 0 0) 24 rfl Tryd.underlying69 rfl rfl (by decide) (by omega) (.slice A4 out.length c4) out inn [.slice A21 inn.length c21] (fun _ => True) (fun k => (True ∧ some k ≠ (.slice A4 out.length c4 : Value).ownBlock) ∧ w2.heap.size ≤ k) rfl rfl ⟨_, rfl, Kd.R_lower (Kd.R_mono (Kd.R_bound (Kd.R_new' ho3 (Kd.S_lt hr2))) (fun _ hk => ⟨hk.1, hk.2.1⟩)) hsz2⟩ (fun _ h => h.1) (fun _ _ => trivial) (Kd.S_mono (Kd.S_below (Kd.S_bound hr2) hb3) (fun k hk => ⟨trivial, fun h2 => Nat.lt_irrefl k (Nat.lt_of_lt_of_le hk.2.2.1 h2.2)⟩)) (below_then hb2t hsz2 hb3) (Nat.le_trans hsz2 hb3.size) LB ?_; intro v23 w4 ho4 hb4 hg4 hat4; clear hg4 hat4))
   refine ⟨⟨i + 8 + inn.length, k, out ++ [inn], by rw [show ((i + 8 + inn.length : Nat) : Int) = (i : Int) + (8 + (inn.length : Int)) by omega], hi2, by omega, by rw [List.length_append, List.length_singleton]; omega, ho4, hb4, ?_⟩, by simp only [intOf]; omega⟩
   rw [(show splitL l0 = (out ++ (splitF (k + 1) l0 i).1, (splitF (k + 1) l0 i).2) from Hsp), (show splitF (k + 1) l0 i = _ from Hsp2), if_pos hok, List.append_assoc]
   rfl
def frame_Split.f (l0 : List Int) : Option (List (List Int) × Int) := if l0.length ≤ 100000000 then some ((splitL l0).1, ((splitL l0).2 : Int)) else none
theorem frame_Split.calls (A0 : Option Addr) (c0 : Nat) (l0 : List Int) (r1 : List (List Int)) (r2 : Int) (w : World) (hr0 : Kd.C (Kd.int .u8) w A0 l0.length l0) (hc0 : l0.length ≤ c0) (h : frame_Split.f l0 = some (r1, r2)) (hGL : GL w) :
  Calls Tryd.prog 30 #[.slice A0 l0.length c0] w fun e w' => ∃ v0_ : Value, e = .returned (.tuple #[v0_, .int .i64 r2]) ∧ Kd.S (Kd.slice 5 (Kd.int .u8)) 22 w' w.heap.size (fun _ => True) v0_ r1 ∧ Below w.heap.size w w' := by
 unfold frame_Split.f at h
 split at h
 case isTrue hs =>
  simp only [Option.some.injEq, Prod.mk.injEq] at h
  obtain ⟨rfl, rfl⟩ := h
  exact frame_Split.says A0 c0 l0 w hr0 hc0 hs hGL
 case isFalse hs => exact absurd h (by simp)

/-! ### store_number: function 50 -/
def store_number.f (l0 : List Int) (a1 : Int) : Option (List Int) := (be_Put.f l0 ((a1) % 4294967296)).bind fun t121 => (some t121)
set_option maxHeartbeats 8000000 in
set_option maxRecDepth 100000 in
theorem store_number.calls (P0_ : Nat → Prop) (u9000_ : Value) (l0 : List Int) (a1 : Int) (r : List Int) (w0 w : World) (hB : Below w0.heap.size w0 w) (ho0 : Kd.R (Kd.int .u8) 5 w w0.heap.size P0_ u9000_ l0) (h : store_number.f l0 a1 = some r) :
  Calls Tryd.prog 50 #[u9000_, .int .i64 a1] w fun e w' => ∃ v0_ : Value, e = .returned (v0_) ∧ Kd.R (Kd.int .u8) 5 w' w0.heap.size (fun k_ => (P0_ k_ ∨ w.heap.size ≤ k_)) v0_ r ∧ Below w0.heap.size w0 w' ∧ Kept w w' (fun k_ => P0_ k_) := by
 have HO0 := Aside0.mk (show Kd.R (Kd.int .u8) 5 w w0.heap.size (fun k_ => (P0_ k_ ∨ w.heap.size ≤ k_)) u9000_ l0 from Kd.R_mono ho0 (fun k_ hk => (.inl hk)))
 have HK := Aside0.mk (Kept.refl w (fun k_ => P0_ k_))
 have HW0 := Aside0.mk hB.size
 have HB := Aside0.mk hB
 clear hB
 have H : ((be_Put.f l0 ((a1) % 4294967296)).bind fun t121 => (some t121)) = some r := h
 clear h
 replace H := Option.bind_eq_some_iff.mp H
 obtain ⟨t121, A30, H⟩ := H
 replace H : (some t121) = some r := H
 have A3 := Aside0.mk A30
 clear A30
 obtain rfl := Option.some.inj H
 obtain ⟨Ao4, co4, eo4⟩ := Kd.R_slice HO0.out
 subst eo4
 go_enter Tryd.func50, Tryd.ntmps50
 go_wp2_with (first | ((with_reducible refine gate_callee (f := 51) rfl ?_); refine goesL_ (some 8) rfl rfl Tryd.func51 (by kernel_rfl) rfl #[.slice Ao4 l0.length co4, .int .u32 ((a1) % 4294967296)] rfl (by (try simp only [List.map_toArray, List.map_cons, List.map_nil]); first | done | rfl | (simp only [List.length_drop, List.length_take]; rfl)) ?_; (with_reducible refine (be_Put.calls (fun k_ => some k_ = (.slice Ao4 l0.length co4 : Value).ownBlock) (.slice Ao4 l0.length co4) l0 ((a1) % 4294967296) t121 w0 _ ?side1 ?side2 A3.out).mono ?_); (case side1 => repeat (first | (with_reducible first | exact HB.out | apply below_alloc | apply pw_below_drewN | apply below_drew1) | exact HB.out)); (case side2 => exact Kd.R_tight rfl HO0.out); rintro e w5 ⟨v122, rfl, ho0, hb, hkp⟩; refine ⟨_, rfl, ?_⟩; have n0_ := Aside0.mk (Kd.R_mono (ok' := fun k_ => (P0_ k_ ∨ w.heap.size ≤ k_)) ho0 (fun k_ hk_ => Or.elim hk_ (fun hs_ => (HO0.out.1 k_ (hs_).symm)) (fun hn_ => (.inr (Nat.le_trans (by first | exact HK.out.1 | exact (show Kept w _ (fun k_ => P0_ k_) from by repeat (first | (with_reducible first | exact HK.out | apply Kept.alloc | apply Kept.drewN | apply Kept.drew) | exact HK.out)).1) hn_))))); have n1_ := Aside0.mk (Kept.then_ (S := (fun k_ => P0_ k_)) (by repeat (first | (with_reducible first | exact HK.out | apply Kept.alloc | apply Kept.drewN | apply Kept.drew) | exact HK.out)) hkp (fun k_ hs_ => (fun e_ => (HO0.out.1 k_ e_.symm)) hs_)); have n2_ := Aside0.mk (hb); clear HK; clear HB; clear HO0; have HO123 := n0_; have HK := n1_; have HB := n2_; clear n0_ n1_ n2_; (try clear hb); (try clear hkp); (try clear ho0)))
 go_ret
 exact ⟨_, by first | rfl | (simp [errW_none, errW_some] <;> rfl) | (simp [*, errW_none, errW_some] <;> rfl), by (with_reducible repeat (first | apply Kd.R_alloc | apply Kd.R_drewN | apply Kd.R_drew)); exact HO123.out, by repeat (first | (with_reducible first | exact HB.out | apply below_alloc | apply pw_below_drewN | apply below_drew1) | exact HB.out), by repeat (first | (with_reducible first | exact HK.out | apply Kept.alloc | apply Kept.drewN | apply Kept.drew) | exact HK.out)⟩

-- NOT PRINTED: function 35 (store_record)

-- NOT PRINTED: function 43 (store_reader_number)

-- NOT PRINTED: function 44 (store_reader_text)

-- NOT PRINTED: function 31 (store_changes)

-- NOT PRINTED: function 61 (maps_clone)

-- NOT PRINTED: function 45 (maps_Clone_map_string_string_string_string)

-- NOT PRINTED: function 32 (store_turned)

-- NOT PRINTED: function 13 (store_Open)

-- NOT PRINTED: function 17 (store_Store_Get)

/-! ### frame_Frame: function 36, by hand -/
/-- Bytes in a frame. -/
def frameL (l : List Int) : List Int := four (l.length : Int) ++ markL (strOfNums (four (l.length : Int)) ++ strOfNums l) ++ l
set_option maxHeartbeats 4000000 in
set_option maxRecDepth 100000 in
theorem frame_Frame.says (A0 : Option Addr) (c0 : Nat) (l0 : List Int) (w : World) (hr0 : Kd.C (Kd.int .u8) w A0 l0.length l0) (hc0 : l0.length ≤ c0) (hl : l0.length ≤ 100000000) (hGL : GL w) :
  Calls Tryd.prog 36 #[.slice A0 l0.length c0] w fun e w' => ∃ v0_ : Value, e = .returned (v0_) ∧ Kd.R (Kd.int .u8) 5 w' w.heap.size (fun _ => True) v0_ (frameL l0) ∧ Below w.heap.size w w' := by
 go_enter Tryd.func36, Tryd.ntmps36
 go_wp2_with fail
 have eu : IntKind.u32.wrap (l0.length : Int) = (l0.length : Int) := by rw [IntKind.wrap_u32]; omega
 have hp := put_is [] (l0.length : Int) (by rw [List.length_nil]; omega)
 refine (be_Put.calls (fun _ => True) (.slice none 0 0) [] (l0.length : Int) ([] ++ four (l0.length : Int)) w w (Below.refl _ _) (Kd.R_nil _ _ _ _ _) hp).mono ?_
 rintro e w1 ⟨v1, rfl, hr1, hb1, -⟩
 have hr1' := Kd.R_mono (ok' := fun _ => True) hr1 (fun _ _ => trivial)
 rw [List.nil_append] at hr1'
 clear hr1
 obtain ⟨z, hz⟩ : ∃ z, z = four (l0.length : Int) := ⟨_, rfl⟩
 have hzl : z.length = 4 := by rw [hz]; rfl
 rw [← hz] at hr1'
 obtain ⟨A1, c1, e1⟩ := Kd.R_slice hr1'
 subst e1
 have hrd := Kd.R_reads' hr1'
 have Hz := Lib.hid hz
 have Hzl := Lib.hid hzl
 clear hz hzl
 go_wp2_with fail
 have hzl : z.length = 4 := Hzl
 refine (frame_mark.says A1 A0 c1 c0 z l0 w1 hrd.2.2 (Kd.C_below hr0 hb1) (by omega) (hGL.below hb1)).mono ?_
 rintro e w2 ⟨rfl, hb2⟩
 have hr2 := Kd.R_below hr1' hb2
 have hb2t := below_then hb1 hb1.size hb2
 obtain ⟨m, hm⟩ : ∃ m, m = markL (strOfNums z ++ strOfNums l0) := ⟨_, rfl⟩
 have hml : m.length = 4 := by rw [hm]; exact markL_length _
 rw [← hm]
 have Hm := Lib.hid hm
 clear hm hrd hr1' hb2 hzl
 go_upto_region 3 with (refine arr_store (arr_new w2 101 (List.replicate 4 0) rfl) m (by rw [hml]; rfl) 101 (.tmp 4) (.tmp 11) rfl rfl rfl rfl (by rw [hml]; rfl) ?_)
 refine wp_world ?_
 intro w3 hw3
 have hM3 : ArrK .u8 w3 w2.heap.size 101 m := by rw [hw3]; exact arr_setRow (arr_new w2 101 (List.replicate 4 0) rfl) _
 have hb3 : Below w2.heap.size w2 w3 := by rw [hw3]; exact below_setRow ((Below.refl _ _).alloc (Nat.le_refl _) _) (Nat.le_refl _) _
 clear hw3
 have hr3 := Kd.R_below hr2 hb3
 have hb3t := below_then hb2t hb2t.size hb3
 have hC3 := Kd.C_below hr0 hb3t
 clear hr2 hb2t hC3
 have Hml := Lib.hid hml
 clear hml
 have hml : m.length = 4 := Hml
 have hRm := arr_C hM3 (by omega) 4 hml
 have hzl : z.length = 4 := Hzl
 have LA := Lib.hid (show (z.length + 4) * 1 ≤ 140737488355328 by omega)
 have LB := Lib.hid (show ((z ++ m).length + l0.length) * 1 ≤ 140737488355328 by rw [List.length_append]; omega)
 clear hml hzl
 have hsz3 : w.heap.size ≤ w3.heap.size := hb3t.size
 go_wp2_with (first
  | ((with_reducible refine gate_builtin (b := .append) (xs := #[.tmp 12, .tmp 13]) rfl ?_); at_builtin; refine Kd.R_append_rows (Kd.int .u8) (w0 := w) w.heap.size rfl (.tmp 12) (.tmp 13) 22 5 (.int .u8 0) 1 rfl Tryd.underlying22 rfl rfl (by decide) (by omega) (.slice A1 z.length c1) z m _ _ _ (fun _ => True) (fun _ => False) rfl rfl hr3 hRm (fun _ _ h => h) (fun _ h => h.elim) (fun _ _ => trivial) hb3t hsz3 LA ?_; intro v4 w4 ho4 hb4 hg4 hat4; clear hg4 hat4 hr3 hRm hM3; have hC4 := Kd.C_below hr0 hb4; have hsz4 : w.heap.size ≤ w4.heap.size := hb4.size)
  | ((with_reducible refine gate_builtin (b := .append) (xs := #[.tmp 14, .tmp 15]) rfl ?_); at_builtin; refine Kd.R_append_rows (Kd.int .u8) (w0 := w) w.heap.size rfl (.tmp 14) (.tmp 15) 22 5 (.int .u8 0) 1 rfl Tryd.underlying22 rfl rfl (by decide) (by omega) v4 (z ++ m) l0 _ _ _ (fun _ => True) (fun _ => False) rfl rfl ho4 hC4 (fun _ _ h => h) (fun _ h => h.elim) (fun _ _ => trivial) hb4 hsz4 LB ?_; intro v5 w5 ho5 hb5 hg5 hat5; clear hg5 hat5))
 go_ret
 exact ⟨_, rfl, by rw [show frameL l0 = z ++ m ++ l0 by rw [frameL, ← (show z = four (l0.length : Int) from Hz), ← (show m = markL (strOfNums z ++ strOfNums l0) from Hm)]]; exact ho5, hb5⟩
def frame_Frame.f (l0 : List Int) : Option (List Int) := if l0.length ≤ 100000000 then some (frameL l0) else none
theorem frame_Frame.calls (A0 : Option Addr) (c0 : Nat) (l0 : List Int) (r : List Int) (w : World) (hr0 : Kd.C (Kd.int .u8) w A0 l0.length l0) (hc0 : l0.length ≤ c0) (h : frame_Frame.f l0 = some r) (hGL : GL w) :
  Calls Tryd.prog 36 #[.slice A0 l0.length c0] w fun e w' => ∃ v0_ : Value, e = .returned (v0_) ∧ Kd.R (Kd.int .u8) 5 w' w.heap.size (fun _ => True) v0_ r ∧ Below w.heap.size w w' := by
 unfold frame_Frame.f at h
 split at h
 case isTrue hs =>
  obtain rfl := Option.some.inj h
  exact frame_Frame.says A0 c0 l0 w hr0 hc0 hs hGL
 case isFalse hs => exact absurd h (by simp)

-- NOT PRINTED: function 65 (slices_AppendSeq_string_string)

-- NOT PRINTED: function 56 (slices_Collect_string)

/-! ### cmp_isNaN_string: function 91 -/
def cmp_isNaN_string.f (a0 : ByteArray) : Option (Bool) := some (a0.toList != a0.toList)
set_option maxHeartbeats 8000000 in
set_option maxRecDepth 100000 in
theorem cmp_isNaN_string.calls (a0 : ByteArray) (r : Bool) (w : World) (h : cmp_isNaN_string.f a0 = some r) :
  Calls Tryd.prog 91 #[.string a0] w fun e w' => e = .returned (.bool r) ∧ Drawn0 w w' := by
 have H : (some (a0.toList != a0.toList)) = some r := h
 clear h
 obtain rfl := Option.some.inj H
 go_enter Tryd.func91, Tryd.ntmps91
 go_wp2
 go_ret
 exact ⟨by first | rfl | (simp; done) | (simp [*]; done), by repeat (first | exact Drawn0.refl _ | apply Drawn0.step)⟩

/-! ### cmp_Less_string: function 77 -/
def cmp_Less_string.f (a0 : ByteArray) (a1 : ByteArray) : Option (Bool) := (cmp_isNaN_string.f a0).bind fun t161 => (if t161 = true then ((cmp_isNaN_string.f a1).bind fun t162 => (if t162 = true then (some (Op.bytesLess a0.toList a1.toList)) else (some true))) else (some (Op.bytesLess a0.toList a1.toList)))
set_option maxHeartbeats 8000000 in
set_option maxRecDepth 100000 in
theorem cmp_Less_string.calls (a0 : ByteArray) (a1 : ByteArray) (r : Bool) (w : World) (h : cmp_Less_string.f a0 a1 = some r) :
  Calls Tryd.prog 77 #[.string a0, .string a1] w fun e w' => e = .returned (.bool r) ∧ Drawn0 w w' := by
 have H : ((cmp_isNaN_string.f a0).bind fun t161 => (if t161 = true then ((cmp_isNaN_string.f a1).bind fun t162 => (if t162 = true then (some (Op.bytesLess a0.toList a1.toList)) else (some true))) else (some (Op.bytesLess a0.toList a1.toList)))) = some r := h
 clear h
 replace H := Option.bind_eq_some_iff.mp H
 obtain ⟨t161, A30, H⟩ := H
 replace H : (if t161 = true then ((cmp_isNaN_string.f a1).bind fun t162 => (if t162 = true then (some (Op.bytesLess a0.toList a1.toList)) else (some true))) else (some (Op.bytesLess a0.toList a1.toList))) = some r := H
 have A3 := Aside0.mk A30
 clear A30
 by_cases c4 : t161 = true
 ·
  subst c4
  have H1 : ((cmp_isNaN_string.f a1).bind fun t162 => (if t162 = true then (some (Op.bytesLess a0.toList a1.toList)) else (some true))) = some r := by rw [if_pos rfl] at H; exact H
  clear H
  have H := H1
  clear H1
  replace H := Option.bind_eq_some_iff.mp H
  obtain ⟨t162, A50, H⟩ := H
  replace H : (if t162 = true then (some (Op.bytesLess a0.toList a1.toList)) else (some true)) = some r := H
  have A5 := Aside0.mk A50
  clear A50
  by_cases c6 : t162 = true
  ·
   subst c6
   have H1 : (some (Op.bytesLess a0.toList a1.toList)) = some r := by rw [if_pos rfl] at H; exact H
   clear H
   have H := H1
   clear H1
   obtain rfl := Option.some.inj H
   go_enter Tryd.func77, Tryd.ntmps77
   go_wp2_with (first | ((with_reducible refine gate_callee (f := 91) rfl ?_); refine goesL_ (some 6) rfl rfl Tryd.func91 (by kernel_rfl) rfl #[.string a0] rfl (by (try simp only [List.map_toArray, List.map_cons, List.map_nil]); first | done | rfl | (simp only [List.length_drop, List.length_take]; rfl)) ?_; (with_reducible refine (cmp_isNaN_string.calls a0 true _ A3.out).mono ?_); rintro e w' ⟨rfl, ⟨nd, rfl⟩⟩; refine ⟨_, rfl, ?_⟩) | (go_at_call 91; (with_reducible refine (cmp_isNaN_string.calls a1 true _ A5.out).mono ?_); rintro e w' ⟨rfl, ⟨nd, rfl⟩⟩))
   go_ret
   exact ⟨by first | rfl | (simp; done) | (simp [*]; done), by repeat (first | exact Drawn0.refl _ | apply Drawn0.step)⟩
  ·
   replace c6 := Bool.eq_false_iff.mpr c6
   subst c6
   have H1 : (some true) = some r := by rw [if_neg (show ¬ (false = true) by decide)] at H; exact H
   clear H
   have H := H1
   clear H1
   obtain rfl := Option.some.inj H
   go_enter Tryd.func77, Tryd.ntmps77
   go_wp2_with (first | ((with_reducible refine gate_callee (f := 91) rfl ?_); refine goesL_ (some 6) rfl rfl Tryd.func91 (by kernel_rfl) rfl #[.string a0] rfl (by (try simp only [List.map_toArray, List.map_cons, List.map_nil]); first | done | rfl | (simp only [List.length_drop, List.length_take]; rfl)) ?_; (with_reducible refine (cmp_isNaN_string.calls a0 true _ A3.out).mono ?_); rintro e w' ⟨rfl, ⟨nd, rfl⟩⟩; refine ⟨_, rfl, ?_⟩) | (go_at_call 91; (with_reducible refine (cmp_isNaN_string.calls a1 false _ A5.out).mono ?_); rintro e w' ⟨rfl, ⟨nd, rfl⟩⟩))
   go_ret
   exact ⟨by first | rfl | (simp; done) | (simp [*]; done), by repeat (first | exact Drawn0.refl _ | apply Drawn0.step)⟩
 ·
  replace c4 := Bool.eq_false_iff.mpr c4
  subst c4
  have H1 : (some (Op.bytesLess a0.toList a1.toList)) = some r := by rw [if_neg (show ¬ (false = true) by decide)] at H; exact H
  clear H
  have H := H1
  clear H1
  obtain rfl := Option.some.inj H
  go_enter Tryd.func77, Tryd.ntmps77
  go_wp2_with (first | ((with_reducible refine gate_callee (f := 91) rfl ?_); refine goesL_ (some 6) rfl rfl Tryd.func91 (by kernel_rfl) rfl #[.string a0] rfl (by (try simp only [List.map_toArray, List.map_cons, List.map_nil]); first | done | rfl | (simp only [List.length_drop, List.length_take]; rfl)) ?_; (with_reducible refine (cmp_isNaN_string.calls a0 false _ A3.out).mono ?_); rintro e w' ⟨rfl, ⟨nd, rfl⟩⟩; refine ⟨_, rfl, ?_⟩))
  go_ret
  exact ⟨by first | rfl | (simp; done) | (simp [*]; done), by repeat (first | exact Drawn0.refl _ | apply Drawn0.step)⟩

end Go.Proofs.YtkmokcfnfhabgaaDoor.Q
