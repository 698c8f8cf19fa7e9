-- Written by a program of this session (wip/xprint.py) over the kit's print.py; Lean checks it.
import Derived.Test.YtkmnbnfkpccobaaDoorQ0
namespace Go.Proofs.YtkmnbnfkpccobaaDoor.Q
open Go.RowKit Go.Proofs.YtkmnbnfkpccobaaDoorW.PrintWords Go.Proofs.YtkmnbnfkpccobaaDoorW.PrintLast Go.Proofs.YtkmnbnfkpccobaaDoorW.PrintMore
attribute [local go_sem] max2_int min2_int max_two min_two max_three min_three max_four min_four   -- for this text's walks alone
open Go.Proofs.YtkmnbnfkpccobaaDoor.X
set_option linter.unusedVariables false
set_option linter.unusedSimpArgs false

/-! ### be_Put: function 13 -/
def be_Put.f (l0 : List Int) (a1 : Int) : Option (List Int) := (some (([(a1 / 16777216) % 256, (a1 / 65536) % 256, (a1 / 256) % 256, (a1) % 256] : List Int) : List Int)).bind fun y101 => (if l0.length + y101.length < 140737488355328 then (some (l0 ++ y101)) else (none))
set_option maxHeartbeats 8000000 in
set_option maxRecDepth 100000 in
theorem be_Put.calls (P0_ : Nat → Prop) (u9000_ : Value) (l0 : List Int) (a1 : Int) (r : List Int) (w0 w : World) (hB : Below w0.heap.size w0 w) (ho0 : Kd.R (Kd.int .u8) 5 w w0.heap.size P0_ u9000_ l0) (h : be_Put.f l0 a1 = some r) :
    Calls Tryd.prog 13 #[u9000_, .int .u32 a1] w fun e w' => ∃ v0_ : Value, e = .returned (v0_) ∧ Kd.R (Kd.int .u8) 5 w' w0.heap.size (fun k_ => (P0_ k_ ∨ w.heap.size ≤ k_)) v0_ r ∧ Below w0.heap.size w0 w' ∧ Kept w w' (fun k_ => P0_ k_) := by
  have HO0 := Aside0.mk (show Kd.R (Kd.int .u8) 5 w w0.heap.size (fun k_ => (P0_ k_ ∨ w.heap.size ≤ k_)) u9000_ l0 from Kd.R_mono ho0 (fun k_ hk => (.inl hk)))
  have HK := Aside0.mk (Kept.refl w (fun k_ => P0_ k_))
  have HW0 := Aside0.mk hB.size
  have HB := Aside0.mk hB
  clear hB
  have H : ((some (([(a1 / 16777216) % 256, (a1 / 65536) % 256, (a1 / 256) % 256, (a1) % 256] : List Int) : List Int)).bind fun y101 => (if l0.length + y101.length < 140737488355328 then (some (l0 ++ y101)) else (none))) = some r := h
  clear h
  obtain ⟨y101, hy101⟩ : ∃ y_ : List Int, y_ = (([(a1 / 16777216) % 256, (a1 / 65536) % 256, (a1 / 256) % 256, (a1) % 256] : List Int)) := ⟨_, rfl⟩
  replace H : (if l0.length + y101.length < 140737488355328 then (some (l0 ++ y101)) else (none)) = some r := by first | (rw [hy101]; with_reducible exact H) | (have H2_ := (Option.bind_some _ _).symm.trans H; rw [hy101]; with_reducible exact H2_) | (have H2_ := (Option.bind_some _ _).symm.trans H; with_reducible exact H2_) | with_reducible exact H | (rw [hy101]; exact H) | exact H
  have Ny101 := Aside0.mk hy101
  clear hy101
  by_cases c3 : l0.length + y101.length < 140737488355328
  · rw [if_pos c3] at H
    have LMc3 := Aside0.mk c3
    clear c3
    obtain ⟨y104, hy104⟩ : ∃ y_ : List Int, y_ = (l0 ++ y101) := ⟨_, rfl⟩
    replace H : (some y104) = some r := by first | (rw [hy104]; with_reducible exact H) | (have H2_ := (Option.bind_some _ _).symm.trans H; rw [hy104]; with_reducible exact H2_) | (have H2_ := (Option.bind_some _ _).symm.trans H; with_reducible exact H2_) | with_reducible exact H | (rw [hy104]; exact H) | exact H
    have Ny104 := Aside0.mk hy104
    clear hy104
    obtain rfl := Option.some.inj H
    go_enter Tryd.func13, Tryd.ntmps13
    go_wp2_with (first | ((with_reducible refine gate_dst (N := 17) rfl ?_); refine Kd.R_lit (Kd.int .u8) _ 5 ?hg (N := 17) ?hd (xs := ([(a1 / 16777216) % 256, (a1 / 65536) % 256, (a1 / 256) % 256, (a1) % 256] : List Int)) (inner := [.int .u8 ((a1 / 16777216) % 256), .int .u8 ((a1 / 65536) % 256), .int .u8 ((a1 / 256) % 256), .int .u8 ((a1) % 256)]) (ok := fun _ => True) (okp := fun _ => True) ?hr ?hp (fun _ hk => hk) trivial (Below.refl _ _) (Nat.le_refl _) (by simp) ?_; (case hd => rfl); (case hg => rfl); (case hr => first | (go_simp; done) | (go_simp; rfl)); (case hp => exact (Reps.one (show Kd.M (Kd.int .u8) _ _ _ ((a1 / 16777216) % 256) [.int .u8 ((a1 / 16777216) % 256)] from rfl) (Reps.one (show Kd.M (Kd.int .u8) _ _ _ ((a1 / 65536) % 256) [.int .u8 ((a1 / 65536) % 256)] from rfl) (Reps.one (show Kd.M (Kd.int .u8) _ _ _ ((a1 / 256) % 256) [.int .u8 ((a1 / 256) % 256)] from rfl) (Reps.one (show Kd.M (Kd.int .u8) _ _ _ ((a1) % 256) [.int .u8 ((a1) % 256)] from rfl) (Reps.none _ _)))))); intro v102 w4 ho5 hb hg_ hnew_; clear hg_ hnew_; (first | rw [← Ny101.out] at ho5 | (simp only [Int.reduceToNat] at ho5; rw [← Ny101.out] at ho5)); have n0_ := Aside0.mk (Kd.R_elder' (by (with_reducible repeat (first | apply Kd.R_alloc | apply Kd.R_drewN | apply Kd.R_drew)); exact HO0.out) (Kd.R_base ho5) hb); have n1_ := Aside0.mk (Kd.R_lower (Kd.R_new' (Kd.R_newM (M := fun k_ => (P0_ k_ ∨ w.heap.size ≤ k_)) ho5 (by first | exact HK.out.1 | exact (show Kept w _ (fun k_ => P0_ k_) from by repeat (first | (with_reducible first | exact HK.out | apply Kept.alloc | apply Kept.drewN | apply Kept.drew) | exact HK.out)).1) (fun k_ h_ => .inr h_)) (Kd.R_lt (by (with_reducible repeat (first | apply Kd.R_alloc | apply Kd.R_drewN | apply Kd.R_drew)); exact HO0.out))) (below_size (by repeat (first | (with_reducible first | exact HB.out | apply below_alloc | apply pw_below_drewN | apply below_drew1) | exact HB.out)))); have n2_ := Aside0.mk (Kept.below (S := (fun k_ => P0_ k_)) (by repeat (first | (with_reducible first | exact HK.out | apply Kept.alloc | apply Kept.drewN | apply Kept.drew) | exact HK.out)) hb); have n3_ := Aside0.mk (below_step (by repeat (first | (with_reducible first | exact HB.out | apply below_alloc | apply pw_below_drewN | apply below_drew1) | exact HB.out)) hb); clear HO0; clear HK; clear HB; have HO0 := n0_; have HO103 := n1_; have HK := n2_; have HB := n3_; clear n0_ n1_ n2_ n3_; clear hb ho5; obtain ⟨Ao7, co7, eo7⟩ := Kd.R_slice HO103.out; subst eo7) | ((with_reducible refine gate_builtin (b := .append) (xs := #[.tmp 5, .tmp 17]) rfl ?_); at_builtin; refine Kd.R_append_rows (Kd.int .u8) (w0 := w0) w0.heap.size rfl (.tmp 5) (.tmp 17) 23 5 (.int .u8 0) 1 rfl Tryd.underlying23 info5 rfl (by decide) (by omega) u9000_ l0 y101 _ _ _ (fun k_ => (P0_ k_ ∨ w.heap.size ≤ k_) ∧ some k_ ≠ (.slice Ao7 y101.length co7 : Value).ownBlock) (fun _ => False) rfl rfl ?aO ?aR (fun _ _ h => h) (fun _ h => h.elim) ?aF ?aB ?aS ?aL ?_; (case aR => repeat (first | exact (Kd.R_reads' HO103.out).2.2 | (with_reducible refine Kd.C_alloc ?_ _) | (with_reducible refine Kd.C_drewN ?_ _) | (with_reducible refine Kd.C_drew ?_))); (case aB => exact (by repeat (first | (with_reducible first | exact HB.out | apply below_alloc | apply pw_below_drewN | apply below_drew1) | exact HB.out))); (case aF => exact (fun k_ hk => ⟨(.inr (Nat.le_trans (by first | exact HK.out.1 | exact (show Kept w _ (fun k_ => P0_ k_) from by repeat (first | (with_reducible first | exact HK.out | apply Kept.alloc | apply Kept.drewN | apply Kept.drew) | exact HK.out)).1) hk)), Kd.fresh' (Kd.R_lt (by (with_reducible repeat (first | apply Kd.R_alloc | apply Kd.R_drewN | apply Kd.R_drew)); exact HO103.out)) k_ hk⟩)); (case aO => exact (by (with_reducible repeat (first | apply Kd.R_alloc | apply Kd.R_drewN | apply Kd.R_drew)); exact HO0.out)); (case aS => exact (below_size (by repeat (first | (with_reducible first | exact HB.out | apply below_alloc | apply pw_below_drewN | apply below_drew1) | exact HB.out)))); (case aL => have := LMc3.out; omega); intro v105 w6 ho hb hg hat; rw [← Ny104.out] at ho; have n0_ := Aside0.mk (Kd.R_after (ok := (fun k_ => (P0_ k_ ∨ w.heap.size ≤ k_))) (by (with_reducible repeat (first | apply Kd.R_alloc | apply Kd.R_drewN | apply Kd.R_drew)); exact Kd.R_mono HO103.out (fun _ hk => ⟨hk.1.1, hk.2⟩)) hg hat); have n1_ := Aside0.mk (hb); have n2_ := Aside0.mk (Kept.of_grown (S := (fun k_ => P0_ k_)) hg (by repeat (first | (with_reducible first | exact HK.out | apply Kept.alloc | apply Kept.drewN | apply Kept.drew) | exact HK.out)) (fun k_ e_ => (HO0.out.1 k_ e_).1)); have n3_ := Aside0.mk (ho); clear HO103; clear HB; clear HK; clear HO0; have HO103 := n0_; have HB := n1_; have HK := n2_; have HO106 := n3_; clear n0_ n1_ n2_ n3_; clear ho hb hg hat))
    go_ret
    exact ⟨_, by first | rfl | (simp [errW_none, errW_some] <;> rfl) | (simp [*, errW_none, errW_some] <;> rfl), by (with_reducible repeat (first | apply Kd.R_alloc | apply Kd.R_drewN | apply Kd.R_drew)); exact Kd.R_mono HO106.out (fun _ hk => hk.1), by repeat (first | (with_reducible first | exact HB.out | apply below_alloc | apply pw_below_drewN | apply below_drew1) | exact HB.out), by repeat (first | (with_reducible first | exact HK.out | apply Kept.alloc | apply Kept.drewN | apply Kept.drew) | exact HK.out)⟩
  · rw [if_neg c3] at H
    exact absurd H (by simp)

/-! ### be_Long: function 24 -/
def be_Long.f (l0 : List Int) (a1 : Int) : Option (List Int) := (be_Put.f l0 ((a1 / 4294967296) % 4294967296)).bind fun t107 => ((be_Put.f t107 ((a1) % 4294967296)).bind fun t110 => (some t110))
set_option maxHeartbeats 8000000 in
set_option maxRecDepth 100000 in
theorem be_Long.calls (P0_ : Nat → Prop) (u9000_ : Value) (l0 : List Int) (a1 : Int) (r : List Int) (w0 w : World) (hB : Below w0.heap.size w0 w) (ho0 : Kd.R (Kd.int .u8) 5 w w0.heap.size P0_ u9000_ l0) (h : be_Long.f l0 a1 = some r) :
    Calls Tryd.prog 24 #[u9000_, .int .u64 a1] w fun e w' => ∃ v0_ : Value, e = .returned (v0_) ∧ Kd.R (Kd.int .u8) 5 w' w0.heap.size (fun k_ => (P0_ k_ ∨ w.heap.size ≤ k_)) v0_ r ∧ Below w0.heap.size w0 w' ∧ Kept w w' (fun k_ => P0_ k_) := by
  have HO0 := Aside0.mk (show Kd.R (Kd.int .u8) 5 w w0.heap.size (fun k_ => (P0_ k_ ∨ w.heap.size ≤ k_)) u9000_ l0 from Kd.R_mono ho0 (fun k_ hk => (.inl hk)))
  have HK := Aside0.mk (Kept.refl w (fun k_ => P0_ k_))
  have HW0 := Aside0.mk hB.size
  have HB := Aside0.mk hB
  clear hB
  have H : ((be_Put.f l0 ((a1 / 4294967296) % 4294967296)).bind fun t107 => ((be_Put.f t107 ((a1) % 4294967296)).bind fun t110 => (some t110))) = some r := h
  clear h
  replace H := Option.bind_eq_some_iff.mp H
  obtain ⟨t107, A30, H⟩ := H
  replace H : ((be_Put.f t107 ((a1) % 4294967296)).bind fun t110 => (some t110)) = some r := H
  have A3 := Aside0.mk A30
  clear A30
  replace H := Option.bind_eq_some_iff.mp H
  obtain ⟨t110, A40, H⟩ := H
  replace H : (some t110) = some r := H
  have A4 := Aside0.mk A40
  clear A40
  obtain rfl := Option.some.inj H
  obtain ⟨Ao5, co5, eo5⟩ := Kd.R_slice HO0.out
  subst eo5
  go_enter Tryd.func24, Tryd.ntmps24
  go_wp2_with (first | ((with_reducible refine gate_callee (f := 13) rfl ?_); refine goesL_ (some 9) rfl rfl Tryd.func13 (by kernel_rfl) rfl #[.slice Ao5 l0.length co5, .int .u32 ((a1 / 4294967296) % 4294967296)] rfl (by (try simp only [List.map_toArray, List.map_cons, List.map_nil]); first | done | rfl | (simp only [List.length_drop, List.length_take]; rfl)) ?_; (with_reducible refine (be_Put.calls (fun k_ => some k_ = (.slice Ao5 l0.length co5 : Value).ownBlock) (.slice Ao5 l0.length co5) l0 ((a1 / 4294967296) % 4294967296) t107 w0 _ ?side1 ?side2 A3.out).mono ?_); (case side1 => repeat (first | (with_reducible first | exact HB.out | apply below_alloc | apply pw_below_drewN | apply below_drew1) | exact HB.out)); (case side2 => exact Kd.R_tight rfl HO0.out); rintro e w6 ⟨v108, rfl, ho0, hb, hkp⟩; refine ⟨_, rfl, ?_⟩; have n0_ := Aside0.mk (Kd.R_mono (ok' := fun k_ => (P0_ k_ ∨ w.heap.size ≤ k_)) ho0 (fun k_ hk_ => Or.elim hk_ (fun hs_ => (HO0.out.1 k_ (hs_).symm)) (fun hn_ => (.inr (Nat.le_trans (by first | exact HK.out.1 | exact (show Kept w _ (fun k_ => P0_ k_) from by repeat (first | (with_reducible first | exact HK.out | apply Kept.alloc | apply Kept.drewN | apply Kept.drew) | exact HK.out)).1) hn_))))); have n1_ := Aside0.mk (Kept.then_ (S := (fun k_ => P0_ k_)) (by repeat (first | (with_reducible first | exact HK.out | apply Kept.alloc | apply Kept.drewN | apply Kept.drew) | exact HK.out)) hkp (fun k_ hs_ => (fun e_ => (HO0.out.1 k_ e_.symm)) hs_)); have n2_ := Aside0.mk (hb); clear HK; clear HB; clear HO0; have HO109 := n0_; have HK := n1_; have HB := n2_; clear n0_ n1_ n2_; (try clear hb); (try clear hkp); (try clear ho0); obtain ⟨Ao7, co7, eo7⟩ := Kd.R_slice HO109.out; subst eo7) | ((with_reducible refine gate_callee (f := 13) rfl ?_); refine goesL_ (some 12) rfl rfl Tryd.func13 (by kernel_rfl) rfl #[.slice Ao7 t107.length co7, .int .u32 ((a1) % 4294967296)] rfl (by (try simp only [List.map_toArray, List.map_cons, List.map_nil]); first | done | rfl | (simp only [List.length_drop, List.length_take]; rfl)) ?_; (with_reducible refine (be_Put.calls (fun k_ => some k_ = (.slice Ao7 t107.length co7 : Value).ownBlock) (.slice Ao7 t107.length co7) t107 ((a1) % 4294967296) t110 w0 _ ?side1 ?side2 A4.out).mono ?_); (case side1 => repeat (first | (with_reducible first | exact HB.out | apply below_alloc | apply pw_below_drewN | apply below_drew1) | exact HB.out)); (case side2 => exact Kd.R_tight rfl HO109.out); rintro e w8 ⟨v111, rfl, ho0, hb, hkp⟩; refine ⟨_, rfl, ?_⟩; have n0_ := Aside0.mk (Kd.R_mono (ok' := fun k_ => (P0_ k_ ∨ w.heap.size ≤ k_)) ho0 (fun k_ hk_ => Or.elim hk_ (fun hs_ => (HO109.out.1 k_ (hs_).symm)) (fun hn_ => (.inr (Nat.le_trans (by first | exact HK.out.1 | exact (show Kept w _ (fun k_ => P0_ k_) from by repeat (first | (with_reducible first | exact HK.out | apply Kept.alloc | apply Kept.drewN | apply Kept.drew) | exact HK.out)).1) hn_))))); have n1_ := Aside0.mk (Kept.then_ (S := (fun k_ => P0_ k_)) (by repeat (first | (with_reducible first | exact HK.out | apply Kept.alloc | apply Kept.drewN | apply Kept.drew) | exact HK.out)) hkp (fun k_ hs_ => (fun e_ => (HO109.out.1 k_ e_.symm)) hs_)); have n2_ := Aside0.mk (hb); clear HK; clear HB; clear HO109; have HO112 := n0_; have HK := n1_; have HB := n2_; clear n0_ n1_ n2_; (try clear hb); (try clear hkp); (try clear ho0)))
  go_ret
  exact ⟨_, by first | rfl | (simp [errW_none, errW_some] <;> rfl) | (simp [*, errW_none, errW_some] <;> rfl), by (with_reducible repeat (first | apply Kd.R_alloc | apply Kd.R_drewN | apply Kd.R_drew)); exact HO112.out, by repeat (first | (with_reducible first | exact HB.out | apply below_alloc | apply pw_below_drewN | apply below_drew1) | exact HB.out), by repeat (first | (with_reducible first | exact HK.out | apply Kept.alloc | apply Kept.drewN | apply Kept.drew) | exact HK.out)⟩

/-! ### bits_Mul32: function 34 -/
def bits_Mul32.f (a0 : Int) (a1 : Int) : Option (Int × Int) := some (((IntKind.u64.wrap ((IntKind.u64.wrap (a0)) * (IntKind.u64.wrap (a1)))) / 4294967296) % 4294967296, (IntKind.u64.wrap ((IntKind.u64.wrap (a0)) * (IntKind.u64.wrap (a1)))) % 4294967296)
set_option maxHeartbeats 8000000 in
set_option maxRecDepth 100000 in
theorem bits_Mul32.calls (a0 : Int) (a1 : Int) (r1 : Int) (r2 : Int) (w : World) (h : bits_Mul32.f a0 a1 = some (r1, r2)) :
    Calls Tryd.prog 34 #[.int .u32 a0, .int .u32 a1] w fun e w' => e = .returned (.tuple #[.int .u32 r1, .int .u32 r2]) ∧ Drawn0 w w' := by
  have H : (some (((IntKind.u64.wrap ((IntKind.u64.wrap (a0)) * (IntKind.u64.wrap (a1)))) / 4294967296) % 4294967296, (IntKind.u64.wrap ((IntKind.u64.wrap (a0)) * (IntKind.u64.wrap (a1)))) % 4294967296)) = some (r1, r2) := h
  clear h
  simp only [Option.some.injEq, Prod.mk.injEq] at H
  obtain ⟨rfl, rfl⟩ := H
  go_enter Tryd.func34, Tryd.ntmps34
  go_wp2
  go_ret2
  exact ⟨by first | rfl | (simp; done) | (simp [*]; done), by repeat (first | exact Drawn0.refl _ | apply Drawn0.step)⟩

/-! ### bits_Mul64: function 35 -/
def bits_Mul64.f (a0 : Int) (a1 : Int) : Option (Int × Int) := some (IntKind.u64.wrap ((IntKind.u64.wrap ((IntKind.u64.wrap ((a0 / 4294967296) * (a1 / 4294967296))) + ((IntKind.u64.wrap ((IntKind.u64.wrap ((a0 / 4294967296) * (Go.bits .and .u64 a1 4294967295))) + ((IntKind.u64.wrap ((Go.bits .and .u64 a0 4294967295) * (Go.bits .and .u64 a1 4294967295))) / 4294967296))) / 4294967296))) + ((IntKind.u64.wrap ((Go.bits .and .u64 (IntKind.u64.wrap ((IntKind.u64.wrap ((a0 / 4294967296) * (Go.bits .and .u64 a1 4294967295))) + ((IntKind.u64.wrap ((Go.bits .and .u64 a0 4294967295) * (Go.bits .and .u64 a1 4294967295))) / 4294967296))) 4294967295) + (IntKind.u64.wrap ((Go.bits .and .u64 a0 4294967295) * (a1 / 4294967296))))) / 4294967296)), IntKind.u64.wrap (a0 * a1))
set_option maxHeartbeats 8000000 in
set_option maxRecDepth 100000 in
theorem bits_Mul64.calls (a0 : Int) (a1 : Int) (r1 : Int) (r2 : Int) (w : World) (h : bits_Mul64.f a0 a1 = some (r1, r2)) :
    Calls Tryd.prog 35 #[.int .u64 a0, .int .u64 a1] w fun e w' => e = .returned (.tuple #[.int .u64 r1, .int .u64 r2]) ∧ Drawn0 w w' := by
  have H : (some (IntKind.u64.wrap ((IntKind.u64.wrap ((IntKind.u64.wrap ((a0 / 4294967296) * (a1 / 4294967296))) + ((IntKind.u64.wrap ((IntKind.u64.wrap ((a0 / 4294967296) * (Go.bits .and .u64 a1 4294967295))) + ((IntKind.u64.wrap ((Go.bits .and .u64 a0 4294967295) * (Go.bits .and .u64 a1 4294967295))) / 4294967296))) / 4294967296))) + ((IntKind.u64.wrap ((Go.bits .and .u64 (IntKind.u64.wrap ((IntKind.u64.wrap ((a0 / 4294967296) * (Go.bits .and .u64 a1 4294967295))) + ((IntKind.u64.wrap ((Go.bits .and .u64 a0 4294967295) * (Go.bits .and .u64 a1 4294967295))) / 4294967296))) 4294967295) + (IntKind.u64.wrap ((Go.bits .and .u64 a0 4294967295) * (a1 / 4294967296))))) / 4294967296)), IntKind.u64.wrap (a0 * a1))) = some (r1, r2) := h
  clear h
  simp only [Option.some.injEq, Prod.mk.injEq] at H
  obtain ⟨rfl, rfl⟩ := H
  go_enter Tryd.func35, Tryd.ntmps35
  go_wp2
  go_ret2
  exact ⟨by first | rfl | (simp; done) | (simp [*]; done), by repeat (first | exact Drawn0.refl _ | apply Drawn0.step)⟩

/-! ### bits_Mul: function 28 -/
def bits_Mul.f (a0 : Int) (a1 : Int) : Option (Int × Int) := (bits_Mul64.f a0 a1).bind fun bt113 => (some (bt113.1, bt113.2))
set_option maxHeartbeats 8000000 in
set_option maxRecDepth 100000 in
theorem bits_Mul.calls (a0 : Int) (a1 : Int) (r1 : Int) (r2 : Int) (w : World) (h : bits_Mul.f a0 a1 = some (r1, r2)) :
    Calls Tryd.prog 28 #[.int .u64 a0, .int .u64 a1] w fun e w' => e = .returned (.tuple #[.int .u64 r1, .int .u64 r2]) ∧ Drawn0 w w' := by
  have H : ((bits_Mul64.f a0 a1).bind fun bt113 => (some (bt113.1, bt113.2))) = some (r1, r2) := h
  clear h
  replace H := Option.bind_eq_some_iff.mp H
  obtain ⟨⟨t113, t114⟩, A30, H⟩ := H
  replace H : (some (t113, t114)) = some (r1, r2) := H
  have A3 := Aside0.mk A30
  clear A30
  simp only [Option.some.injEq, Prod.mk.injEq] at H
  obtain ⟨rfl, rfl⟩ := H
  go_enter Tryd.func28, Tryd.ntmps28
  go_wp2_with (first | ((with_reducible refine gate_callee (f := 35) rfl ?_); refine goesL_ (some 25) rfl rfl Tryd.func35 (by kernel_rfl) rfl #[.int .u64 a0, .int .u64 a1] rfl (by (try simp only [List.map_toArray, List.map_cons, List.map_nil]); first | done | rfl | (simp only [List.length_drop, List.length_take]; rfl)) ?_; (with_reducible refine (bits_Mul64.calls a0 a1 t113 t114 _ A3.out).mono ?_); rintro e w' ⟨rfl, ⟨nd, rfl⟩⟩; refine ⟨_, rfl, ?_⟩))
  go_ret2
  exact ⟨by first | rfl | (simp; done) | (simp [*]; done), by repeat (first | exact Drawn0.refl _ | apply Drawn0.step)⟩

/-! ### stringslite_HasPrefix: function 36 -/
def stringslite_HasPrefix.f (a0 : ByteArray) (a1 : ByteArray) : Option (Bool) := if (a0.size : Int) ≥ (a1.size : Int) then (if 0 ≤ (a1.size : Int) then (if (a1.size : Int) ≤ (a0.size : Int) then (some ((a0.extract 0 ((a1.size : Int) : Int).toNat).toList == a1.toList)) else (none)) else (none)) else (some false)
set_option maxHeartbeats 8000000 in
set_option maxRecDepth 100000 in
theorem stringslite_HasPrefix.calls (a0 : ByteArray) (a1 : ByteArray) (r : Bool) (w : World) (h : stringslite_HasPrefix.f a0 a1 = some r) :
    Calls Tryd.prog 36 #[.string a0, .string a1] w fun e w' => e = .returned (.bool r) ∧ Drawn0 w w' := by
  have H : (if (a0.size : Int) ≥ (a1.size : Int) then (if 0 ≤ (a1.size : Int) then (if (a1.size : Int) ≤ (a0.size : Int) then (some ((a0.extract 0 ((a1.size : Int) : Int).toNat).toList == a1.toList)) else (none)) else (none)) else (some false)) = some r := h
  clear h
  by_cases c3 : (a0.size : Int) ≥ (a1.size : Int)
  · rw [if_pos c3] at H
    have c3b0 : decide ((a1.size : Int) ≤ (a0.size : Int)) = true := decide_eq_true c3
    have c3b1 : decide (a1.size ≤ a0.size) = true := decide_eq_true (Int.ofNat_le.mp c3)
    clear c3
    by_cases c4 : 0 ≤ (a1.size : Int)
    · rw [if_pos c4] at H
      have c4b0 := eq_true c4
      have c4b1 : decide (0 ≤ (a1.size : Int)) = true := decide_eq_true c4
      clear c4
      by_cases c5 : (a1.size : Int) ≤ (a0.size : Int)
      · rw [if_pos c5] at H
        have c5b0 := eq_true c5
        have c5b1 : decide ((a1.size : Int) ≤ (a0.size : Int)) = true := decide_eq_true c5
        clear c5
        obtain rfl := Option.some.inj H
        go_enter Tryd.func36, Tryd.ntmps36
        go_wp2
        go_ret
        exact ⟨by first | rfl | (simp; done) | (simp [*]; done), by repeat (first | exact Drawn0.refl _ | apply Drawn0.step)⟩
      · rw [if_neg c5] at H
        exact absurd H (by simp)
    · rw [if_neg c4] at H
      exact absurd H (by simp)
  · rw [if_neg c3] at H
    have c3b0 : decide ((a1.size : Int) ≤ (a0.size : Int)) = false := decide_eq_false c3
    have c3b1 : decide (a1.size ≤ a0.size) = false := decide_eq_false (fun h => c3 (Int.ofNat_le.mpr h))
    clear c3
    obtain rfl := Option.some.inj H
    go_enter Tryd.func36, Tryd.ntmps36
    go_wp2
    go_ret
    exact ⟨by first | rfl | (simp; done) | (simp [*]; done), by repeat (first | exact Drawn0.refl _ | apply Drawn0.step)⟩

/-! ### strings_HasPrefix: function 29 -/
def strings_HasPrefix.f (a0 : ByteArray) (a1 : ByteArray) : Option (Bool) := (stringslite_HasPrefix.f a0 a1).bind fun t115 => (some t115)
set_option maxHeartbeats 8000000 in
set_option maxRecDepth 100000 in
theorem strings_HasPrefix.calls (a0 : ByteArray) (a1 : ByteArray) (r : Bool) (w : World) (h : strings_HasPrefix.f a0 a1 = some r) :
    Calls Tryd.prog 29 #[.string a0, .string a1] w fun e w' => e = .returned (.bool r) ∧ Drawn0 w w' := by
  have H : ((stringslite_HasPrefix.f a0 a1).bind fun t115 => (some t115)) = some r := h
  clear h
  replace H := Option.bind_eq_some_iff.mp H
  obtain ⟨t115, A30, H⟩ := H
  replace H : (some t115) = some r := H
  have A3 := Aside0.mk A30
  clear A30
  obtain rfl := Option.some.inj H
  go_enter Tryd.func29, Tryd.ntmps29
  go_wp2_with (first | ((with_reducible refine gate_callee (f := 36) rfl ?_); refine goesL_ (some 7) rfl rfl Tryd.func36 (by kernel_rfl) rfl #[.string a0, .string a1] rfl (by (try simp only [List.map_toArray, List.map_cons, List.map_nil]); first | done | rfl | (simp only [List.length_drop, List.length_take]; rfl)) ?_; (with_reducible refine (stringslite_HasPrefix.calls a0 a1 t115 _ A3.out).mono ?_); rintro e w' ⟨rfl, ⟨nd, rfl⟩⟩; refine ⟨_, rfl, ?_⟩))
  go_ret
  exact ⟨by first | rfl | (simp; done) | (simp [*]; done), by repeat (first | exact Drawn0.refl _ | apply Drawn0.step)⟩

-- NOT PRINTED: function 39 (abi_NoEscape)

-- NOT PRINTED: function 37 (strings_Builder_copyCheck)

-- NOT PRINTED: function 40 (bytealg_MakeNoZero)

-- NOT PRINTED: function 38 (strings_Builder_grow)

-- NOT PRINTED: function 30 (strings_Builder_Grow)

-- NOT PRINTED: function 31 (strings_Builder_WriteString)

-- NOT PRINTED: function 32 (strings_Builder_Len)

-- NOT PRINTED: function 33 (strings_Builder_String)

/-! ### strings_Repeat: function 25, by hand -/
def strings_Repeat.f (a0 : ByteArray) (a1 : Int) : Option (ByteArray) := if 0 ≤ a1 ∧ a1 ≤ 9223372036854775807 ∧ a0.size * a1.toNat ≤ 140737488355328 then some ⟨(Lib.repeatL a0.data.toList a1.toNat).toArray⟩ else none
theorem strings_Repeat.calls (a0 : ByteArray) (a1 : Int) (r : ByteArray) (w : World) (h : strings_Repeat.f a0 a1 = some r) :
    Calls Tryd.prog 25 #[.string a0, .int .i64 a1] w fun e w' => e = .returned (.string r) ∧ Below w.heap.size w w' := by
  unfold strings_Repeat.f at h
  split at h
  case isTrue hs =>
    obtain rfl := Option.some.inj h
    have h1 : ((a1.toNat : Nat) : Int) = a1 := Int.toNat_of_nonneg hs.1
    have := Tryd.strings_Repeat a0 a1.toNat w (by omega) hs.2.2
    rw [h1] at this
    exact this
  case isFalse hs => exact absurd h (by simp)

/-! ### hash_padded: function 22 -/
def hash_padded.f (a0 : ByteArray) : Option (ByteArray) := (be_Long.f ([] : List Int) (IntKind.u64.wrap (8 * (a0.size : Int)))).bind fun t116 => (if a0.size + 1 ≤ 9223372036854775807 then ((strings_Repeat.f (⟨#[0]⟩ : ByteArray) ((183 - (a0.size : Int)) % 64)).bind fun t119 => (if (a0.size + 1) + t119.size ≤ 9223372036854775807 then (if (a0.size + 1 + t119.size) + (strOfNums t116).size ≤ 9223372036854775807 then (some (((a0 ++ (⟨#[128]⟩ : ByteArray)) ++ t119) ++ (strOfNums t116))) else (none)) else (none))) else (none))
def hash_padded.T3 : Bool × List (List Nat × List Nat) := (true, [([], []), ([0], [0]), ([], []), ([2], [2]), ([1, 3], [1, 3]), ([], []), ([5], [5]), ([4, 6], [4, 6]), ([7, 3, 0, 1, 2, 3, 4, 5, 6, 7], [7])])
def hash_padded.B3 : List Nat := [0, 1, 0, 4, 15, 0, 32, 127, 255]
theorem hash_padded.tab3 : rtab .any (opsOf Tryd.f22 3) = hash_padded.T3 := by kernel_rfl
theorem hash_padded.bits3 : waitsOk hash_padded.T3.2 hash_padded.B3 = true := by kernel_rfl
set_option maxHeartbeats 8000000 in
set_option maxRecDepth 100000 in
theorem hash_padded.calls (a0 : ByteArray) (r : ByteArray) (w : World) (h : hash_padded.f a0 = some r) :
    Calls Tryd.prog 22 #[.string a0] w fun e w' => e = .returned (.string r) ∧ Below w.heap.size w w' := by
  have HB := Aside0.mk (Below.refl w.heap.size w)
  have H : ((be_Long.f ([] : List Int) (IntKind.u64.wrap (8 * (a0.size : Int)))).bind fun t116 => (if a0.size + 1 ≤ 9223372036854775807 then ((strings_Repeat.f (⟨#[0]⟩ : ByteArray) ((183 - (a0.size : Int)) % 64)).bind fun t119 => (if (a0.size + 1) + t119.size ≤ 9223372036854775807 then (if (a0.size + 1 + t119.size) + (strOfNums t116).size ≤ 9223372036854775807 then (some (((a0 ++ (⟨#[128]⟩ : ByteArray)) ++ t119) ++ (strOfNums t116))) else (none)) else (none))) else (none))) = some r := h
  clear h
  replace H := Option.bind_eq_some_iff.mp H
  obtain ⟨t116, A20, H⟩ := H
  replace H : (if a0.size + 1 ≤ 9223372036854775807 then ((strings_Repeat.f (⟨#[0]⟩ : ByteArray) ((183 - (a0.size : Int)) % 64)).bind fun t119 => (if (a0.size + 1) + t119.size ≤ 9223372036854775807 then (if (a0.size + 1 + t119.size) + (strOfNums t116).size ≤ 9223372036854775807 then (some (((a0 ++ (⟨#[128]⟩ : ByteArray)) ++ t119) ++ (strOfNums t116))) else (none)) else (none))) else (none)) = some r := H
  have A2 := Aside0.mk A20
  clear A20
  by_cases c3 : a0.size + 1 ≤ 9223372036854775807
  · rw [if_pos c3] at H
    have c3b0 := eq_true c3
    have c3b1 : decide (a0.size + 1 ≤ 9223372036854775807) = true := decide_eq_true c3
    try have c3b2 : (9223372036854775807 < a0.size + 1) = False := eq_false (Nat.not_lt.2 c3)
    replace H := Option.bind_eq_some_iff.mp H
    obtain ⟨t119, A40, H⟩ := H
    replace H : (if (a0.size + 1) + t119.size ≤ 9223372036854775807 then (if (a0.size + 1 + t119.size) + (strOfNums t116).size ≤ 9223372036854775807 then (some (((a0 ++ (⟨#[128]⟩ : ByteArray)) ++ t119) ++ (strOfNums t116))) else (none)) else (none)) = some r := H
    have A4 := Aside0.mk A40
    clear A40
    by_cases c5 : (a0.size + 1) + t119.size ≤ 9223372036854775807
    · rw [if_pos c5] at H
      have c5b0 := eq_true c5
      have c5b1 : decide ((a0.size + 1) + t119.size ≤ 9223372036854775807) = true := decide_eq_true c5
      try have c5b2 : (9223372036854775807 < (a0.size + 1) + t119.size) = False := eq_false (Nat.not_lt.2 c5)
      by_cases c6 : (a0.size + 1 + t119.size) + (strOfNums t116).size ≤ 9223372036854775807
      · rw [if_pos c6] at H
        have c6b0 := eq_true c6
        have c6b1 : decide ((a0.size + 1 + t119.size) + (strOfNums t116).size ≤ 9223372036854775807) = true := decide_eq_true c6
        try have c6b2 : (9223372036854775807 < (a0.size + 1 + t119.size) + (strOfNums t116).size) = False := eq_false (Nat.not_lt.2 c6)
        obtain rfl := Option.some.inj H
        go_enter Tryd.func22, Tryd.ntmps22
        try go_wp2_with (first | ((with_reducible refine gate_callee (f := 24) rfl ?_); refine goesL_ (some 14) rfl rfl Tryd.func24 (by kernel_rfl) rfl #[.slice none 0 0, .int .u64 (IntKind.u64.wrap (8 * (a0.size : Int)))] rfl (by (try simp only [List.map_toArray, List.map_cons, List.map_nil]); first | done | rfl | (simp only [List.length_drop, List.length_take]; rfl)) ?_; (refine (be_Long.calls (fun k_ => some k_ = (.slice none 0 0 : Value).ownBlock) (.slice none 0 0) ([] : List Int) (IntKind.u64.wrap (8 * (a0.size : Int))) t116 w _ ?side1 ?side2 A2.out).mono ?_); (case side1 => repeat (first | (with_reducible first | exact HB.out | apply below_alloc | apply pw_below_drewN | apply below_drew1) | exact HB.out)); (case side2 => exact Kd.R_nil _ _ _ _ _); rintro e w7 ⟨v117, rfl, ho0, hb, hkp⟩; refine ⟨_, rfl, ?_⟩; have n0_ := Aside0.mk (Kd.R_mono (ok' := fun k_ => True) ho0 (fun k_ hk_ => trivial)); have n1_ := Aside0.mk (hb); clear HB; have HO118 := n0_; have HB := n1_; clear n0_ n1_; (try clear hb); (try clear hkp); (try clear ho0)))
        have n0_ := Aside0.mk (Kd.R_drew HO118.out)
        have n1_ := Aside0.mk (below_drew1 HB.out)
        clear HO118
        clear HB
        have HO118 := n0_
        have HB := n1_
        clear n0_ n1_
        refine start_ (n := 9) (S := fun w' => (Sem.run Tryd.prog (convert 23 9 v117) w') = .ok (.string (strOfNums t116)) w') (ds := []) #[false, false, false, false, false, false, false, false, false] (by kernel_rfl) rfl rfl ((own_string (P := Tryd.prog) Tryd.underlying23 Tryd.underlying5 Tryd.underlying9 (Kd.own_of_R HO118.out))) (fun hHeld => ?_); refine with_tabW hash_padded.tab3 hash_padded.bits3 (fun HT_ HW_ => ?_)
        generalize w7.drew = w8 at HO118 HB hHeld ⊢
        refine pure_ (i := 0) (N := some 15) (v := ?_) (a' := ?_) #[true, false, false, false, false, false, false, false, false] rfl rfl (any_of HT_.out (by kernel_rfl)) (fun _ _ _ h => h) (Or.inl ⟨by rfl, ?_⟩) ?_ ?_
        rotate_left
        · intro w'
          go_simp
          with_reducible rfl
        rotate_left
        · simp only [Act.put, List.setIfInBounds_toArray, List.set_cons_zero, List.set_cons_succ, i64_w, i32_w]
          rfl
        refine pure_ (i := 1) (N := some 16) (v := ?_) (a' := ?_) #[true, true, false, false, false, false, false, false, false] rfl rfl (any_of HT_.out (by kernel_rfl)) (fun _ _ _ h => h) (Or.inl ⟨by rfl, ?_⟩) ?_ ?_
        rotate_left
        · intro w'
          go_simp
          with_reducible rfl
        rotate_left
        · simp only [Act.put, List.setIfInBounds_toArray, List.set_cons_zero, List.set_cons_succ, i64_w, i32_w]
          rfl
        refine pure_ (i := 2) (N := some 17) (v := ?_) (a' := ?_) #[true, true, true, false, false, false, false, false, false] rfl rfl (any_of HT_.out (by kernel_rfl)) (fun _ _ _ h => h) (Or.inl ⟨by rfl, ?_⟩) ?_ ?_
        rotate_left
        · intro w'
          go_simp
          with_reducible rfl
        rotate_left
        · simp only [Act.put, List.setIfInBounds_toArray, List.set_cons_zero, List.set_cons_succ, i64_w, i32_w]
          rfl
        refine pure_ (i := 5) (N := some 20) (v := ?_) (a' := ?_) #[true, true, true, false, false, true, false, false, false] rfl rfl (any_of HT_.out (by kernel_rfl)) (fun _ _ _ h => h) (Or.inl ⟨by rfl, ?_⟩) ?_ ?_
        rotate_left
        · intro w'
          go_simp
          with_reducible rfl
        rotate_left
        · simp only [Act.put, List.setIfInBounds_toArray, List.set_cons_zero, List.set_cons_succ, i64_w, i32_w]
          rfl
        refine take_ (i := 6) (N := some 21) (v := ?_) (a' := ?_) #[true, true, true, false, false, true, true, false, false] rfl rfl (take_ofW HT_.out HW_.out (by kernel_rfl)) (fun _ _ _ h => h) (Or.inl ⟨by rfl, ?_⟩) hHeld ?_ ?_
        rotate_left
        · intro w' s0
          go_simp
          with_reducible rfl
        rotate_left
        · simp only [Act.put, List.setIfInBounds_toArray, List.set_cons_zero, List.set_cons_succ, i64_w, i32_w]
          rfl
        refine one_ (i := 3) (N := some 18) #[true, true, true, true, false, true, true, false, false] rfl rfl (one_of HT_.out (by kernel_rfl)) (by decide) (fun K hK => ?_)
        refine goes_ Tryd.func25 (by kernel_rfl) rfl #[.string (⟨#[0]⟩ : ByteArray), .int .i64 ((183 - (a0.size : Int)) % 64)] (by rfl) rfl rfl (by (try simp only [List.map_toArray, List.map_cons, List.map_nil]); first | done | rfl | (simp only [List.length_drop, List.length_take]; rfl)) ?_
        with_reducible refine (strings_Repeat.calls (⟨#[0]⟩ : ByteArray) ((183 - (a0.size : Int)) % 64) t119 _ A4.out).mono ?_
        rintro e w9 ⟨rfl, hb⟩
        refine ⟨_, rfl, ?_⟩
        have n0_ := Aside0.mk (Kd.R_below (by (with_reducible repeat (first | apply Kd.R_alloc | apply Kd.R_drewN | apply Kd.R_drew)); exact HO118.out) hb)
        have n1_ := Aside0.mk (below_step (by repeat (first | (with_reducible first | exact HB.out | apply below_alloc | apply pw_below_drewN | apply below_drew1) | exact HB.out)) hb)
        clear HO118
        clear HB
        have HO118 := n0_
        have HB := n1_
        clear n0_ n1_
        (try clear hb)
        (try clear hb2)
        (try clear hk)
        (try clear hi)
        refine hK.out _ _ ((own_string (P := Tryd.prog) Tryd.underlying23 Tryd.underlying5 Tryd.underlying9 (Kd.own_of_R HO118.out))) (fun hHeld => ?_)
        clear hK K
        refine norm_ (a' := ?_) ?_ ?_
        rotate_left
        · show Act.put _ (some 18) _ = _
          simp only [Act.put, List.setIfInBounds_toArray, List.set_cons_zero, List.set_cons_succ, i64_w, i32_w]
          rfl
        refine pure_ (i := 4) (N := some 19) (v := ?_) (a' := ?_) #[true, true, true, true, true, true, true, false, false] rfl rfl (any_of HT_.out (by kernel_rfl)) (fun _ _ _ h => h) (Or.inl ⟨by rfl, ?_⟩) ?_ ?_
        rotate_left
        · intro w'
          go_simp
          with_reducible rfl
        rotate_left
        · simp only [Act.put, List.setIfInBounds_toArray, List.set_cons_zero, List.set_cons_succ, i64_w, i32_w]
          rfl
        refine pure_ (i := 7) (N := some 22) (v := ?_) (a' := ?_) #[true, true, true, true, true, true, true, true, false] rfl rfl (any_of HT_.out (by kernel_rfl)) (fun _ _ _ h => h) (Or.inl ⟨by rfl, ?_⟩) ?_ ?_
        rotate_left
        · intro w'
          go_simp
          with_reducible rfl
        rotate_left
        · simp only [Act.put, List.setIfInBounds_toArray, List.set_cons_zero, List.set_cons_succ, i64_w, i32_w]
          rfl
        refine pure_ (i := 8) (N := some 2) (v := ?_) (a' := ?_) #[true, true, true, true, true, true, true, true, true] rfl rfl (any_of HT_.out (by kernel_rfl)) (fun _ _ _ h => h) (Or.inl ⟨by rfl, ?_⟩) ?_ ?_
        rotate_left
        · intro w'
          go_simp
          with_reducible rfl
        rotate_left
        · simp only [Act.put, List.setIfInBounds_toArray, List.set_cons_zero, List.set_cons_succ, i64_w, i32_w]
          rfl
        refine done_ (done_of HT_.out (by kernel_rfl)) ?_
        try go_wp2
        go_ret
        exact ⟨by first | rfl | (simp [errW_none, errW_some] <;> rfl) | (simp [*, errW_none, errW_some] <;> rfl), by repeat (first | (with_reducible first | exact HB.out | apply below_alloc | apply pw_below_drewN | apply below_drew1) | exact HB.out)⟩
      · rw [if_neg c6] at H
        exact absurd H (by simp)
    · rw [if_neg c5] at H
      exact absurd H (by simp)
  · rw [if_neg c3] at H
    exact absurd H (by simp)

/-! ### be_Get: function 21, by hand -/
def be_Get.f (l0 : List Int) : Option (Int) := some (getL (l0.take 4))
set_option maxHeartbeats 1000000 in
theorem be_Get.says (A0 : Option Addr) (m c0 : Nat) (l0 : List Int) (w : World) (hm : m = l0.length) (hr0 : Kd.C (Kd.int .u8) w A0 l0.length l0) (hc0 : l0.length ≤ c0) :
    Calls Tryd.prog 21 #[.slice A0 m c0] w fun e w' => e = .returned (.int .u32 (getL (l0.take 4))) ∧ w' = w := by
  subst hm
  obtain ⟨n, hn⟩ : ∃ n : Nat, n = min l0.length 4 := ⟨_, rfl⟩
  have hnl : n ≤ l0.length := by omega
  have hn4 : n ≤ 4 := by omega
  obtain ⟨i05, hi05, _, hsz5, _⟩ := info_parts (show (Tryd.prog.info? 5).map (fun i => (i.zero, i.size, i.bytes)) = some (some (.int .u8 0), 1, 1) by kernel_rfl)
  have hcut := cut_to (P := Tryd.prog) 23 5 .i64 Tryd.underlying23 hi05 A0 l0.length c0 (n : Int) (by omega) (by omega) hc0
  have hmn : (if 4 < (l0.length : Int) then (4 : Int) else (l0.length : Int)) = (n : Int) := by split <;> omega
  have ht : l0.take 4 = l0.take n := by rw [hn, List.take_eq_take_iff]; omega
  have HT := Lib.hid ht
  clear hn ht hi05 hsz5
  go_enter Tryd.func21, Tryd.ntmps21
  go_wp2
  clear hmn hcut
  go_loop [3, 12] (fun v3 v12 => ∃ k : Nat, k ≤ n ∧ v12 = .int .i64 k ∧ v3 = .int .u32 (getL (l0.take k))) (fun _ v12 => n - (intOf v12).toNat)
  case atStart => exact ⟨0, by omega, rfl, rfl⟩
  case round =>
    obtain ⟨k, hk, rfl, rfl⟩ := hrel
    by_cases hlt : k < n
    · obtain ⟨ad, rfl, hx⟩ := Kd.at_int hr0 (k : Int) (by omega) (by omega)
      rw [Int.toNat_natCast] at hx
      have hs : getL (l0.take (k + 1)) = Go.bits .or .u32 (getL (l0.take k) * 256 % 4294967296) (rd l0 (k : Int) % 4294967296) := by
        rw [List.take_succ_eq_append_getElem (by omega)]
        unfold getL
        rw [List.foldl_append]
        simp [rd, List.getD_eq_getElem?_getD, List.getElem?_eq_getElem (show k < l0.length by omega)]
      have HS := Lib.hid hs
      clear hs
      go_wp2
      go_round
      case measure => simp [intOf]; omega
      case rel => exact ⟨k + 1, by omega, by go_num, by rw [HS.out]⟩
    · obtain rfl : k = n := by omega
      go_wp2
      go_ret
      exact ⟨by rw [HT.out]; rfl, rfl⟩
theorem be_Get.calls (A0 : Option Addr) (c0 : Nat) (l0 : List Int) (r : Int) (w : World) (hr0 : Kd.C (Kd.int .u8) w A0 l0.length l0) (hc0 : l0.length ≤ c0) (h : be_Get.f l0 = some r) :
    Calls Tryd.prog 21 #[.slice A0 l0.length c0] w fun e w' => e = .returned (.int .u32 r) ∧ Drawn0 w w' := by
  refine (be_Get.says A0 _ c0 l0 w rfl hr0 hc0).mono ?_
  rintro e w' ⟨rfl, rfl⟩
  unfold be_Get.f at h
  obtain rfl := Option.some.inj h
  exact ⟨rfl, Drawn0.refl _⟩

/-! ### bits_RotateLeft32: function 27, by hand -/
theorem rot_2 (x : Int) (w : World) : Calls Tryd.prog 27 #[.int .u32 x, .int .i64 (-2)] w fun e w' => e = .returned (.int .u32 (rr x 2)) ∧ w' = w := by
  have he : Go.bits BinOp.and IntKind.u64 (IntKind.u64.wrap (-2)) 31 = 30 := by decide
  go_enter Tryd.func27, Tryd.ntmps27
  go_wp2
  go_ret
  exact ⟨by rw [rr, bits_or_comm]; rfl, rfl⟩
theorem rot_6 (x : Int) (w : World) : Calls Tryd.prog 27 #[.int .u32 x, .int .i64 (-6)] w fun e w' => e = .returned (.int .u32 (rr x 6)) ∧ w' = w := by
  have he : Go.bits BinOp.and IntKind.u64 (IntKind.u64.wrap (-6)) 31 = 26 := by decide
  go_enter Tryd.func27, Tryd.ntmps27
  go_wp2
  go_ret
  exact ⟨by rw [rr, bits_or_comm]; rfl, rfl⟩
theorem rot_7 (x : Int) (w : World) : Calls Tryd.prog 27 #[.int .u32 x, .int .i64 (-7)] w fun e w' => e = .returned (.int .u32 (rr x 7)) ∧ w' = w := by
  have he : Go.bits BinOp.and IntKind.u64 (IntKind.u64.wrap (-7)) 31 = 25 := by decide
  go_enter Tryd.func27, Tryd.ntmps27
  go_wp2
  go_ret
  exact ⟨by rw [rr, bits_or_comm]; rfl, rfl⟩
theorem rot_11 (x : Int) (w : World) : Calls Tryd.prog 27 #[.int .u32 x, .int .i64 (-11)] w fun e w' => e = .returned (.int .u32 (rr x 11)) ∧ w' = w := by
  have he : Go.bits BinOp.and IntKind.u64 (IntKind.u64.wrap (-11)) 31 = 21 := by decide
  go_enter Tryd.func27, Tryd.ntmps27
  go_wp2
  go_ret
  exact ⟨by rw [rr, bits_or_comm]; rfl, rfl⟩
theorem rot_13 (x : Int) (w : World) : Calls Tryd.prog 27 #[.int .u32 x, .int .i64 (-13)] w fun e w' => e = .returned (.int .u32 (rr x 13)) ∧ w' = w := by
  have he : Go.bits BinOp.and IntKind.u64 (IntKind.u64.wrap (-13)) 31 = 19 := by decide
  go_enter Tryd.func27, Tryd.ntmps27
  go_wp2
  go_ret
  exact ⟨by rw [rr, bits_or_comm]; rfl, rfl⟩
theorem rot_17 (x : Int) (w : World) : Calls Tryd.prog 27 #[.int .u32 x, .int .i64 (-17)] w fun e w' => e = .returned (.int .u32 (rr x 17)) ∧ w' = w := by
  have he : Go.bits BinOp.and IntKind.u64 (IntKind.u64.wrap (-17)) 31 = 15 := by decide
  go_enter Tryd.func27, Tryd.ntmps27
  go_wp2
  go_ret
  exact ⟨by rw [rr, bits_or_comm]; rfl, rfl⟩
theorem rot_18 (x : Int) (w : World) : Calls Tryd.prog 27 #[.int .u32 x, .int .i64 (-18)] w fun e w' => e = .returned (.int .u32 (rr x 18)) ∧ w' = w := by
  have he : Go.bits BinOp.and IntKind.u64 (IntKind.u64.wrap (-18)) 31 = 14 := by decide
  go_enter Tryd.func27, Tryd.ntmps27
  go_wp2
  go_ret
  exact ⟨by rw [rr, bits_or_comm]; rfl, rfl⟩
theorem rot_19 (x : Int) (w : World) : Calls Tryd.prog 27 #[.int .u32 x, .int .i64 (-19)] w fun e w' => e = .returned (.int .u32 (rr x 19)) ∧ w' = w := by
  have he : Go.bits BinOp.and IntKind.u64 (IntKind.u64.wrap (-19)) 31 = 13 := by decide
  go_enter Tryd.func27, Tryd.ntmps27
  go_wp2
  go_ret
  exact ⟨by rw [rr, bits_or_comm]; rfl, rfl⟩
theorem rot_22 (x : Int) (w : World) : Calls Tryd.prog 27 #[.int .u32 x, .int .i64 (-22)] w fun e w' => e = .returned (.int .u32 (rr x 22)) ∧ w' = w := by
  have he : Go.bits BinOp.and IntKind.u64 (IntKind.u64.wrap (-22)) 31 = 10 := by decide
  go_enter Tryd.func27, Tryd.ntmps27
  go_wp2
  go_ret
  exact ⟨by rw [rr, bits_or_comm]; rfl, rfl⟩
theorem rot_25 (x : Int) (w : World) : Calls Tryd.prog 27 #[.int .u32 x, .int .i64 (-25)] w fun e w' => e = .returned (.int .u32 (rr x 25)) ∧ w' = w := by
  have he : Go.bits BinOp.and IntKind.u64 (IntKind.u64.wrap (-25)) 31 = 7 := by decide
  go_enter Tryd.func27, Tryd.ntmps27
  go_wp2
  go_ret
  exact ⟨by rw [rr, bits_or_comm]; rfl, rfl⟩
def bits_RotateLeft32.f (a0 a1 : Int) : Option (Int) := none
theorem bits_RotateLeft32.calls (a0 : Int) (a1 : Int) (r : Int) (w : World) (h : bits_RotateLeft32.f a0 a1 = some r) :
    Calls Tryd.prog 27 #[.int .u32 a0, .int .i64 a1] w fun e w' => e = .returned (.int .u32 r) ∧ Drawn0 w w' := by cases h

/-! ### hash_spread: function 26, by hand -/
set_option maxHeartbeats 4000000 in
set_option maxRecDepth 100000 in
theorem hash_spread.says (b : ByteArray) (hb : b.size = 64) (w : World) : Calls Tryd.prog 26 #[.string b] w fun e w' => e = .returned (.agg (nums .u32 (spr b.data.toList)).toArray) ∧ Below w.heap.size w w' := by
  have kb := fun (s : ByteArray) W => print_bytes (P := Tryd.prog) 9 23 5 Tryd.underlying9 Tryd.underlying23 Tryd.underlying5 s W
  go_enter Tryd.func26, Tryd.ntmps26
  go_wp2
  go_loopw [10] (fun v10 wr => ∃ k : Nat, k ≤ 16 ∧ v10 = .int .i64 k ∧ ArrK .u32 wr w.heap.size 45 (List.replicate 64 0) ∧ ArrK .u32 wr (w.heap.size + 1) 45 (sprTo b.data.toList k) ∧ Below w.heap.size w wr) (fun v10 _ => 16 - (intOf v10).toNat)
  case atStart =>
    refine ⟨0, by omega, rfl, ?_, ?_, ?_⟩
    · exact arr_alloc (arr_new w 45 (List.replicate 64 0) rfl) _
    · exact arr_new _ 45 (List.replicate 64 0) (by simp)
    · exact ((Below.refl _ _).alloc (Nat.le_refl _) _).alloc (by simp) _
  case round =>
    obtain ⟨k, hk, rfl, hres, harr, hbel⟩ := hrel
    by_cases hlt : k < 16
    · have hdec : decide ((k : Int) < 16) = true := by simp; omega
      have hb' : (b.size : Int) = 64 := by omega
      go_wp2_with fail
      have hbel1 := bytes_below (Below.refl wr.heap.size wr) (Nat.le_refl _) 5 (b.extract (4 * k) 64)
      have hlen : (b.extract (4 * k) 64).size = 64 - 4 * k := by simp; omega
      have hrd := Kd.C_of_reads (d := (0 : Int)) (h1 := fun _ => rfl) (bytes_reads wr 5 (b.extract (4 * k) 64) (by omega))
      have hgc := grownCap_ge wr (b.extract (4 * k) 64).size 0 5
      have hres1 := arr_below hres hbel1
      have harr1 := arr_below harr hbel1
      rw [← bytesOf_length (b.extract (4 * k) 64)] at hrd
      rw [hlen] at hgc
      have hlen2 : 64 - 4 * k = (bytesOf (b.extract (4 * k) 64)).length := by rw [bytesOf_length, hlen]
      have hbsz : w.heap.size ≤ wr.heap.size := hbel.size
      have hbel2 := below_then hbel hbsz hbel1
      generalize hW : Lib.bytesWorld wr 5 (b.extract (4 * k) 64) = w1 at hbel1 hbel2 hrd hres1 harr1 ⊢
      refine (be_Get.says _ _ _ (bytesOf (b.extract (4 * k) 64)) w1 hlen2 hrd (by rw [← hlen2]; exact hgc)).mono ?_
      clear hW hres harr hbel hbel1 hrd hgc hlen hlen2
      rintro e w2 ⟨rfl, rfl⟩
      have hc := arr_cell harr1 k (by rw [sprTo_length]; omega)
      have hf := arr_frozen harr1 k
      go_wp2
      go_roundw
      case measure => simp [intOf]; omega
      case rel =>
        rw [sprGet_is b k hb]
        refine ⟨k + 1, by omega, by go_num, arr_far hres1 (by show w.heap.size ≠ w.heap.size + 1; omega) _, ?_, hbel2.setCell (p := ⟨w.heap.size + 1, k, none⟩) (by show w.heap.size ≤ w.heap.size + 1; omega) _⟩
        rw [sprTo_get _ _ hlt]
        exact arr_set harr1 k _
    · obtain rfl : k = 16 := by omega
      clear hlt hk kb
      go_wp2
      obtain ⟨wo, rfl⟩ : ∃ wo : World, wo = wr := ⟨_, rfl⟩
      go_loopw [5] (fun v5 wr => ∃ j : Nat, j ≤ 48 ∧ v5 = .int .i64 ((j : Int) + 16) ∧ ArrK .u32 wr w.heap.size 45 (List.replicate 64 0) ∧ ArrK .u32 wr (w.heap.size + 1) 45 (sprTo b.data.toList (j + 16)) ∧ Below w.heap.size w wr) (fun v5 _ => 64 - (intOf v5).toNat)
      case atStart => exact ⟨0, by omega, rfl, hres, harr, hbel⟩
      case round =>
        clear hres harr hbel
        obtain ⟨j, hj, rfl, hres, harr, hbel⟩ := hrel
        by_cases hlt : j < 48
        · have hdec : decide ((j : Int) + 16 < 64) = true := by simp; omega
          have l0 := sprTo_length b.data.toList (j + 16)
          have c16 := arr_cell harr j (by omega)
          have c15 := arr_cell harr (j + 1) (by omega)
          have c7 := arr_cell harr (j + 9) (by omega)
          have c2 := arr_cell harr (j + 14) (by omega)
          have c0 := arr_cell harr (j + 16) (by omega)
          have hf := arr_frozen harr (j + 16)
          have Hs := Lib.hid (sprTo_new b.data.toList (j + 16) (by omega))
          obtain ⟨xs, hxs⟩ : ∃ xs, sprTo b.data.toList (j + 16) = xs := ⟨_, rfl⟩
          rw [hxs] at l0 c16 c15 c7 c2 c0 harr Hs
          have hxs := Lib.hid hxs
          have e15 : IntKind.i64.wrap ((j : Int) + 16 - 15) = ((j + 1 : Nat) : Int) := (IntWalk.i64_in _ (by omega)).trans (by omega)
          have e2 : IntKind.i64.wrap ((j : Int) + 16 - 2) = ((j + 14 : Nat) : Int) := (IntWalk.i64_in _ (by omega)).trans (by omega)
          have b15 : (0 ≤ ((j + 1 : Nat) : Int) ∧ ((j + 1 : Nat) : Int) < 64) = True := by simp; omega
          have b2 : (0 ≤ ((j + 14 : Nat) : Int) ∧ ((j + 14 : Nat) : Int) < 64) = True := by simp; omega
          clear l0
          go_wp2_with fail
          go_quiet (fail)
          have hbsz : w.heap.size ≤ wr.heap.size := hbel.size
          have hbelN : Below wr.heap.size wr (wr.drewN nq) := ⟨rfl, rfl, rfl, Nat.le_refl _, fun _ _ => rfl⟩
          have hbel2 := below_then hbel hbsz hbelN
          have harr2 := arr_below harr hbelN
          have hres2 := arr_below hres hbelN
          clear hbelN
          generalize wr.drewN nq = w2 at hbel2 harr2 hres2 ⊢
          clear harr hres hbel c16 c15 c7 c2 c0 hf
          go_wp2_with fail
          refine (rot_7 _ _).mono ?_
          rintro e w3 ⟨rfl, rfl⟩
          go_wp2_with fail
          refine (rot_18 _ _).mono ?_
          rintro e w3 ⟨rfl, rfl⟩
          go_wp2_with fail
          refine (rot_17 _ _).mono ?_
          rintro e w4 ⟨rfl, rfl⟩
          go_wp2_with fail
          refine (rot_19 _ _).mono ?_
          rintro e w5 ⟨rfl, rfl⟩
          have l0 : xs.length = 64 := by rw [← (show sprTo b.data.toList (j + 16) = xs from hxs)]; exact sprTo_length _ _
          have e16 : IntKind.i64.wrap (j : Int) = (j : Int) := IntWalk.i64_in _ (by omega)
          have e7 : IntKind.i64.wrap ((j : Int) + 16 - 7) = (j : Int) + 9 := (IntWalk.i64_in _ (by omega)).trans (by omega)
          have t7 : ((j : Int) + 9).toNat = j + 9 := by omega
          have e0 : ((j : Int) + 16).toNat = j + 16 := by omega
          have b16 : ((j : Int) < 64) = True := by simp; omega
          have b7 : (0 ≤ (j : Int) + 9 ∧ (j : Int) + 9 < 64) = True := by simp; omega
          have b0 : (0 ≤ (j : Int) + 16 ∧ (j : Int) + 16 < 64) = True := by simp; omega
          have c16 := arr_cell harr2 j (by omega)
          have c7 := arr_cell harr2 (j + 9) (by omega)
          have hf := arr_frozen harr2 (j + 16)
          clear b15 b2 e15 e2
          go_wp2_with fail
          go_still_tail 15, (by kernel_rfl)
          change wpList _ _ _ _ _ w5.drew
          have hbel3 : Below w.heap.size w w5.drew := below_drew hbel2
          have harr3 : ArrK .u32 w5.drew (w.heap.size + 1) 45 xs := harr2
          have hres3 : ArrK .u32 w5.drew w.heap.size 45 _ := hres2
          clear hbel2 harr2 hres2 c16 c7 hf
          generalize w5.drew = w6 at hbel3 harr3 hres3 ⊢
          have hf := arr_frozen harr3 (j + 16)
          have c0 := arr_cell harr3 (j + 16) (by omega)
          go_wp2_with fail
          refine ⟨?_, ?measure⟩
          apply Exists.intro
          (repeat apply Exists.intro)
          refine ⟨?rel, rfl⟩
          case measure => simp [intOf]; omega
          case rel =>
            refine ⟨j + 1, by omega, by go_num, arr_far hres3 (by show w.heap.size ≠ w.heap.size + 1; omega) _, ?_, hbel3.setCell (p := ⟨w.heap.size + 1, j + 16, none⟩) (by show w.heap.size ≤ w.heap.size + 1; omega) _⟩
            rw [show j + 1 + 16 = j + 16 + 1 by omega, (show sprTo b.data.toList (j + 16 + 1) = xs.set (j + 16) (sprNew xs (j + 16)) from Hs), show sprNew xs (j + 16) = (rd xs (j : Int) + lowW (rd xs ((j + 1 : Nat) : Int)) + rd xs ((j + 9 : Nat) : Int) + highW (rd xs ((j + 14 : Nat) : Int))) % 4294967296 by
              unfold sprNew
              rw [show ((j + 16 : Nat) : Int) - 16 = (j : Int) by omega, show ((j + 16 : Nat) : Int) - 15 = ((j + 1 : Nat) : Int) by omega, show ((j + 16 : Nat) : Int) - 7 = ((j + 9 : Nat) : Int) by omega, show ((j + 16 : Nat) : Int) - 2 = ((j + 14 : Nat) : Int) by omega]]
            exact arr_set harr3 (j + 16) _
        · obtain rfl : j = 48 := by omega
          clear hlt hj
          go_upto_region 14 with fail
          have l0 := sprTo_length b.data.toList 64
          apply wp_region_lit
          refine arr_load harr 45 (.tmp 3) rfl rfl rfl rfl (by rw [l0]; rfl) ?_
          refine arr_store hres (sprTo b.data.toList 64) (by rw [l0]; rfl) 45 (.tmp 2) (.tmp 65) rfl rfl rfl rfl (by rw [l0]; rfl) ?_
          refine wpList_nil ?_
          have hres2 := arr_setRow hres (sprTo b.data.toList 64)
          have hbel2 := below_setRow hbel (Nat.le_refl _) (nums .u32 (sprTo b.data.toList 64)).toArray
          go_wp2_with fail
          exact bodyPost_ret (arr_result hres2 rfl _ rfl rfl (by rw [l0]; rfl)) rfl ⟨rfl, hbel2⟩
def hash_spread.f (a0 : ByteArray) : Option (List Int) := none
theorem hash_spread.calls (a0 : ByteArray) (r : List Int) (w : World) (h : hash_spread.f a0 = some r) :
    Calls Tryd.prog 26 #[.string a0] w fun e w' => e = .returned (.agg (nums .u32 r).toArray) ∧ Below w.heap.size w w' := by cases h

/-! ### hash_mix: function 23, by hand -/
set_option maxHeartbeats 4000000 in
set_option maxRecDepth 100000 in
theorem hash_mix.says (hs : List Int) (hl : hs.length = 8) (b : ByteArray) (hb : b.size = 64) (w : World) (hG : GL w) : Calls Tryd.prog 23 #[.agg (nums .u32 hs).toArray, .string b] w fun e w' => e = .returned (.agg (nums .u32 (mixed hs b.data.toList)).toArray) ∧ Below w.heap.size w w' := by
  go_enter Tryd.func23, Tryd.ntmps23
  go_upto_region 1 with fail
  obtain ⟨w0, hw0⟩ : ∃ w0 : World, w0 = (w.alloc (.cells (nums .u32 hs).toArray 46)).alloc (.cells (nums .u32 (List.replicate 8 0)).toArray 46) := ⟨_, rfl⟩
  have hbel0 : Below w.heap.size w w0 := by rw [hw0]; exact ((Below.refl _ _).alloc (Nat.le_refl _) _).alloc (by simp) _
  have hh0 : ArrK .u32 w0 w.heap.size 46 hs := by rw [hw0]; exact arr_alloc (arr_new _ _ _ rfl) _
  have hr0 : ArrK .u32 w0 (w.heap.size + 1) 46 (List.replicate 8 0) := by rw [hw0]; exact arr_new _ _ _ (by simp)
  have hs0 : w0.heap.size = w.heap.size + 2 := by rw [hw0]; simp
  rw [show ((w.alloc (.cells (nums .u32 hs).toArray 46)).alloc (.cells #[Value.int IntKind.u32 0, Value.int IntKind.u32 0, Value.int IntKind.u32 0, Value.int IntKind.u32 0, Value.int IntKind.u32 0, Value.int IntKind.u32 0, Value.int IntKind.u32 0, Value.int IntKind.u32 0] 46)) = w0 from hw0.symm]
  clear hw0
  have hG0 := hG.below hbel0
  go_wp2_with (fail)
  refine (hash_spread.says b hb w0).mono ?_
  rintro e w1 ⟨rfl, hb1⟩
  have hbel1 := below_then hbel0 (by omega) hb1
  have hh1 := arr_below hh0 hb1
  have hr1 := arr_below hr0 hb1
  have hG1 := hG0.below hb1
  have hs1 : w.heap.size + 2 ≤ w1.heap.size := by rw [← hs0]; exact hb1.size
  clear hG0 hbel0 hh0 hr0 hb1 hG
  go_upto_region 2 with (refine arr_store (arr_new w1 45 (List.replicate 64 0) rfl) (spr b.data.toList) (by rw [spr_length]; rfl) 45 (.tmp 5) (.tmp 17) rfl rfl rfl rfl (by rw [spr_length]; rfl) ?_)
  refine wp_world ?_
  intro w2 hw2
  have hX2 : ArrK .u32 w2 w1.heap.size 45 (spr b.data.toList) := by rw [hw2]; exact arr_setRow (arr_new w1 45 (List.replicate 64 0) rfl) _
  have hb2 : Below w1.heap.size w1 w2 := by rw [hw2]; exact below_setRow ((Below.refl _ _).alloc (Nat.le_refl _) _) (Nat.le_refl _) _
  have hs2 : w1.heap.size + 1 ≤ w2.heap.size := by rw [hw2]; simp
  clear hw2
  have hbel2 := below_then hbel1 (by omega) hb2
  have hh2 := arr_below hh1 hb2
  have hr2 := arr_below hr1 hb2
  have hG2 := hG1.below hb2
  clear hG1 hbel1 hh1 hr1 hb2
  go_upto_region 3 with (first | refine arr_load hh2 46 (.tmp 2) rfl rfl rfl rfl (by rw [hl]; rfl) ?_ | refine arr_store (arr_new w2 46 (List.replicate 8 0) rfl) hs (by rw [hl]; rfl) 46 (.tmp 6) (.tmp 18) rfl rfl rfl rfl (by rw [hl]; rfl) ?_)
  refine wp_world ?_
  intro w3 hw3
  have hS3 : ArrK .u32 w3 w2.heap.size 46 hs := by rw [hw3]; exact arr_setRow (arr_new w2 46 (List.replicate 8 0) rfl) _
  have hb3 : Below w2.heap.size w2 w3 := by rw [hw3]; exact below_setRow ((Below.refl _ _).alloc (Nat.le_refl _) _) (Nat.le_refl _) _
  have hs3 : w2.heap.size + 1 ≤ w3.heap.size := by rw [hw3]; simp
  clear hw3
  have hbel3 := below_then hbel2 (by omega) hb3
  have hh3 := arr_below hh2 hb3
  have hr3 := arr_below hr2 hb3
  have hX3 := arr_below hX2 hb3
  have hG3 := hG2.below hb3
  clear hG2 hbel2 hh2 hr2 hX2 hb3
  obtain ⟨_, _, -, hGr⟩ := hG3
  go_upto_region 4 with (refine arr_load hGr 45 (.global 1) rfl rfl rfl rfl rfl ?_)
  clear hGr
  go_loopw [20] (fun v20 wr => ∃ i : Nat, i ≤ 64 ∧ v20 = .int .i64 i ∧ ArrK .u32 wr w.heap.size 46 hs ∧ ArrK .u32 wr (w.heap.size + 1) 46 (List.replicate 8 0) ∧ ArrK .u32 wr w1.heap.size 45 (spr b.data.toList) ∧ ArrK .u32 wr w2.heap.size 46 (mixTo (spr b.data.toList) hs i) ∧ Below w.heap.size w wr) (fun v20 _ => 64 - (intOf v20).toNat)
  case atStart => exact ⟨0, by omega, rfl, hh3, hr3, hX3, hS3, hbel3⟩
  case round =>
    clear hh3 hr3 hX3 hS3 hbel3
    obtain ⟨i, hi, rfl, hh, hr, hX, hS, hbel⟩ := hrel
    by_cases hlt : i < 64
    · have hdec : decide ((i : Int) < 64) = true := by simp; omega
      have lX := spr_length b.data.toList
      have lS := mixTo_length (spr b.data.toList) hs hl i
      have hidx : ∀ W, Sem.run Tryd.prog (Instr.index 45 (.agg (nums .u32 roundsL).toArray) (.int .i64 (i : Int))) W = .ok (.int .u32 (rd roundsL (i : Int))) W := fun W => run_index_num (n := 64) rfl rfl rfl rfl rfl rfl i hlt W
      obtain ⟨ss, hss⟩ : ∃ ss, ss = mixTo (spr b.data.toList) hs i := ⟨_, rfl⟩
      rw [← hss] at lS hS
      have s0 := arr_cell hS 0 (by omega)
      have s4 := arr_cell hS 4 (by omega)
      have Hss := Lib.hid hss
      clear hss
      go_wp2_with (fail)
      go_quiet (fail)
      have hbsz : w.heap.size ≤ wr.heap.size := hbel.size
      have hbelN : Below wr.heap.size wr (wr.drewN nq) := ⟨rfl, rfl, rfl, Nat.le_refl _, fun _ _ => rfl⟩
      have hbel2 := below_then hbel hbsz hbelN
      have hh2 := arr_below hh hbelN
      have hr2 := arr_below hr hbelN
      have hX2 := arr_below hX hbelN
      have hS2 := arr_below hS hbelN
      clear hbelN s0 s4 hh hr hX hS hbel
      generalize wr.drewN nq = w4 at hbel2 hh2 hr2 hX2 hS2 ⊢
      go_wp2_with fail
      refine (rot_6 _ _).mono ?_
      rintro e w5 ⟨rfl, rfl⟩
      go_wp2_with fail
      refine (rot_11 _ _).mono ?_
      rintro e w6 ⟨rfl, rfl⟩
      go_wp2_with fail
      refine (rot_25 _ _).mono ?_
      rintro e w7 ⟨rfl, rfl⟩
      go_wp2_with fail
      refine (rot_2 _ _).mono ?_
      rintro e w8 ⟨rfl, rfl⟩
      go_wp2_with fail
      refine (rot_13 _ _).mono ?_
      rintro e w9 ⟨rfl, rfl⟩
      go_wp2_with fail
      refine (rot_22 _ _).mono ?_
      rintro e w10 ⟨rfl, rfl⟩
      go_wp2_with fail
      have s1 := arr_cell hS2 1 (by omega)
      have s2 := arr_cell hS2 2 (by omega)
      have s5 := arr_cell hS2 5 (by omega)
      have s6 := arr_cell hS2 6 (by omega)
      have s7 := arr_cell hS2 7 (by omega)
      have x0 := arr_cell hX2 i (by omega)
      have b0 : ((i : Int) < 64) = True := by simp; omega
      go_still (by kernel_rfl)
      obtain ⟨one, hone⟩ : ∃ one, one = mixOne (spr b.data.toList) ss i := ⟨_, rfl⟩
      rw [show IntKind.u32.wrap (IntKind.u32.wrap (IntKind.u32.wrap (IntKind.u32.wrap (rd ss 7 + bits BinOp.xor IntKind.u32 (bits BinOp.xor IntKind.u32 (rr (rd ss 4) 6) (rr (rd ss 4) 11)) (rr (rd ss 4) 25)) + bits BinOp.xor IntKind.u32 (bits BinOp.and IntKind.u32 (rd ss 4) (rd ss 5)) (bits BinOp.and IntKind.u32 (bits BinOp.xor IntKind.u32 (if IntKind.u32.signed = true then -1 else IntKind.u32.max) (rd ss 4)) (rd ss 6))) + rd roundsL i) + rd (spr b.data.toList) i) = one from hone.symm]
      have Hone := Lib.hid hone
      clear hone
      change Exit.then _ _ _ _ w10.drew
      clear hidx s1 s2 s5 s6 s7 x0 b0 hdec
      rw [show (if IntKind.u32.signed = true then (-1 : Int) else IntKind.u32.max) = 4294967295 from rfl]
      have s0 := arr_cell hS2 0 (by omega)
      have s1 := arr_cell hS2 1 (by omega)
      have s2 := arr_cell hS2 2 (by omega)
      have s3 := arr_cell hS2 3 (by omega)
      have s4 := arr_cell hS2 4 (by omega)
      have s5 := arr_cell hS2 5 (by omega)
      have s6 := arr_cell hS2 6 (by omega)
      go_upto_region 11 with fail
      obtain ⟨two, htwo⟩ : ∃ two, two = mixTwo ss := ⟨_, rfl⟩
      rw [show (bits BinOp.xor IntKind.u32 (bits BinOp.xor IntKind.u32 (rr (rd ss 0) 2) (rr (rd ss 0) 13)) (rr (rd ss 0) 22) + bits BinOp.xor IntKind.u32 (bits BinOp.xor IntKind.u32 (bits BinOp.and IntKind.u32 (rd ss 0) (rd ss 1)) (bits BinOp.and IntKind.u32 (rd ss 0) (rd ss 2))) (bits BinOp.and IntKind.u32 (rd ss 1) (rd ss 2))) % 4294967296 = two from (IntKind.wrap_u32 _).symm.trans htwo.symm]
      have Htwo := Lib.hid htwo
      clear htwo
      have hS3 : ArrK .u32 w10.drew w2.heap.size 46 ss := hS2
      go_upto_region 12 with (refine arr_store hS3 [(one + two) % 4294967296, rd ss 0, rd ss 1, rd ss 2, (rd ss 3 + one) % 4294967296, rd ss 4, rd ss 5, rd ss 6] lS 46 (.tmp 6) (.tmp 101) rfl rfl rfl rfl rfl ?_)
      refine wp_world ?_
      intro w11 hw11
      have hst : mixStep (spr b.data.toList) ss i = [(one + two) % 4294967296, rd ss 0, rd ss 1, rd ss 2, (rd ss 3 + one) % 4294967296, rd ss 4, rd ss 5, rd ss 6] := by
        rw [show one = mixOne (spr b.data.toList) ss i from Hone, show two = mixTwo ss from Htwo]
        unfold mixStep
        simp only [w32, IntKind.wrap_u32]
      have hS5 : ArrK .u32 w11 w2.heap.size 46 (mixTo (spr b.data.toList) hs (i + 1)) := by
        rw [hw11, mixTo_succ, ← (show ss = mixTo (spr b.data.toList) hs i from Hss), hst]
        exact arr_setRow hS3 _
      have hh5 : ArrK .u32 w11 w.heap.size 46 hs := by rw [hw11]; exact arr_setRow_far hh2 (by omega) _
      have hr5 : ArrK .u32 w11 (w.heap.size + 1) 46 (List.replicate 8 0) := by rw [hw11]; exact arr_setRow_far hr2 (by omega) _
      have hX5 : ArrK .u32 w11 w1.heap.size 45 (spr b.data.toList) := by rw [hw11]; exact arr_setRow_far hX2 (by omega) _
      have hbel5 : Below w.heap.size w w11 := by rw [hw11]; exact below_setRow (below_drew hbel2) (by omega) _
      clear hw11 hst Hone Htwo Hss hS3 hS2 hh2 hr2 hX2 hbel2 s0 s1 s2 s3 s4 s5 s6
      go_wp2_with fail
      exact ⟨⟨i + 1, by omega, by go_num, hh5, hr5, hX5, hS5, hbel5⟩, by simp [intOf]; omega⟩
    · obtain rfl : i = 64 := by omega
      clear hlt hi
      go_upto_region 14 with fail
      obtain ⟨SS, hSS⟩ : ∃ SS, SS = mixTo (spr b.data.toList) hs 64 := ⟨_, rfl⟩
      have lS := mixTo_length (spr b.data.toList) hs hl 64
      rw [← hSS] at hS lS
      have HSS := Lib.hid hSS
      clear hSS
      go_loopw [103] (fun v103 wr => ∃ j : Nat, j ≤ 8 ∧ v103 = .int .i64 j ∧ ArrK .u32 wr w.heap.size 46 (addTo SS hs j) ∧ ArrK .u32 wr (w.heap.size + 1) 46 (List.replicate 8 0) ∧ ArrK .u32 wr w2.heap.size 46 SS ∧ Below w.heap.size w wr) (fun v103 _ => 8 - (intOf v103).toNat)
      case atStart => exact ⟨0, by omega, rfl, hh, hr, hS, hbel⟩
      case round =>
        clear hh hr hS hbel hX
        obtain ⟨j, hj, rfl, hh, hr, hS, hbel⟩ := hrel
        by_cases hlt : j < 8
        · have hdec : decide ((j : Int) < 8) = true := by simp; omega
          have b0 : ((j : Int) < 8) = True := by simp; omega
          have la := (addTo_length SS hs j).trans hl
          obtain ⟨hj2, hhj⟩ : ∃ xs, xs = addTo SS hs j := ⟨_, rfl⟩
          rw [← hhj] at hh la
          have Hhj := Lib.hid hhj
          clear hhj
          have c0 := arr_cell hh j (by omega)
          have d0 := arr_cell hS j (by omega)
          have f0 := arr_frozen hh j
          go_wp2_with fail
          go_still_tail 8, (by kernel_rfl)
          change wpList _ _ _ _ _ wr.drew
          have hbel3 : Below w.heap.size w wr.drew := below_drew hbel
          have hh3 : ArrK .u32 wr.drew w.heap.size 46 hj2 := hh
          have hr3 : ArrK .u32 wr.drew (w.heap.size + 1) 46 _ := hr
          have hS3 : ArrK .u32 wr.drew w2.heap.size 46 SS := hS
          clear hbel hh hr hS c0 d0 f0
          generalize wr.drew = w6 at hbel3 hh3 hr3 hS3 ⊢
          have f0 := arr_frozen hh3 j
          have c0 := arr_cell hh3 j (by omega)
          go_wp2_with fail
          refine ⟨?_, ?measure⟩
          apply Exists.intro
          (repeat apply Exists.intro)
          refine ⟨?rel, rfl⟩
          case measure => simp [intOf]; omega
          case rel =>
            refine ⟨j + 1, by omega, by go_num, ?_, arr_far hr3 (by show w.heap.size + 1 ≠ w.heap.size; omega) _, arr_far hS3 (by show w2.heap.size ≠ w.heap.size; omega) _, hbel3.setCell (p := ⟨w.heap.size, j, none⟩) (by show w.heap.size ≤ w.heap.size; omega) _⟩
            rw [addTo_succ, ← (show hj2 = addTo SS hs j from Hhj)]
            exact arr_set hh3 j _
        · obtain rfl : j = 8 := by omega
          clear hlt hj
          go_upto_region 18 with fail
          have la := (addTo_length SS hs 8).trans hl
          apply wp_region_lit
          refine arr_load hh 46 (.tmp 2) rfl rfl rfl rfl (by rw [la]; rfl) ?_
          refine arr_store hr (addTo SS hs 8) (by rw [la]; rfl) 46 (.tmp 4) (.tmp 115) rfl rfl rfl rfl (by rw [la]; rfl) ?_
          refine wpList_nil ?_
          have hr2 := arr_setRow hr (addTo SS hs 8)
          have hbel2 := below_setRow hbel (show w.heap.size ≤ w.heap.size + 1 by omega) (nums .u32 (addTo SS hs 8)).toArray
          go_wp2_with fail
          exact bodyPost_ret (arr_result hr2 rfl _ rfl rfl (by rw [la]; rfl)) rfl ⟨by rw [show SS = mixTo (spr b.data.toList) hs 64 from HSS]; rfl, hbel2⟩
def hash_mix.f (a0 : List Int) (a1 : ByteArray) : Option (List Int) := none
theorem hash_mix.calls (a0 : List Int) (a1 : ByteArray) (r : List Int) (w : World) (h : hash_mix.f a0 a1 = some r) :
    Calls Tryd.prog 23 #[.agg (nums .u32 a0).toArray, .string a1] w fun e w' => e = .returned (.agg (nums .u32 r).toArray) ∧ Below w.heap.size w w' := by cases h

end Go.Proofs.YtkmnbnfkpccobaaDoor.Q
