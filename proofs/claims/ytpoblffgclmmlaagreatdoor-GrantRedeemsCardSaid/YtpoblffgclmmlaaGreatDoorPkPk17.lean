/- A part of the proof of a card: what some functions of the program come to, each under the conditions that its theorem names. -/
import Derived.Laws.Cover1
import Derived.Test.YtpoblffgclmmlaaGreatDoorPkPk16
section
set_option linter.unusedVariables false
set_option linter.unusedSimpArgs false
namespace Go.Proofs.YtpoblffgclmmlaaGreatDoor.X
open Go.RowKit Go.WideMaps Go.Maps Go.Proofs.YtpoblffgclmmlaaGreatDoorW.PrintWords Go.Proofs.YtpoblffgclmmlaaGreatDoorW.PrintLast Go.Proofs.YtpoblffgclmmlaaGreatDoorW.PrintMore Go.Proofs.YtpoblffgclmmlaaGreatDoor.Q

/-- The inner loop's word. -/
def InR (c : S69) (out : List S82) (w9 : World) (v7 v8 v9 : Value) (wq : World) : Prop :=
 ∃ (j : Nat) (nx : List S82) (pl : Bool), v8 = .bool pl ∧ v9 = .int .i64 j ∧ j ≤ out.length ∧ stepsT c (out.take j) = (nx, pl) ∧ nx.length ≤ 2 * j ∧ Kd.R k82 82 wq w9.heap.size (fun _ => True) v7 nx ∧ Below w9.heap.size w9 wq
theorem inR_next (c : S69) (out nx : List S82) (w9 wq : World) (v : Value) (pl : Bool) (j : Nat) (hj : j + 1 ≤ out.length) (hst : stepsT c (out.take (j + 1)) = (nx, pl)) (hnl : nx.length ≤ 2 * (j + 1))
  (hr : Kd.R k82 82 wq w9.heap.size (fun _ => True) v nx) (hb : Below w9.heap.size w9 wq) :
  InR c out w9 v (.bool pl) (.int .i64 ((j : Int) + 1)) wq ∧ out.length - (intOf (.int .i64 ((j : Int) + 1))).toNat < out.length - (intOf (.int .i64 (j : Int))).toNat := by
 refine ⟨⟨j + 1, nx, pl, rfl, rfl, hj, hst, hnl, hr, hb⟩, ?_⟩
 simp only [intOf]; omega
theorem st_pos {p : Prop} [Decidable p] {a b : List S82} {q : List S82 × Bool} {pl : Bool} (h : q = ((if p then a else b), pl)) (hp : p) : q = (a, pl) := by rw [h, if_pos hp]
theorem st_neg {p : Prop} [Decidable p] {a b : List S82} {q : List S82 × Bool} {pl : Bool} (h : q = ((if p then a else b), pl)) (hp : ¬ p) : q = (b, pl) := by rw [h, if_neg hp]
theorem len0_ {nx : List S82} {j : Nat} (h : nx.length ≤ 2 * j) : nx.length ≤ 2 * (j + 1) := by omega
theorem len1_ {nx : List S82} {a : S82} {j : Nat} (h : nx.length ≤ 2 * j) : (nx ++ [a]).length ≤ 2 * (j + 1) := by simp only [List.length_append, List.length_singleton]; omega
theorem len2_ {nx : List S82} {a b : S82} {j : Nat} (h : nx.length ≤ 2 * j) : (nx ++ [a] ++ [b]).length ≤ 2 * (j + 1) := by simp only [List.length_append, List.length_singleton]; omega
theorem keq_of {a b : ByteArray} (h : (a.toList == b.toList) = true) : a = b := kl_inj (bytes_list.1 (eq_of_beq h))
theorem kne_of {a b : ByteArray} (h : (a.toList == b.toList) = false) : ¬ a = b := fun e => by rw [e] at h; simp at h
/-- The outer loop's word. -/
def OutR (rows : List S82) (l : List S69) (w : World) (v5 v6 : Value) (wr : World) : Prop :=
 ∃ (i : Nat) (out : List S82), v6 = .int .i64 i ∧ i ≤ l.length ∧ out = turnR rows (l.take i) ∧ out.length ≤ rows.length + i ∧ Kd.R k82 82 wr w.heap.size (fun _ => True) v5 out ∧ Below w.heap.size w wr
theorem outR_next (rows out : List S82) (l : List S69) (w wr : World) (v : Value) (i : Nat) (hi : i + 1 ≤ l.length) (ht : turnR rows (l.take (i + 1)) = out) (hl : out.length ≤ rows.length + (i + 1))
  (hr : Kd.R k82 82 wr w.heap.size (fun _ => True) v out) (hb : Below w.heap.size w wr) :
  OutR rows l w v (.int .i64 ((i : Int) + 1)) wr ∧ l.length - (intOf (.int .i64 ((i : Int) + 1))).toNat < l.length - (intOf (.int .i64 (i : Int))).toNat := by
 refine ⟨⟨i + 1, out, rfl, hi, ht.symm, hl, hr, hb⟩, ?_⟩
 simp only [intOf]; omega
set_option maxHeartbeats 8000000 in
set_option maxRecDepth 100000 in
theorem Turn_says (A0 A1 : Option Addr) (c0 c1 : Nat) (rows : List S82) (l : List S69) (w : World) (h0 : Kd.C k82 w A0 rows.length rows) (h1 : Kd.C k69 w A1 l.length l) (hc0 : rows.length ≤ c0) (hc1 : l.length ≤ c1) (hl : rows.length + l.length ≤ 1000000000) (hris0 : Ris rows) :
  Calls Tryz.prog 86 #[.slice A0 rows.length c0, .slice A1 l.length c1] w fun e w' => ∃ v, e = .returned v ∧ Kd.R k82 82 w' w.heap.size (fun _ => True) v (turnR rows l) ∧ Below w.heap.size w w' := by
 have h0' : ∀ o, Kd.C k82 (w.alloc o) A0 rows.length rows := fun o => Kd.C_below h0 (below_alloc (Below.refl _ w) o)
 have L0 := Lib.hid (show (([] : List S82).length + rows.length) * 32 ≤ 140737488355328 by rw [List.length_nil]; omega)
 go_enter Tryz.func86, Tryz.ntmps86
 go_wp2_with (first
  | ((with_reducible refine gate_dst (N := 10) rfl ?_); refine Kd.R_lit k82 _ 82 ?hg (N := 10) ?hd (xs := ([] : List (S82))) (inner := []) (ok := fun _ => True) (okp := fun _ => True) ?hr ?hp (fun _ hk => hk) trivial (Below.refl _ _) (Nat.le_refl _) (by simp) ?_; (case hd => rfl); (case hg => rfl); (case hr => first | (go_simp; done) | (go_simp; rfl)); (case hp => exact (Reps.none _ _)); intro v302 w4 ho5 hb5 hg_ hnew_; clear hg_ hnew_; have h04 := Kd.C_below h0 hb5)
  | ((with_reducible refine gate_builtin (b := .append) (xs := #[.tmp 10, .tmp 11]) rfl ?_); at_builtin; refine Kd.R_append_rows k82 (w0 := w) w.heap.size rfl (.tmp 10) (.tmp 11) 47 82 (.agg #[(.string ⟨#[]⟩), (.string ⟨#[]⟩)]) 32 rfl Tryz.underlying47 (by kernel_rfl) rfl (by decide) (by decide) v302 [] rows _ _ _ (fun _ => True) (fun _ => False) rfl rfl ho5 h04 (fun _ _ h => h) (fun _ h => h.elim) (fun _ _ => trivial) hb5 hb5.size L0 ?_; intro v5 w5 ho6 hb6 hg6 hat6; clear ho5 hb5 h04 hg6 hat6))
 rw [List.nil_append] at ho6
 go_loopw [5, 6] (fun v5 v6 wr => OutR rows l w v5 v6 wr) (fun _ v6 _ => l.length - (intOf v6).toNat)
 case atStart => exact ⟨0, rows, rfl, Nat.zero_le _, rfl, Nat.le_add_right _ _, ho6, hb6⟩
 case round =>
  obtain ⟨i, out, rfl, hi, hout, hol, hr, hb⟩ := hrel
  clear ho6 hb6 h0' h0
  have hC1 := Kd.C_below h1 hb
  by_cases hlt : i < l.length
  ·
   have d1 : decide ((i : Int) < (l.length : Int)) = true := decide_eq_true (by omega)
   obtain ⟨ad1, rfl, hz0, hz1, hz2⟩ := at_T69 hC1 (i : Int) (by omega) (by omega)
   have hrd : rd_T69 l (i : Int) = l.getD i z69 := by unfold rd_T69; rw [Int.toNat_natCast]
   rw [hrd] at hz0 hz1 hz2
   simp only [Int.toNat_natCast] at hz0 hz1 hz2
   have htk : turnR rows (l.take (i + 1)) = turn1 out (l.getD i z69) := by rw [turnR_take rows l i hlt, ← hout]
   have hris : Ris out := by rw [hout]; exact hris0.turn _
   clear hrd
   obtain ⟨c, hc⟩ : ∃ c, c = l.getD i z69 := ⟨_, rfl⟩
   rw [← hc] at hz0 hz1 hz2 htk
   clear hc hout
   obtain ⟨k, v, g⟩ := c
   simp only at hz0 hz1 hz2
   have i3 : ((i : Int) < (l.length : Int)) = True := eq_true (by omega)
   have i0 : (0 ≤ (i : Int)) = True := eq_true (by omega)
   have e1 : IntKind.i64.wrap ((i : Int) + 1) = (i : Int) + 1 := IntWalk.i64_in _ (by omega)
   have Htk := Lib.hid htk
   have Hi := Lib.hid (show i + 1 ≤ l.length by omega)
   clear htk
   obtain ⟨Ao, co, eo⟩ := Kd.R_slice hr
   subst eo
   go_upto_region 5 with (fail)
   have hr := Kd.R_drew hr
   have hb := below_drew1 hb
   have hbd : Below wr.heap.size wr wr.drew := below_drew1 (Below.refl _ wr)
   have hz0 := (hbd.cell (World.block_lt_of_cell? _ _ hz0)).trans hz0
   have hz1 := (hbd.cell (World.block_lt_of_cell? _ _ hz1)).trans hz1
   have hz2 := (hbd.cell (World.block_lt_of_cell? _ _ hz2)).trans hz2
   have hC1 := Kd.C_below hC1 hbd
   clear hbd
-- [R5
   refine start_ (n := 8) (S := fun w' => w'.cell? ⟨(ad1.add (i * 3)).block, (ad1.add (i * 3)).off + 2, none⟩ = some (.bool g)) (ds := []) #[false, false, false, false, false, false, false, false] (by kernel_rfl) rfl rfl (hz2) (fun hHeld => ?_)
   generalize wr.drew = w9 at hr hC1 hz0 hz1 hz2 hb hHeld ⊢
   refine pure_ (i := 1) (N := some 20) (v := ?_) (a' := ?_) #[false, true, false, false, false, false, false, false] rfl rfl (by kernel_rfl) (fun _ _ _ h => h) (Or.inl ⟨by rfl, ?_⟩) ?_ ?_
   rotate_left
   ·
    intro w'
    go_simp
    with_reducible rfl
   rotate_left
   ·
    simp only [Act.put, List.setIfInBounds_toArray, List.set_cons_zero, List.set_cons_succ, i64_w, i32_w]
    rfl
   refine pure_ (i := 2) (N := some 21) (v := ?_) (a' := ?_) #[false, true, true, false, false, false, false, false] rfl rfl (by kernel_rfl) (fun _ _ _ h => h) (Or.inl ⟨by rfl, ?_⟩) ?_ ?_
   rotate_left
   ·
    intro w'
    go_simp
    with_reducible rfl
   rotate_left
   ·
    simp only [Act.put, List.setIfInBounds_toArray, List.set_cons_zero, List.set_cons_succ, i64_w, i32_w]
    rfl
   refine pure_ (i := 3) (N := some 22) (v := ?_) (a' := ?_) #[false, true, true, true, false, false, false, false] rfl rfl (by kernel_rfl) (fun _ _ _ h => h) (Or.inl ⟨by rfl, ?_⟩) ?_ ?_
   rotate_left
   ·
    intro w'
    go_simp
    with_reducible rfl
   rotate_left
   ·
    simp only [Act.put, List.setIfInBounds_toArray, List.set_cons_zero, List.set_cons_succ, i64_w, i32_w]
    rfl
   refine pure_ (i := 4) (N := some 23) (v := ?_) (a' := ?_) #[false, true, true, true, true, false, false, false] rfl rfl (by kernel_rfl) (fun _ _ _ h => h) (Or.inl ⟨by rfl, ?_⟩) ?_ ?_
   rotate_left
   ·
    intro w'
    go_simp
    with_reducible rfl
   rotate_left
   ·
    simp only [Act.put, List.setIfInBounds_toArray, List.set_cons_zero, List.set_cons_succ, i64_w, i32_w]
    rfl
   refine take_ (i := 5) (N := some 24) (v := ?_) (a' := ?_) #[false, true, true, true, true, true, false, false] rfl rfl (by kernel_rfl) (fun _ _ _ h => h) (Or.inl ⟨by rfl, ?_⟩) hHeld ?_ ?_
   rotate_left
   ·
    intro w' s0
    go_simp
    with_reducible rfl
   rotate_left
   ·
    simp only [Act.put, List.setIfInBounds_toArray, List.set_cons_zero, List.set_cons_succ, i64_w, i32_w]
    rfl
   refine one_ (i := 0) (N := some 19) #[true, true, true, true, true, true, false, false] rfl rfl (by kernel_rfl) (by decide) (fun K hK => ?_)
   refine Kd.R_lit_step k82 _ 82 ?hg (N := 19) ?hd (xs := ([] : List (S82))) (inner := []) (ok := fun _ => True) (okp := fun _ => True) ?hr ?hp (fun _ hk => hk) trivial (Below.refl _ w9) (Nat.le_refl _) (by simp) ?_; (case hd => rfl); (case hg => rfl); (case hr => first | (go_simp; done) | (go_simp; rfl)); (case hp => exact (Reps.none _ _))
   intro v10 w10 ho10 hb10 hg_ hnew_
   clear hg_ hnew_
   refine hK.out _ _ ((hb10.cell (World.block_lt_of_cell? _ _ hz2)).trans hz2) (fun hHeld => ?_)
   clear hK K
   refine norm_ (a' := ?_) ?_ ?_
   rotate_left
   ·
    show Act.put _ (some 19) _ = _
    simp only [Act.put, List.setIfInBounds_toArray, List.set_cons_zero, List.set_cons_succ, i64_w, i32_w]
    rfl
   refine pure_ (i := 6) (N := some 7) (v := ?_) (a' := ?_) #[true, true, true, true, true, true, true, false] rfl rfl (by kernel_rfl) (fun _ _ _ h => h) (Or.inl ⟨by rfl, ?_⟩) ?_ ?_
   rotate_left
   ·
    intro w'
    go_simp
    with_reducible rfl
   rotate_left
   ·
    simp only [Act.put, List.setIfInBounds_toArray, List.set_cons_zero, List.set_cons_succ, i64_w, i32_w]
    rfl
   refine pure_ (i := 7) (N := some 8) (v := ?_) (a' := ?_) #[true, true, true, true, true, true, true, true] rfl rfl (by kernel_rfl) (fun _ _ _ h => h) (Or.inl ⟨by rfl, ?_⟩) ?_ ?_
   rotate_left
   ·
    intro w'
    go_simp
    with_reducible rfl
   rotate_left
   ·
    simp only [Act.put, List.setIfInBounds_toArray, List.set_cons_zero, List.set_cons_succ, i64_w, i32_w]
    rfl
   refine done_ (by kernel_rfl) ?_
-- R5]
   go_wp2_with fail
   have hCo9 := (Kd.R_reads' hr).2.2
   have hzz := hb10.size
   have hwz := hb.size
   clear hr hC1 hHeld hz2
   go_loopw [7, 8, 9] (fun v7 v8 v9 wq => InR ⟨k, v, g⟩ out w9 v7 v8 v9 wq) (fun _ _ v9 _ => out.length - (intOf v9).toNat)
   case atStart =>
    unfold InR
    exact ⟨0, [], g, rfl, rfl, Nat.zero_le _, rfl, Nat.zero_le _, ho10, hb10⟩
   case round =>
    obtain ⟨j, nx, pl, rfl, rfl, hj, hst, hnl, hrn, hbq⟩ := hrel

    by_cases hjl : j < out.length
    ·
     have d2 : decide ((j : Int) < (out.length : Int)) = true := decide_eq_true (by omega)
     obtain ⟨ado, rfl, hy0, hy1⟩ := at_T82 hCo9 (j : Int) (by omega) (by omega)
     have hrd : rd_T82 out (j : Int) = out.getD j z82 := by unfold rd_T82; rw [Int.toNat_natCast]
     rw [hrd] at hy0 hy1
     simp only [Int.toNat_natCast] at hy0 hy1
     have hst2 := stepsT_take ⟨k, v, g⟩ out j hjl
     rw [hst] at hst2
     clear hrd hst
     obtain ⟨x, hx⟩ : ∃ x, x = out.getD j z82 := ⟨_, rfl⟩
     rw [← hx] at hy0 hy1 hst2
     clear hx
     have j3 : ((j : Int) < (out.length : Int)) = True := eq_true (by omega)
     have j0 : (0 ≤ (j : Int)) = True := eq_true (by omega)
     have e2 : IntKind.i64.wrap ((j : Int) + 1) = (j : Int) + 1 := IntWalk.i64_in _ (by omega)
     have Hj := Lib.hid (show j + 1 ≤ out.length by omega)
     have Hnl := Lib.hid hnl
     have LB := Lib.hid (show (nx.length + 1) * 32 ≤ 140737488355328 by omega)
     have Hst := Lib.hid hst2
     clear hst2 hnl
-- [IN
     cases pl with
     | true =>
      go_upto_region 9 with (fail)
      have hb11 := below_drew1 hbq
      have hr11 := Kd.R_drew hrn
      refine start_ (n := 15) (S := fun w' => True) (ds := []) #[false, false, false, false, false, false, false, false, false, false, false, false, false, false, false] (by kernel_rfl) rfl rfl (trivial) (fun hHeld => ?_)
      generalize wr.drew = w11 at hr11 hb11 hHeld ⊢
      refine pure_ (i := 0) (N := some 31) (v := ?_) (a' := ?_) #[true, false, false, false, false, false, false, false, false, false, false, false, false, false, false] rfl rfl (by kernel_rfl) (fun _ _ _ h => h) (Or.inl ⟨by rfl, ?_⟩) ?_ ?_
      rotate_left
      ·
       intro w'
       go_simp
       with_reducible rfl
      rotate_left
      ·
       simp only [Act.put, List.setIfInBounds_toArray, List.set_cons_zero, List.set_cons_succ, i64_w, i32_w]
       rfl
      refine pure_ (i := 1) (N := some 32) (v := ?_) (a' := ?_) #[true, true, false, false, false, false, false, false, false, false, false, false, false, false, false] rfl rfl (by kernel_rfl) (fun _ _ _ h => h) (Or.inl ⟨by rfl, ?_⟩) ?_ ?_
      rotate_left
      ·
       intro w'
       go_simp
       with_reducible rfl
      rotate_left
      ·
       simp only [Act.put, List.setIfInBounds_toArray, List.set_cons_zero, List.set_cons_succ, i64_w, i32_w]
       rfl
      refine pure_ (i := 2) (N := some 33) (v := ?_) (a' := ?_) #[true, true, true, false, false, false, false, false, false, false, false, false, false, false, false] rfl rfl (by kernel_rfl) (fun _ _ _ h => h) (Or.inl ⟨by rfl, ?_⟩) ?_ ?_
      rotate_left
      ·
       intro w'
       go_simp
       with_reducible rfl
      rotate_left
      ·
       simp only [Act.put, List.setIfInBounds_toArray, List.set_cons_zero, List.set_cons_succ, i64_w, i32_w]
       rfl
      refine pure_ (i := 3) (N := some 34) (v := undef) (a' := ?_) #[true, true, true, true, false, false, false, false, false, false, false, false, false, false, false] rfl rfl (by kernel_rfl) (fun _ _ _ h => h) (Or.inr ⟨by rfl, rfl⟩) ?_ ?_
      rotate_left
      ·
       simp only [Act.put, List.setIfInBounds_toArray, List.set_cons_zero, List.set_cons_succ, i64_w, i32_w]
       rfl
      refine pure_ (i := 4) (N := some 35) (v := undef) (a' := ?_) #[true, true, true, true, true, false, false, false, false, false, false, false, false, false, false] rfl rfl (by kernel_rfl) (fun _ _ _ h => h) (Or.inr ⟨by rfl, rfl⟩) ?_ ?_
      rotate_left
      ·
       simp only [Act.put, List.setIfInBounds_toArray, List.set_cons_zero, List.set_cons_succ, i64_w, i32_w]
       rfl
      refine pure_ (i := 5) (N := some 36) (v := undef) (a' := ?_) #[true, true, true, true, true, true, false, false, false, false, false, false, false, false, false] rfl rfl (by kernel_rfl) (fun _ _ _ h => h) (Or.inr ⟨by rfl, rfl⟩) ?_ ?_
      rotate_left
      ·
       simp only [Act.put, List.setIfInBounds_toArray, List.set_cons_zero, List.set_cons_succ, i64_w, i32_w]
       rfl
      refine pure_ (i := 6) (N := some 37) (v := undef) (a' := ?_) #[true, true, true, true, true, true, true, false, false, false, false, false, false, false, false] rfl rfl (by kernel_rfl) (fun _ _ _ h => h) (Or.inr ⟨by rfl, rfl⟩) ?_ ?_
      rotate_left
      ·
       simp only [Act.put, List.setIfInBounds_toArray, List.set_cons_zero, List.set_cons_succ, i64_w, i32_w]
       rfl
      refine pure_ (i := 7) (N := some 38) (v := undef) (a' := ?_) #[true, true, true, true, true, true, true, true, false, false, false, false, false, false, false] rfl rfl (by kernel_rfl) (fun _ _ _ h => h) (Or.inr ⟨by rfl, rfl⟩) ?_ ?_
      rotate_left
      ·
       simp only [Act.put, List.setIfInBounds_toArray, List.set_cons_zero, List.set_cons_succ, i64_w, i32_w]
       rfl
      refine pure_ (i := 8) (N := some 39) (v := undef) (a' := ?_) #[true, true, true, true, true, true, true, true, true, false, false, false, false, false, false] rfl rfl (by kernel_rfl) (fun _ _ _ h => h) (Or.inr ⟨by rfl, rfl⟩) ?_ ?_
      rotate_left
      ·
       simp only [Act.put, List.setIfInBounds_toArray, List.set_cons_zero, List.set_cons_succ, i64_w, i32_w]
       rfl
      refine pure_ (i := 9) (N := some 40) (v := undef) (a' := ?_) #[true, true, true, true, true, true, true, true, true, true, false, false, false, false, false] rfl rfl (by kernel_rfl) (fun _ _ _ h => h) (Or.inr ⟨by rfl, rfl⟩) ?_ ?_
      rotate_left
      ·
       simp only [Act.put, List.setIfInBounds_toArray, List.set_cons_zero, List.set_cons_succ, i64_w, i32_w]
       rfl
      refine pure_ (i := 10) (N := some 41) (v := undef) (a' := ?_) #[true, true, true, true, true, true, true, true, true, true, true, false, false, false, false] rfl rfl (by kernel_rfl) (fun _ _ _ h => h) (Or.inr ⟨by rfl, rfl⟩) ?_ ?_
      rotate_left
      ·
       simp only [Act.put, List.setIfInBounds_toArray, List.set_cons_zero, List.set_cons_succ, i64_w, i32_w]
       rfl
      refine pure_ (i := 11) (N := some 42) (v := undef) (a' := ?_) #[true, true, true, true, true, true, true, true, true, true, true, true, false, false, false] rfl rfl (by kernel_rfl) (fun _ _ _ h => h) (Or.inr ⟨by rfl, rfl⟩) ?_ ?_
      rotate_left
      ·
       simp only [Act.put, List.setIfInBounds_toArray, List.set_cons_zero, List.set_cons_succ, i64_w, i32_w]
       rfl
      refine pure_ (i := 12) (N := some 43) (v := undef) (a' := ?_) #[true, true, true, true, true, true, true, true, true, true, true, true, true, false, false] rfl rfl (by kernel_rfl) (fun _ _ _ h => h) (Or.inr ⟨by rfl, rfl⟩) ?_ ?_
      rotate_left
      ·
       simp only [Act.put, List.setIfInBounds_toArray, List.set_cons_zero, List.set_cons_succ, i64_w, i32_w]
       rfl
      refine pure_ (i := 13) (N := some 44) (v := undef) (a' := ?_) #[true, true, true, true, true, true, true, true, true, true, true, true, true, true, false] rfl rfl (by kernel_rfl) (fun _ _ _ h => h) (Or.inr ⟨by rfl, rfl⟩) ?_ ?_
      rotate_left
      ·
       simp only [Act.put, List.setIfInBounds_toArray, List.set_cons_zero, List.set_cons_succ, i64_w, i32_w]
       rfl
      refine pure_ (i := 14) (N := some 45) (v := ?_) (a' := ?_) #[true, true, true, true, true, true, true, true, true, true, true, true, true, true, true] rfl rfl (by kernel_rfl) (fun _ _ _ h => h) (Or.inl ⟨by rfl, ?_⟩) ?_ ?_
      rotate_left
      ·
       intro w'
       go_simp
       with_reducible rfl
      rotate_left
      ·
       simp only [Act.put, List.setIfInBounds_toArray, List.set_cons_zero, List.set_cons_succ, i64_w, i32_w]
       rfl
      refine done_ (by kernel_rfl) ?_
      have hst3 : stepsT ⟨k, v, g⟩ (out.take (j + 1)) = ((if x.f0 = k then nx else nx ++ [x]), true) := by rw [(show stepsT ⟨k, v, g⟩ (out.take (j + 1)) = _ from Hst)]; unfold stepT; rw [if_neg (by simp)]
      have Hst3 := Lib.hid hst3
      clear hst3
      go_upto_region 11 with (fail)
      have hb14 := below_drew1 hb11
      have hr14 := Kd.R_drew hr11
      refine start_ (n := 11) (S := fun w' => w'.cell? (ado.add (j * 2)) = some (.string x.f0) ∧ w'.cell? (ad1.add (i * 3)) = some (.string k)) (ds := []) #[false, false, false, false, false, false, false, false, false, false, false] (by kernel_rfl) rfl rfl ⟨((hb14.cell (World.block_lt_of_cell? _ _ hy0)).trans hy0), ((hb14.cell (World.block_lt_of_cell? _ _ hz0)).trans hz0)⟩ (fun hHeld => ?_)
      generalize w11.drew = w14 at hb14 hr14 hHeld ⊢
      refine pure_ (i := 0) (N := some 60) (v := ?_) (a' := ?_) #[true, false, false, false, false, false, false, false, false, false, false] rfl rfl (by kernel_rfl) (fun _ _ _ h => h) (Or.inl ⟨by rfl, ?_⟩) ?_ ?_
      rotate_left
      ·
       intro w'
       go_simp
       with_reducible rfl
      rotate_left
      ·
       simp only [Act.put, List.setIfInBounds_toArray, List.set_cons_zero, List.set_cons_succ, i64_w, i32_w]
       rfl
      refine pure_ (i := 1) (N := some 61) (v := ?_) (a' := ?_) #[true, true, false, false, false, false, false, false, false, false, false] rfl rfl (by kernel_rfl) (fun _ _ _ h => h) (Or.inl ⟨by rfl, ?_⟩) ?_ ?_
      rotate_left
      ·
       intro w'
       go_simp
       with_reducible rfl
      rotate_left
      ·
       simp only [Act.put, List.setIfInBounds_toArray, List.set_cons_zero, List.set_cons_succ, i64_w, i32_w]
       rfl
      refine pure_ (i := 2) (N := some 62) (v := ?_) (a' := ?_) #[true, true, true, false, false, false, false, false, false, false, false] rfl rfl (by kernel_rfl) (fun _ _ _ h => h) (Or.inl ⟨by rfl, ?_⟩) ?_ ?_
      rotate_left
      ·
       intro w'
       go_simp
       with_reducible rfl
      rotate_left
      ·
       simp only [Act.put, List.setIfInBounds_toArray, List.set_cons_zero, List.set_cons_succ, i64_w, i32_w]
       rfl
      refine pure_ (i := 3) (N := some 63) (v := ?_) (a' := ?_) #[true, true, true, true, false, false, false, false, false, false, false] rfl rfl (by kernel_rfl) (fun _ _ _ h => h) (Or.inl ⟨by rfl, ?_⟩) ?_ ?_
      rotate_left
      ·
       intro w'
       go_simp
       with_reducible rfl
      rotate_left
      ·
       simp only [Act.put, List.setIfInBounds_toArray, List.set_cons_zero, List.set_cons_succ, i64_w, i32_w]
       rfl
      refine pure_ (i := 5) (N := some 65) (v := ?_) (a' := ?_) #[true, true, true, true, false, true, false, false, false, false, false] rfl rfl (by kernel_rfl) (fun _ _ _ h => h) (Or.inl ⟨by rfl, ?_⟩) ?_ ?_
      rotate_left
      ·
       intro w'
       go_simp
       with_reducible rfl
      rotate_left
      ·
       simp only [Act.put, List.setIfInBounds_toArray, List.set_cons_zero, List.set_cons_succ, i64_w, i32_w]
       rfl
      refine pure_ (i := 6) (N := some 66) (v := ?_) (a' := ?_) #[true, true, true, true, false, true, true, false, false, false, false] rfl rfl (by kernel_rfl) (fun _ _ _ h => h) (Or.inl ⟨by rfl, ?_⟩) ?_ ?_
      rotate_left
      ·
       intro w'
       go_simp
       with_reducible rfl
      rotate_left
      ·
       simp only [Act.put, List.setIfInBounds_toArray, List.set_cons_zero, List.set_cons_succ, i64_w, i32_w]
       rfl
      refine pure_ (i := 7) (N := some 67) (v := ?_) (a' := ?_) #[true, true, true, true, false, true, true, true, false, false, false] rfl rfl (by kernel_rfl) (fun _ _ _ h => h) (Or.inl ⟨by rfl, ?_⟩) ?_ ?_
      rotate_left
      ·
       intro w'
       go_simp
       with_reducible rfl
      rotate_left
      ·
       simp only [Act.put, List.setIfInBounds_toArray, List.set_cons_zero, List.set_cons_succ, i64_w, i32_w]
       rfl
      refine pure_ (i := 8) (N := some 68) (v := ?_) (a' := ?_) #[true, true, true, true, false, true, true, true, true, false, false] rfl rfl (by kernel_rfl) (fun _ _ _ h => h) (Or.inl ⟨by rfl, ?_⟩) ?_ ?_
      rotate_left
      ·
       intro w'
       go_simp
       with_reducible rfl
      rotate_left
      ·
       simp only [Act.put, List.setIfInBounds_toArray, List.set_cons_zero, List.set_cons_succ, i64_w, i32_w]
       rfl
      refine take_ (i := 4) (N := some 64) (v := ?_) (a' := ?_) #[true, true, true, true, true, true, true, true, true, false, false] rfl rfl (by kernel_rfl) (fun _ _ _ h => h) (Or.inl ⟨by rfl, ?_⟩) hHeld ?_ ?_
      rotate_left
      ·
       rintro w' ⟨s0, s1⟩
       go_simp
       with_reducible rfl
      rotate_left
      ·
       simp only [Act.put, List.setIfInBounds_toArray, List.set_cons_zero, List.set_cons_succ, i64_w, i32_w]
       rfl
      refine take_ (i := 9) (N := some 69) (v := ?_) (a' := ?_) #[true, true, true, true, true, true, true, true, true, true, false] rfl rfl (by kernel_rfl) (fun _ _ _ h => h) (Or.inl ⟨by rfl, ?_⟩) hHeld ?_ ?_
      rotate_left
      ·
       rintro w' ⟨s0, s1⟩
       go_simp
       with_reducible rfl
      rotate_left
      ·
       simp only [Act.put, List.setIfInBounds_toArray, List.set_cons_zero, List.set_cons_succ, i64_w, i32_w]
       rfl
      refine pure_ (i := 10) (N := some 70) (v := ?_) (a' := ?_) #[true, true, true, true, true, true, true, true, true, true, true] rfl rfl (by kernel_rfl) (fun _ _ _ h => h) (Or.inl ⟨by rfl, ?_⟩) ?_ ?_
      rotate_left
      ·
       intro w'
       go_simp
       with_reducible rfl
      rotate_left
      ·
       simp only [Act.put, List.setIfInBounds_toArray, List.set_cons_zero, List.set_cons_succ, i64_w, i32_w]
       rfl
      refine done_ (by kernel_rfl) ?_
      obtain ⟨bb, hbb⟩ : ∃ bb, (x.f0.toList == k.toList) = bb := ⟨_, rfl⟩
      rw [hbb]
      have Hbb := Lib.hid hbb
      clear hbb
      cases bb with
      | true =>
       have Hk : RowKit.Hid (x.f0 = k) := Lib.hid (keq_of (show (x.f0.toList == k.toList) = true from Hbb))
       clear hHeld hy0 hy1 hz0 hz1
       go_wp2_with fail
       exact inR_next _ _ _ _ _ _ _ j Hj (st_pos Hst3 Hk) (len0_ (show nx.length ≤ 2 * j from Hnl)) hr14 hb14
      | false =>
       have Hk : RowKit.Hid (¬ x.f0 = k) := Lib.hid (kne_of (show (x.f0.toList == k.toList) = false from Hbb))
       have hq0 := ((hb14.cell (World.block_lt_of_cell? _ _ hy0)).trans hy0)
       have hq1 := ((hb14.cell (World.block_lt_of_cell? _ _ hy1)).trans hy1)
       have LX := Lib.hid (show ((nx).length + 1) * 32 ≤ 140737488355328 by have := (show nx.length ≤ 2 * j from Hnl); (try simp only [List.length_append, List.length_singleton]); omega)
       clear hHeld hy0 hy1 hz0 hz1
       go_wp2_with ((with_reducible refine gate_builtin (b := .append) (xs := #[.tmp 71, .tmp 76]) rfl ?_); at_builtin; refine Kd.R_append k82 (w0 := w9) w9.heap.size rfl (.tmp 71) (.tmp 76) 47 82 (.agg #[(.string ⟨#[]⟩), (.string ⟨#[]⟩)]) 32 rfl Tryz.underlying47 (by kernel_rfl) rfl (by decide) (by decide) u7 (nx) x [.string x.f0, .string x.f1] (fun _ => True) (fun _ => False) rfl rfl (k82_mkM _ _ _ x) (fun _ h => h.elim) (fun _ _ => trivial) (Kd.R_mono hr14 (fun _ _ => trivial)) hb14 hb14.size LX ?_; intro v16 w16 ho16 hb16 hg16 hat16)
       exact inR_next _ _ _ _ _ _ _ j Hj (st_neg Hst3 Hk) (len1_ (show nx.length ≤ 2 * j from Hnl)) ho16 hb16
     | false =>
      go_upto_region 9 with (fail)
      have hb11 := below_drew1 hbq
      have hr11 := Kd.R_drew hrn
      refine start_ (n := 15) (S := fun w' => w'.cell? (ado.add (j * 2)) = some (.string x.f0) ∧ w'.cell? (ad1.add (i * 3)) = some (.string k)) (ds := []) #[false, false, false, false, false, false, false, false, false, false, false, false, false, false, false] (by kernel_rfl) rfl rfl ⟨((hb11.cell (World.block_lt_of_cell? _ _ hy0)).trans hy0), ((hb11.cell (World.block_lt_of_cell? _ _ hz0)).trans hz0)⟩ (fun hHeld => ?_)
      generalize wr.drew = w11 at hr11 hb11 hHeld ⊢
      refine pure_ (i := 0) (N := some 31) (v := ?_) (a' := ?_) #[true, false, false, false, false, false, false, false, false, false, false, false, false, false, false] rfl rfl (by kernel_rfl) (fun _ _ _ h => h) (Or.inl ⟨by rfl, ?_⟩) ?_ ?_
      rotate_left
      ·
       intro w'
       go_simp
       with_reducible rfl
      rotate_left
      ·
       simp only [Act.put, List.setIfInBounds_toArray, List.set_cons_zero, List.set_cons_succ, i64_w, i32_w]
       rfl
      refine pure_ (i := 1) (N := some 32) (v := ?_) (a' := ?_) #[true, true, false, false, false, false, false, false, false, false, false, false, false, false, false] rfl rfl (by kernel_rfl) (fun _ _ _ h => h) (Or.inl ⟨by rfl, ?_⟩) ?_ ?_
      rotate_left
      ·
       intro w'
       go_simp
       with_reducible rfl
      rotate_left
      ·
       simp only [Act.put, List.setIfInBounds_toArray, List.set_cons_zero, List.set_cons_succ, i64_w, i32_w]
       rfl
      refine pure_ (i := 2) (N := some 33) (v := ?_) (a' := ?_) #[true, true, true, false, false, false, false, false, false, false, false, false, false, false, false] rfl rfl (by kernel_rfl) (fun _ _ _ h => h) (Or.inl ⟨by rfl, ?_⟩) ?_ ?_
      rotate_left
      ·
       intro w'
       go_simp
       with_reducible rfl
      rotate_left
      ·
       simp only [Act.put, List.setIfInBounds_toArray, List.set_cons_zero, List.set_cons_succ, i64_w, i32_w]
       rfl
      refine pure_ (i := 3) (N := some 34) (v := ?_) (a' := ?_) #[true, true, true, true, false, false, false, false, false, false, false, false, false, false, false] rfl rfl (by kernel_rfl) (fun _ _ _ h => h) (Or.inl ⟨by rfl, ?_⟩) ?_ ?_
      rotate_left
      ·
       intro w'
       go_simp
       with_reducible rfl
      rotate_left
      ·
       simp only [Act.put, List.setIfInBounds_toArray, List.set_cons_zero, List.set_cons_succ, i64_w, i32_w]
       rfl
      refine pure_ (i := 4) (N := some 35) (v := ?_) (a' := ?_) #[true, true, true, true, true, false, false, false, false, false, false, false, false, false, false] rfl rfl (by kernel_rfl) (fun _ _ _ h => h) (Or.inl ⟨by rfl, ?_⟩) ?_ ?_
      rotate_left
      ·
       intro w'
       go_simp
       with_reducible rfl
      rotate_left
      ·
       simp only [Act.put, List.setIfInBounds_toArray, List.set_cons_zero, List.set_cons_succ, i64_w, i32_w]
       rfl
      refine pure_ (i := 5) (N := some 36) (v := ?_) (a' := ?_) #[true, true, true, true, true, true, false, false, false, false, false, false, false, false, false] rfl rfl (by kernel_rfl) (fun _ _ _ h => h) (Or.inl ⟨by rfl, ?_⟩) ?_ ?_
      rotate_left
      ·
       intro w'
       go_simp
       with_reducible rfl
      rotate_left
      ·
       simp only [Act.put, List.setIfInBounds_toArray, List.set_cons_zero, List.set_cons_succ, i64_w, i32_w]
       rfl
      refine pure_ (i := 6) (N := some 37) (v := ?_) (a' := ?_) #[true, true, true, true, true, true, true, false, false, false, false, false, false, false, false] rfl rfl (by kernel_rfl) (fun _ _ _ h => h) (Or.inl ⟨by rfl, ?_⟩) ?_ ?_
      rotate_left
      ·
       intro w'
       go_simp
       with_reducible rfl
      rotate_left
      ·
       simp only [Act.put, List.setIfInBounds_toArray, List.set_cons_zero, List.set_cons_succ, i64_w, i32_w]
       rfl
      refine pure_ (i := 8) (N := some 39) (v := ?_) (a' := ?_) #[true, true, true, true, true, true, true, false, true, false, false, false, false, false, false] rfl rfl (by kernel_rfl) (fun _ _ _ h => h) (Or.inl ⟨by rfl, ?_⟩) ?_ ?_
      rotate_left
      ·
       intro w'
       go_simp
       with_reducible rfl
      rotate_left
      ·
       simp only [Act.put, List.setIfInBounds_toArray, List.set_cons_zero, List.set_cons_succ, i64_w, i32_w]
       rfl
      refine pure_ (i := 9) (N := some 40) (v := ?_) (a' := ?_) #[true, true, true, true, true, true, true, false, true, true, false, false, false, false, false] rfl rfl (by kernel_rfl) (fun _ _ _ h => h) (Or.inl ⟨by rfl, ?_⟩) ?_ ?_
      rotate_left
      ·
       intro w'
       go_simp
       with_reducible rfl
      rotate_left
      ·
       simp only [Act.put, List.setIfInBounds_toArray, List.set_cons_zero, List.set_cons_succ, i64_w, i32_w]
       rfl
      refine pure_ (i := 10) (N := some 41) (v := ?_) (a' := ?_) #[true, true, true, true, true, true, true, false, true, true, true, false, false, false, false] rfl rfl (by kernel_rfl) (fun _ _ _ h => h) (Or.inl ⟨by rfl, ?_⟩) ?_ ?_
      rotate_left
      ·
       intro w'
       go_simp
       with_reducible rfl
      rotate_left
      ·
       simp only [Act.put, List.setIfInBounds_toArray, List.set_cons_zero, List.set_cons_succ, i64_w, i32_w]
       rfl
      refine pure_ (i := 11) (N := some 42) (v := ?_) (a' := ?_) #[true, true, true, true, true, true, true, false, true, true, true, true, false, false, false] rfl rfl (by kernel_rfl) (fun _ _ _ h => h) (Or.inl ⟨by rfl, ?_⟩) ?_ ?_
      rotate_left
      ·
       intro w'
       go_simp
       with_reducible rfl
      rotate_left
      ·
       simp only [Act.put, List.setIfInBounds_toArray, List.set_cons_zero, List.set_cons_succ, i64_w, i32_w]
       rfl
      refine take_ (i := 7) (N := some 38) (v := ?_) (a' := ?_) #[true, true, true, true, true, true, true, true, true, true, true, true, false, false, false] rfl rfl (by kernel_rfl) (fun _ _ _ h => h) (Or.inl ⟨by rfl, ?_⟩) hHeld ?_ ?_
      rotate_left
      ·
       rintro w' ⟨s0, s1⟩
       go_simp
       with_reducible rfl
      rotate_left
      ·
       simp only [Act.put, List.setIfInBounds_toArray, List.set_cons_zero, List.set_cons_succ, i64_w, i32_w]
       rfl
      refine take_ (i := 12) (N := some 43) (v := ?_) (a' := ?_) #[true, true, true, true, true, true, true, true, true, true, true, true, true, false, false] rfl rfl (by kernel_rfl) (fun _ _ _ h => h) (Or.inl ⟨by rfl, ?_⟩) hHeld ?_ ?_
      rotate_left
      ·
       rintro w' ⟨s0, s1⟩
       go_simp
       with_reducible rfl
      rotate_left
      ·
       simp only [Act.put, List.setIfInBounds_toArray, List.set_cons_zero, List.set_cons_succ, i64_w, i32_w]
       rfl
      refine pure_ (i := 13) (N := some 44) (v := ?_) (a' := ?_) #[true, true, true, true, true, true, true, true, true, true, true, true, true, true, false] rfl rfl (by kernel_rfl) (fun _ _ _ h => h) (Or.inl ⟨by rfl, ?_⟩) ?_ ?_
      rotate_left
      ·
       intro w'
       go_simp
       with_reducible rfl
      rotate_left
      ·
       simp only [Act.put, List.setIfInBounds_toArray, List.set_cons_zero, List.set_cons_succ, i64_w, i32_w]
       rfl
      refine pure_ (i := 14) (N := some 45) (v := ?_) (a' := ?_) #[true, true, true, true, true, true, true, true, true, true, true, true, true, true, true] rfl rfl (by kernel_rfl) (fun _ _ _ h => h) (Or.inl ⟨by rfl, ?_⟩) ?_ ?_
      rotate_left
      ·
       intro w'
       go_simp
       with_reducible rfl
      rotate_left
      ·
       simp only [Act.put, List.setIfInBounds_toArray, List.set_cons_zero, List.set_cons_succ, i64_w, i32_w]
       rfl
      refine done_ (by kernel_rfl) ?_
      cases hbl : Op.bytesLess x.f0.toList k.toList with
      | true =>
       have hst3 : stepsT ⟨k, v, g⟩ (out.take (j + 1)) = ((if x.f0 = k then nx else nx ++ [x]), false) := by rw [(show stepsT ⟨k, v, g⟩ (out.take (j + 1)) = _ from Hst)]; unfold stepT geB; rw [hbl]; rfl
       have Hst3 := Lib.hid hst3
       clear hst3
       go_upto_region 11 with (fail)
       have hb14 := below_drew1 hb11
       have hr14 := Kd.R_drew hr11
       refine start_ (n := 11) (S := fun w' => w'.cell? (ado.add (j * 2)) = some (.string x.f0) ∧ w'.cell? (ad1.add (i * 3)) = some (.string k)) (ds := []) #[false, false, false, false, false, false, false, false, false, false, false] (by kernel_rfl) rfl rfl ⟨((hb14.cell (World.block_lt_of_cell? _ _ hy0)).trans hy0), ((hb14.cell (World.block_lt_of_cell? _ _ hz0)).trans hz0)⟩ (fun hHeld => ?_)
       generalize w11.drew = w14 at hb14 hr14 hHeld ⊢
       refine pure_ (i := 0) (N := some 60) (v := ?_) (a' := ?_) #[true, false, false, false, false, false, false, false, false, false, false] rfl rfl (by kernel_rfl) (fun _ _ _ h => h) (Or.inl ⟨by rfl, ?_⟩) ?_ ?_
       rotate_left
       ·
        intro w'
        go_simp
        with_reducible rfl
       rotate_left
       ·
        simp only [Act.put, List.setIfInBounds_toArray, List.set_cons_zero, List.set_cons_succ, i64_w, i32_w]
        rfl
       refine pure_ (i := 1) (N := some 61) (v := ?_) (a' := ?_) #[true, true, false, false, false, false, false, false, false, false, false] rfl rfl (by kernel_rfl) (fun _ _ _ h => h) (Or.inl ⟨by rfl, ?_⟩) ?_ ?_
       rotate_left
       ·
        intro w'
        go_simp
        with_reducible rfl
       rotate_left
       ·
        simp only [Act.put, List.setIfInBounds_toArray, List.set_cons_zero, List.set_cons_succ, i64_w, i32_w]
        rfl
       refine pure_ (i := 2) (N := some 62) (v := ?_) (a' := ?_) #[true, true, true, false, false, false, false, false, false, false, false] rfl rfl (by kernel_rfl) (fun _ _ _ h => h) (Or.inl ⟨by rfl, ?_⟩) ?_ ?_
       rotate_left
       ·
        intro w'
        go_simp
        with_reducible rfl
       rotate_left
       ·
        simp only [Act.put, List.setIfInBounds_toArray, List.set_cons_zero, List.set_cons_succ, i64_w, i32_w]
        rfl
       refine pure_ (i := 3) (N := some 63) (v := ?_) (a' := ?_) #[true, true, true, true, false, false, false, false, false, false, false] rfl rfl (by kernel_rfl) (fun _ _ _ h => h) (Or.inl ⟨by rfl, ?_⟩) ?_ ?_
       rotate_left
       ·
        intro w'
        go_simp
        with_reducible rfl
       rotate_left
       ·
        simp only [Act.put, List.setIfInBounds_toArray, List.set_cons_zero, List.set_cons_succ, i64_w, i32_w]
        rfl
       refine pure_ (i := 5) (N := some 65) (v := ?_) (a' := ?_) #[true, true, true, true, false, true, false, false, false, false, false] rfl rfl (by kernel_rfl) (fun _ _ _ h => h) (Or.inl ⟨by rfl, ?_⟩) ?_ ?_
       rotate_left
       ·
        intro w'
        go_simp
        with_reducible rfl
       rotate_left
       ·
        simp only [Act.put, List.setIfInBounds_toArray, List.set_cons_zero, List.set_cons_succ, i64_w, i32_w]
        rfl
       refine pure_ (i := 6) (N := some 66) (v := ?_) (a' := ?_) #[true, true, true, true, false, true, true, false, false, false, false] rfl rfl (by kernel_rfl) (fun _ _ _ h => h) (Or.inl ⟨by rfl, ?_⟩) ?_ ?_
       rotate_left
       ·
        intro w'
        go_simp
        with_reducible rfl
       rotate_left
       ·
        simp only [Act.put, List.setIfInBounds_toArray, List.set_cons_zero, List.set_cons_succ, i64_w, i32_w]
        rfl
       refine pure_ (i := 7) (N := some 67) (v := ?_) (a' := ?_) #[true, true, true, true, false, true, true, true, false, false, false] rfl rfl (by kernel_rfl) (fun _ _ _ h => h) (Or.inl ⟨by rfl, ?_⟩) ?_ ?_
       rotate_left
       ·
        intro w'
        go_simp
        with_reducible rfl
       rotate_left
       ·
        simp only [Act.put, List.setIfInBounds_toArray, List.set_cons_zero, List.set_cons_succ, i64_w, i32_w]
        rfl
       refine pure_ (i := 8) (N := some 68) (v := ?_) (a' := ?_) #[true, true, true, true, false, true, true, true, true, false, false] rfl rfl (by kernel_rfl) (fun _ _ _ h => h) (Or.inl ⟨by rfl, ?_⟩) ?_ ?_
       rotate_left
       ·
        intro w'
        go_simp
        with_reducible rfl
       rotate_left
       ·
        simp only [Act.put, List.setIfInBounds_toArray, List.set_cons_zero, List.set_cons_succ, i64_w, i32_w]
        rfl
       refine take_ (i := 4) (N := some 64) (v := ?_) (a' := ?_) #[true, true, true, true, true, true, true, true, true, false, false] rfl rfl (by kernel_rfl) (fun _ _ _ h => h) (Or.inl ⟨by rfl, ?_⟩) hHeld ?_ ?_
       rotate_left
       ·
        rintro w' ⟨s0, s1⟩
        go_simp
        with_reducible rfl
       rotate_left
       ·
        simp only [Act.put, List.setIfInBounds_toArray, List.set_cons_zero, List.set_cons_succ, i64_w, i32_w]
        rfl
       refine take_ (i := 9) (N := some 69) (v := ?_) (a' := ?_) #[true, true, true, true, true, true, true, true, true, true, false] rfl rfl (by kernel_rfl) (fun _ _ _ h => h) (Or.inl ⟨by rfl, ?_⟩) hHeld ?_ ?_
       rotate_left
       ·
        rintro w' ⟨s0, s1⟩
        go_simp
        with_reducible rfl
       rotate_left
       ·
        simp only [Act.put, List.setIfInBounds_toArray, List.set_cons_zero, List.set_cons_succ, i64_w, i32_w]
        rfl
       refine pure_ (i := 10) (N := some 70) (v := ?_) (a' := ?_) #[true, true, true, true, true, true, true, true, true, true, true] rfl rfl (by kernel_rfl) (fun _ _ _ h => h) (Or.inl ⟨by rfl, ?_⟩) ?_ ?_
       rotate_left
       ·
        intro w'
        go_simp
        with_reducible rfl
       rotate_left
       ·
        simp only [Act.put, List.setIfInBounds_toArray, List.set_cons_zero, List.set_cons_succ, i64_w, i32_w]
        rfl
       refine done_ (by kernel_rfl) ?_
       obtain ⟨bb, hbb⟩ : ∃ bb, (x.f0.toList == k.toList) = bb := ⟨_, rfl⟩
       rw [hbb]
       have Hbb := Lib.hid hbb
       clear hbb
       cases bb with
       | true =>
        have Hk : RowKit.Hid (x.f0 = k) := Lib.hid (keq_of (show (x.f0.toList == k.toList) = true from Hbb))
        clear hHeld hy0 hy1 hz0 hz1
        go_wp2_with fail
        exact inR_next _ _ _ _ _ _ _ j Hj (st_pos Hst3 Hk) (len0_ (show nx.length ≤ 2 * j from Hnl)) hr14 hb14
       | false =>
        have Hk : RowKit.Hid (¬ x.f0 = k) := Lib.hid (kne_of (show (x.f0.toList == k.toList) = false from Hbb))
        have hq0 := ((hb14.cell (World.block_lt_of_cell? _ _ hy0)).trans hy0)
        have hq1 := ((hb14.cell (World.block_lt_of_cell? _ _ hy1)).trans hy1)
        have LX := Lib.hid (show ((nx).length + 1) * 32 ≤ 140737488355328 by have := (show nx.length ≤ 2 * j from Hnl); (try simp only [List.length_append, List.length_singleton]); omega)
        clear hHeld hy0 hy1 hz0 hz1
        go_wp2_with ((with_reducible refine gate_builtin (b := .append) (xs := #[.tmp 71, .tmp 76]) rfl ?_); at_builtin; refine Kd.R_append k82 (w0 := w9) w9.heap.size rfl (.tmp 71) (.tmp 76) 47 82 (.agg #[(.string ⟨#[]⟩), (.string ⟨#[]⟩)]) 32 rfl Tryz.underlying47 (by kernel_rfl) rfl (by decide) (by decide) u7 (nx) x [.string x.f0, .string x.f1] (fun _ => True) (fun _ => False) rfl rfl (k82_mkM _ _ _ x) (fun _ h => h.elim) (fun _ _ => trivial) (Kd.R_mono hr14 (fun _ _ => trivial)) hb14 hb14.size LX ?_; intro v16 w16 ho16 hb16 hg16 hat16)
        exact inR_next _ _ _ _ _ _ _ j Hj (st_neg Hst3 Hk) (len1_ (show nx.length ≤ 2 * j from Hnl)) ho16 hb16
      | false =>
       go_upto_region 10 with (fail)
       have hb12 := below_drew1 hb11
       have hr12 := Kd.R_drew hr11
       refine start_ (n := 16) (S := fun w' => w'.cell? (ad1.add (i * 3)) = some (.string k) ∧ w'.cell? ⟨(ad1.add (i * 3)).block, (ad1.add (i * 3)).off + 1, none⟩ = some (.string v)) (ds := []) #[false, false, false, false, false, false, false, false, false, false, false, false, false, false, false, false] (by kernel_rfl) rfl rfl ⟨((hb12.cell (World.block_lt_of_cell? _ _ hz0)).trans hz0), ((hb12.cell (World.block_lt_of_cell? _ _ hz1)).trans hz1)⟩ (fun hHeld => ?_)
       generalize w11.drew = w12 at hr12 hb12 hHeld ⊢
       refine pure_ (i := 0) (N := some 46) (v := ?_) (a' := ?_) #[true, false, false, false, false, false, false, false, false, false, false, false, false, false, false, false] rfl rfl (by kernel_rfl) (fun _ _ _ h => h) (Or.inl ⟨by rfl, ?_⟩) ?_ ?_
       rotate_left
       ·
        intro w'
        go_simp
        with_reducible rfl
       rotate_left
       ·
        simp only [Act.put, List.setIfInBounds_toArray, List.set_cons_zero, List.set_cons_succ, i64_w, i32_w]
        rfl
       refine pure_ (i := 1) (N := some 47) (v := ?_) (a' := ?_) #[true, true, false, false, false, false, false, false, false, false, false, false, false, false, false, false] rfl rfl (by kernel_rfl) (fun _ _ _ h => h) (Or.inl ⟨by rfl, ?_⟩) ?_ ?_
       rotate_left
       ·
        intro w'
        go_simp
        with_reducible rfl
       rotate_left
       ·
        simp only [Act.put, List.setIfInBounds_toArray, List.set_cons_zero, List.set_cons_succ, i64_w, i32_w]
        rfl
       refine pure_ (i := 2) (N := some 48) (v := ?_) (a' := ?_) #[true, true, true, false, false, false, false, false, false, false, false, false, false, false, false, false] rfl rfl (by kernel_rfl) (fun _ _ _ h => h) (Or.inl ⟨by rfl, ?_⟩) ?_ ?_
       rotate_left
       ·
        intro w'
        go_simp
        with_reducible rfl
       rotate_left
       ·
        simp only [Act.put, List.setIfInBounds_toArray, List.set_cons_zero, List.set_cons_succ, i64_w, i32_w]
        rfl
       refine pure_ (i := 3) (N := some 49) (v := ?_) (a' := ?_) #[true, true, true, true, false, false, false, false, false, false, false, false, false, false, false, false] rfl rfl (by kernel_rfl) (fun _ _ _ h => h) (Or.inl ⟨by rfl, ?_⟩) ?_ ?_
       rotate_left
       ·
        intro w'
        go_simp
        with_reducible rfl
       rotate_left
       ·
        simp only [Act.put, List.setIfInBounds_toArray, List.set_cons_zero, List.set_cons_succ, i64_w, i32_w]
        rfl
       refine pure_ (i := 4) (N := some 50) (v := ?_) (a' := ?_) #[true, true, true, true, true, false, false, false, false, false, false, false, false, false, false, false] rfl rfl (by kernel_rfl) (fun _ _ _ h => h) (Or.inl ⟨by rfl, ?_⟩) ?_ ?_
       rotate_left
       ·
        intro w'
        go_simp
        with_reducible rfl
       rotate_left
       ·
        simp only [Act.put, List.setIfInBounds_toArray, List.set_cons_zero, List.set_cons_succ, i64_w, i32_w]
        rfl
       refine pure_ (i := 6) (N := some 52) (v := ?_) (a' := ?_) #[true, true, true, true, true, false, true, false, false, false, false, false, false, false, false, false] rfl rfl (by kernel_rfl) (fun _ _ _ h => h) (Or.inl ⟨by rfl, ?_⟩) ?_ ?_
       rotate_left
       ·
        intro w'
        go_simp
        with_reducible rfl
       rotate_left
       ·
        simp only [Act.put, List.setIfInBounds_toArray, List.set_cons_zero, List.set_cons_succ, i64_w, i32_w]
        rfl
       refine pure_ (i := 7) (N := some 53) (v := ?_) (a' := ?_) #[true, true, true, true, true, false, true, true, false, false, false, false, false, false, false, false] rfl rfl (by kernel_rfl) (fun _ _ _ h => h) (Or.inl ⟨by rfl, ?_⟩) ?_ ?_
       rotate_left
       ·
        intro w'
        go_simp
        with_reducible rfl
       rotate_left
       ·
        simp only [Act.put, List.setIfInBounds_toArray, List.set_cons_zero, List.set_cons_succ, i64_w, i32_w]
        rfl
       refine pure_ (i := 8) (N := some 54) (v := ?_) (a' := ?_) #[true, true, true, true, true, false, true, true, true, false, false, false, false, false, false, false] rfl rfl (by kernel_rfl) (fun _ _ _ h => h) (Or.inl ⟨by rfl, ?_⟩) ?_ ?_
       rotate_left
       ·
        intro w'
        go_simp
        with_reducible rfl
       rotate_left
       ·
        simp only [Act.put, List.setIfInBounds_toArray, List.set_cons_zero, List.set_cons_succ, i64_w, i32_w]
        rfl
       refine pure_ (i := 9) (N := some 55) (v := ?_) (a' := ?_) #[true, true, true, true, true, false, true, true, true, true, false, false, false, false, false, false] rfl rfl (by kernel_rfl) (fun _ _ _ h => h) (Or.inl ⟨by rfl, ?_⟩) ?_ ?_
       rotate_left
       ·
        intro w'
        go_simp
        with_reducible rfl
       rotate_left
       ·
        simp only [Act.put, List.setIfInBounds_toArray, List.set_cons_zero, List.set_cons_succ, i64_w, i32_w]
        rfl
       refine take_ (i := 5) (N := some 51) (v := ?_) (a' := ?_) #[true, true, true, true, true, true, true, true, true, true, false, false, false, false, false, false] rfl rfl (by kernel_rfl) (fun _ _ _ h => h) (Or.inl ⟨by rfl, ?_⟩) hHeld ?_ ?_
       rotate_left
       ·
        rintro w' ⟨s0, s1⟩
        go_simp
        with_reducible rfl
       rotate_left
       ·
        simp only [Act.put, List.setIfInBounds_toArray, List.set_cons_zero, List.set_cons_succ, i64_w, i32_w]
        rfl
       refine take_ (i := 10) (N := some 56) (v := ?_) (a' := ?_) #[true, true, true, true, true, true, true, true, true, true, true, false, false, false, false, false] rfl rfl (by kernel_rfl) (fun _ _ _ h => h) (Or.inl ⟨by rfl, ?_⟩) hHeld ?_ ?_
       rotate_left
       ·
        rintro w' ⟨s0, s1⟩
        go_simp
        with_reducible rfl
       rotate_left
       ·
        simp only [Act.put, List.setIfInBounds_toArray, List.set_cons_zero, List.set_cons_succ, i64_w, i32_w]
        rfl
       refine pure_ (i := 11) (N := some 57) (v := ?_) (a' := ?_) #[true, true, true, true, true, true, true, true, true, true, true, true, false, false, false, false] rfl rfl (by kernel_rfl) (fun _ _ _ h => h) (Or.inl ⟨by rfl, ?_⟩) ?_ ?_
       rotate_left
       ·
        intro w'
        go_simp
        with_reducible rfl
       rotate_left
       ·
        simp only [Act.put, List.setIfInBounds_toArray, List.set_cons_zero, List.set_cons_succ, i64_w, i32_w]
        rfl
       refine one_ (i := 12) (N := some 58) #[true, true, true, true, true, true, true, true, true, true, true, true, true, false, false, false] rfl rfl (by kernel_rfl) (by decide) (fun K hK => ?_)
       refine value_ (w1 := ?_) (v := ?_) (by rfl) rfl ?_ ?_
       rotate_left 2
       ·
        go_simp
        constructor
        ·
         rfl
        ·
         rfl
       refine hK.out _ _ ⟨((World.cell?_alloc_lt _ _ _ (World.block_lt_of_cell? _ _ ((hb12.cell (World.block_lt_of_cell? _ _ hz0)).trans hz0))).trans ((hb12.cell (World.block_lt_of_cell? _ _ hz0)).trans hz0)), ((World.cell?_alloc_lt _ _ _ (World.block_lt_of_cell? _ _ ((hb12.cell (World.block_lt_of_cell? _ _ hz1)).trans hz1))).trans ((hb12.cell (World.block_lt_of_cell? _ _ hz1)).trans hz1))⟩ (fun hHeld => ?_)
       clear hK K
       refine norm_ (a' := ?_) ?_ ?_
       rotate_left
       ·
        show Act.put _ (some 58) _ = _
        simp only [Act.put, List.setIfInBounds_toArray, List.set_cons_zero, List.set_cons_succ, i64_w, i32_w]
        rfl
       refine one_ (i := 13) (N := some 59) #[true, true, true, true, true, true, true, true, true, true, true, true, true, true, false, false] rfl rfl (by kernel_rfl) (by decide) (fun K hK => ?_)
       refine Kd.R_append_step k82 (w0 := w9) w9.heap.size (by rfl) (.tmp 46) (.tmp 58) 47 82 (.agg #[(.string ⟨#[]⟩), (.string ⟨#[]⟩)]) 32 rfl Tryz.underlying47 (by kernel_rfl) rfl (by decide) (by decide) u7 nx ⟨k, v⟩ [.string k, .string v] (fun _ => True) (fun _ => False) rfl rfl (k82_mkM _ _ _ ⟨k, v⟩) (fun _ h => h.elim) (fun _ _ => trivial) (Kd.R_mono hr12 (fun _ _ => trivial)) hb12 hb12.size LB ?_
       intro v13 w13 ho13 hb13 hg13 hat13
       refine hK.out _ _ ⟨((hb13.cell (World.block_lt_of_cell? _ _ hz0)).trans hz0), ((hb13.cell (World.block_lt_of_cell? _ _ hz1)).trans hz1)⟩ (fun hHeld => ?_)
       clear hK K
       refine norm_ (a' := ?_) ?_ ?_
       rotate_left
       ·
        show Act.put _ (some 59) _ = _
        simp only [Act.put, List.setIfInBounds_toArray, List.set_cons_zero, List.set_cons_succ, i64_w, i32_w]
        rfl
       refine pure_ (i := 14) (N := some 7) (v := ?_) (a' := ?_) #[true, true, true, true, true, true, true, true, true, true, true, true, true, true, true, false] rfl rfl (by kernel_rfl) (fun _ _ _ h => h) (Or.inl ⟨by rfl, ?_⟩) ?_ ?_
       rotate_left
       ·
        intro w'
        go_simp
        with_reducible rfl
       rotate_left
       ·
        simp only [Act.put, List.setIfInBounds_toArray, List.set_cons_zero, List.set_cons_succ, i64_w, i32_w]
        rfl
       refine pure_ (i := 15) (N := some 8) (v := ?_) (a' := ?_) #[true, true, true, true, true, true, true, true, true, true, true, true, true, true, true, true] rfl rfl (by kernel_rfl) (fun _ _ _ h => h) (Or.inl ⟨by rfl, ?_⟩) ?_ ?_
       rotate_left
       ·
        intro w'
        go_simp
        with_reducible rfl
       rotate_left
       ·
        simp only [Act.put, List.setIfInBounds_toArray, List.set_cons_zero, List.set_cons_succ, i64_w, i32_w]
        rfl
       refine done_ (by kernel_rfl) ?_
       have hst3 : stepsT ⟨k, v, g⟩ (out.take (j + 1)) = ((if x.f0 = k then (nx ++ [(⟨k, v⟩ : S82)]) else (nx ++ [(⟨k, v⟩ : S82)]) ++ [x]), true) := by rw [(show stepsT ⟨k, v, g⟩ (out.take (j + 1)) = _ from Hst)]; unfold stepT geB; rw [hbl]; rfl
       have Hst3 := Lib.hid hst3
       clear hst3
       go_upto_region 11 with (fail)
       have hb14 := below_drew1 hb13
       have hr14 := Kd.R_drew ho13
       refine start_ (n := 11) (S := fun w' => w'.cell? (ado.add (j * 2)) = some (.string x.f0) ∧ w'.cell? (ad1.add (i * 3)) = some (.string k)) (ds := []) #[false, false, false, false, false, false, false, false, false, false, false] (by kernel_rfl) rfl rfl ⟨((hb14.cell (World.block_lt_of_cell? _ _ hy0)).trans hy0), ((hb14.cell (World.block_lt_of_cell? _ _ hz0)).trans hz0)⟩ (fun hHeld => ?_)
       generalize w13.drew = w14 at hb14 hr14 hHeld ⊢
       refine pure_ (i := 0) (N := some 60) (v := ?_) (a' := ?_) #[true, false, false, false, false, false, false, false, false, false, false] rfl rfl (by kernel_rfl) (fun _ _ _ h => h) (Or.inl ⟨by rfl, ?_⟩) ?_ ?_
       rotate_left
       ·
        intro w'
        go_simp
        with_reducible rfl
       rotate_left
       ·
        simp only [Act.put, List.setIfInBounds_toArray, List.set_cons_zero, List.set_cons_succ, i64_w, i32_w]
        rfl
       refine pure_ (i := 1) (N := some 61) (v := ?_) (a' := ?_) #[true, true, false, false, false, false, false, false, false, false, false] rfl rfl (by kernel_rfl) (fun _ _ _ h => h) (Or.inl ⟨by rfl, ?_⟩) ?_ ?_
       rotate_left
       ·
        intro w'
        go_simp
        with_reducible rfl
       rotate_left
       ·
        simp only [Act.put, List.setIfInBounds_toArray, List.set_cons_zero, List.set_cons_succ, i64_w, i32_w]
        rfl
       refine pure_ (i := 2) (N := some 62) (v := ?_) (a' := ?_) #[true, true, true, false, false, false, false, false, false, false, false] rfl rfl (by kernel_rfl) (fun _ _ _ h => h) (Or.inl ⟨by rfl, ?_⟩) ?_ ?_
       rotate_left
       ·
        intro w'
        go_simp
        with_reducible rfl
       rotate_left
       ·
        simp only [Act.put, List.setIfInBounds_toArray, List.set_cons_zero, List.set_cons_succ, i64_w, i32_w]
        rfl
       refine pure_ (i := 3) (N := some 63) (v := ?_) (a' := ?_) #[true, true, true, true, false, false, false, false, false, false, false] rfl rfl (by kernel_rfl) (fun _ _ _ h => h) (Or.inl ⟨by rfl, ?_⟩) ?_ ?_
       rotate_left
       ·
        intro w'
        go_simp
        with_reducible rfl
       rotate_left
       ·
        simp only [Act.put, List.setIfInBounds_toArray, List.set_cons_zero, List.set_cons_succ, i64_w, i32_w]
        rfl
       refine pure_ (i := 5) (N := some 65) (v := ?_) (a' := ?_) #[true, true, true, true, false, true, false, false, false, false, false] rfl rfl (by kernel_rfl) (fun _ _ _ h => h) (Or.inl ⟨by rfl, ?_⟩) ?_ ?_
       rotate_left
       ·
        intro w'
        go_simp
        with_reducible rfl
       rotate_left
       ·
        simp only [Act.put, List.setIfInBounds_toArray, List.set_cons_zero, List.set_cons_succ, i64_w, i32_w]
        rfl
       refine pure_ (i := 6) (N := some 66) (v := ?_) (a' := ?_) #[true, true, true, true, false, true, true, false, false, false, false] rfl rfl (by kernel_rfl) (fun _ _ _ h => h) (Or.inl ⟨by rfl, ?_⟩) ?_ ?_
       rotate_left
       ·
        intro w'
        go_simp
        with_reducible rfl
       rotate_left
       ·
        simp only [Act.put, List.setIfInBounds_toArray, List.set_cons_zero, List.set_cons_succ, i64_w, i32_w]
        rfl
       refine pure_ (i := 7) (N := some 67) (v := ?_) (a' := ?_) #[true, true, true, true, false, true, true, true, false, false, false] rfl rfl (by kernel_rfl) (fun _ _ _ h => h) (Or.inl ⟨by rfl, ?_⟩) ?_ ?_
       rotate_left
       ·
        intro w'
        go_simp
        with_reducible rfl
       rotate_left
       ·
        simp only [Act.put, List.setIfInBounds_toArray, List.set_cons_zero, List.set_cons_succ, i64_w, i32_w]
        rfl
       refine pure_ (i := 8) (N := some 68) (v := ?_) (a' := ?_) #[true, true, true, true, false, true, true, true, true, false, false] rfl rfl (by kernel_rfl) (fun _ _ _ h => h) (Or.inl ⟨by rfl, ?_⟩) ?_ ?_
       rotate_left
       ·
        intro w'
        go_simp
        with_reducible rfl
       rotate_left
       ·
        simp only [Act.put, List.setIfInBounds_toArray, List.set_cons_zero, List.set_cons_succ, i64_w, i32_w]
        rfl
       refine take_ (i := 4) (N := some 64) (v := ?_) (a' := ?_) #[true, true, true, true, true, true, true, true, true, false, false] rfl rfl (by kernel_rfl) (fun _ _ _ h => h) (Or.inl ⟨by rfl, ?_⟩) hHeld ?_ ?_
       rotate_left
       ·
        rintro w' ⟨s0, s1⟩
        go_simp
        with_reducible rfl
       rotate_left
       ·
        simp only [Act.put, List.setIfInBounds_toArray, List.set_cons_zero, List.set_cons_succ, i64_w, i32_w]
        rfl
       refine take_ (i := 9) (N := some 69) (v := ?_) (a' := ?_) #[true, true, true, true, true, true, true, true, true, true, false] rfl rfl (by kernel_rfl) (fun _ _ _ h => h) (Or.inl ⟨by rfl, ?_⟩) hHeld ?_ ?_
       rotate_left
       ·
        rintro w' ⟨s0, s1⟩
        go_simp
        with_reducible rfl
       rotate_left
       ·
        simp only [Act.put, List.setIfInBounds_toArray, List.set_cons_zero, List.set_cons_succ, i64_w, i32_w]
        rfl
       refine pure_ (i := 10) (N := some 70) (v := ?_) (a' := ?_) #[true, true, true, true, true, true, true, true, true, true, true] rfl rfl (by kernel_rfl) (fun _ _ _ h => h) (Or.inl ⟨by rfl, ?_⟩) ?_ ?_
       rotate_left
       ·
        intro w'
        go_simp
        with_reducible rfl
       rotate_left
       ·
        simp only [Act.put, List.setIfInBounds_toArray, List.set_cons_zero, List.set_cons_succ, i64_w, i32_w]
        rfl
       refine done_ (by kernel_rfl) ?_
       obtain ⟨bb, hbb⟩ : ∃ bb, (x.f0.toList == k.toList) = bb := ⟨_, rfl⟩
       rw [hbb]
       have Hbb := Lib.hid hbb
       clear hbb
       cases bb with
       | true =>
        have Hk : RowKit.Hid (x.f0 = k) := Lib.hid (keq_of (show (x.f0.toList == k.toList) = true from Hbb))
        clear hHeld hy0 hy1 hz0 hz1
        go_wp2_with fail
        exact inR_next _ _ _ _ _ _ _ j Hj (st_pos Hst3 Hk) (len1_ (show nx.length ≤ 2 * j from Hnl)) hr14 hb14
       | false =>
        have Hk : RowKit.Hid (¬ x.f0 = k) := Lib.hid (kne_of (show (x.f0.toList == k.toList) = false from Hbb))
        have hq0 := ((hb14.cell (World.block_lt_of_cell? _ _ hy0)).trans hy0)
        have hq1 := ((hb14.cell (World.block_lt_of_cell? _ _ hy1)).trans hy1)
        have LX := Lib.hid (show (((nx ++ [(⟨k, v⟩ : S82)])).length + 1) * 32 ≤ 140737488355328 by have := (show nx.length ≤ 2 * j from Hnl); (try simp only [List.length_append, List.length_singleton]); omega)
        clear hHeld hy0 hy1 hz0 hz1
        go_wp2_with ((with_reducible refine gate_builtin (b := .append) (xs := #[.tmp 71, .tmp 76]) rfl ?_); at_builtin; refine Kd.R_append k82 (w0 := w9) w9.heap.size rfl (.tmp 71) (.tmp 76) 47 82 (.agg #[(.string ⟨#[]⟩), (.string ⟨#[]⟩)]) 32 rfl Tryz.underlying47 (by kernel_rfl) rfl (by decide) (by decide) v13 ((nx ++ [(⟨k, v⟩ : S82)])) x [.string x.f0, .string x.f1] (fun _ => True) (fun _ => False) rfl rfl (k82_mkM _ _ _ x) (fun _ h => h.elim) (fun _ _ => trivial) (Kd.R_mono hr14 (fun _ _ => trivial)) hb14 hb14.size LX ?_; intro v16 w16 ho16 hb16 hg16 hat16)
        exact inR_next _ _ _ _ _ _ _ j Hj (st_neg Hst3 Hk) (len2_ (show nx.length ≤ 2 * j from Hnl)) ho16 hb16
-- IN]
    ·
     have d2 : decide ((j : Int) < (out.length : Int)) = false := decide_eq_false (by omega)
     have hjo : j = out.length := by omega
     subst hjo
     rw [List.take_length] at hst
     have hlen := turn1_len out ⟨k, v, g⟩ hris
     have LT : turn1 out ⟨k, v, g⟩ = (if pl = true then nx else nx ++ [(⟨k, v⟩ : S82)]) := by unfold turn1; rw [hst]
     rw [LT] at hlen
     have Hst := Lib.hid (show turnR rows (l.take (i + 1)) = _ from (show turnR rows (l.take (i + 1)) = turn1 out ⟨k, v, g⟩ from Htk).trans LT)
     have Hol := Lib.hid (show (if pl = true then nx else nx ++ [(⟨k, v⟩ : S82)]).length ≤ rows.length + (i + 1) by omega)
     have LB := Lib.hid (show (nx.length + 1) * 32 ≤ 140737488355328 by omega)
     clear hst LT hlen hnl Htk
     cases pl with
     | true =>
      clear hz0 hz1
      go_wp2_with fail
      exact outR_next _ _ _ _ _ _ i Hi (show turnR rows (l.take (i + 1)) = nx from Hst) (show nx.length ≤ rows.length + (i + 1) from Hol) (Kd.R_lower hrn hwz) (below_then hb hwz hbq)
     | false =>
      go_upto_region 14 with (fail)
-- [EX
      have hb12 := below_drew1 hbq
      have hr12 := Kd.R_drew hrn
      refine start_ (n := 15) (S := fun w' => w'.cell? (ad1.add (i * 3)) = some (.string k) ∧ w'.cell? ⟨(ad1.add (i * 3)).block, (ad1.add (i * 3)).off + 1, none⟩ = some (.string v)) (ds := []) #[false, false, false, false, false, false, false, false, false, false, false, false, false, false, false] (by kernel_rfl) rfl rfl ⟨((hb12.cell (World.block_lt_of_cell? _ _ hz0)).trans hz0), ((hb12.cell (World.block_lt_of_cell? _ _ hz1)).trans hz1)⟩ (fun hHeld => ?_)
      generalize wr.drew = w12 at hb12 hr12 hHeld ⊢
      refine pure_ (i := 0) (N := some 80) (v := ?_) (a' := ?_) #[true, false, false, false, false, false, false, false, false, false, false, false, false, false, false] rfl rfl (by kernel_rfl) (fun _ _ _ h => h) (Or.inl ⟨by rfl, ?_⟩) ?_ ?_
      rotate_left
      ·
       intro w'
       go_simp
       with_reducible rfl
      rotate_left
      ·
       simp only [Act.put, List.setIfInBounds_toArray, List.set_cons_zero, List.set_cons_succ, i64_w, i32_w]
       rfl
      refine pure_ (i := 1) (N := some 81) (v := ?_) (a' := ?_) #[true, true, false, false, false, false, false, false, false, false, false, false, false, false, false] rfl rfl (by kernel_rfl) (fun _ _ _ h => h) (Or.inl ⟨by rfl, ?_⟩) ?_ ?_
      rotate_left
      ·
       intro w'
       go_simp
       with_reducible rfl
      rotate_left
      ·
       simp only [Act.put, List.setIfInBounds_toArray, List.set_cons_zero, List.set_cons_succ, i64_w, i32_w]
       rfl
      refine pure_ (i := 2) (N := some 82) (v := ?_) (a' := ?_) #[true, true, true, false, false, false, false, false, false, false, false, false, false, false, false] rfl rfl (by kernel_rfl) (fun _ _ _ h => h) (Or.inl ⟨by rfl, ?_⟩) ?_ ?_
      rotate_left
      ·
       intro w'
       go_simp
       with_reducible rfl
      rotate_left
      ·
       simp only [Act.put, List.setIfInBounds_toArray, List.set_cons_zero, List.set_cons_succ, i64_w, i32_w]
       rfl
      refine pure_ (i := 3) (N := some 83) (v := ?_) (a' := ?_) #[true, true, true, true, false, false, false, false, false, false, false, false, false, false, false] rfl rfl (by kernel_rfl) (fun _ _ _ h => h) (Or.inl ⟨by rfl, ?_⟩) ?_ ?_
      rotate_left
      ·
       intro w'
       go_simp
       with_reducible rfl
      rotate_left
      ·
       simp only [Act.put, List.setIfInBounds_toArray, List.set_cons_zero, List.set_cons_succ, i64_w, i32_w]
       rfl
      refine pure_ (i := 4) (N := some 84) (v := ?_) (a' := ?_) #[true, true, true, true, true, false, false, false, false, false, false, false, false, false, false] rfl rfl (by kernel_rfl) (fun _ _ _ h => h) (Or.inl ⟨by rfl, ?_⟩) ?_ ?_
      rotate_left
      ·
       intro w'
       go_simp
       with_reducible rfl
      rotate_left
      ·
       simp only [Act.put, List.setIfInBounds_toArray, List.set_cons_zero, List.set_cons_succ, i64_w, i32_w]
       rfl
      refine pure_ (i := 6) (N := some 86) (v := ?_) (a' := ?_) #[true, true, true, true, true, false, true, false, false, false, false, false, false, false, false] rfl rfl (by kernel_rfl) (fun _ _ _ h => h) (Or.inl ⟨by rfl, ?_⟩) ?_ ?_
      rotate_left
      ·
       intro w'
       go_simp
       with_reducible rfl
      rotate_left
      ·
       simp only [Act.put, List.setIfInBounds_toArray, List.set_cons_zero, List.set_cons_succ, i64_w, i32_w]
       rfl
      refine pure_ (i := 7) (N := some 87) (v := ?_) (a' := ?_) #[true, true, true, true, true, false, true, true, false, false, false, false, false, false, false] rfl rfl (by kernel_rfl) (fun _ _ _ h => h) (Or.inl ⟨by rfl, ?_⟩) ?_ ?_
      rotate_left
      ·
       intro w'
       go_simp
       with_reducible rfl
      rotate_left
      ·
       simp only [Act.put, List.setIfInBounds_toArray, List.set_cons_zero, List.set_cons_succ, i64_w, i32_w]
       rfl
      refine pure_ (i := 8) (N := some 88) (v := ?_) (a' := ?_) #[true, true, true, true, true, false, true, true, true, false, false, false, false, false, false] rfl rfl (by kernel_rfl) (fun _ _ _ h => h) (Or.inl ⟨by rfl, ?_⟩) ?_ ?_
      rotate_left
      ·
       intro w'
       go_simp
       with_reducible rfl
      rotate_left
      ·
       simp only [Act.put, List.setIfInBounds_toArray, List.set_cons_zero, List.set_cons_succ, i64_w, i32_w]
       rfl
      refine pure_ (i := 9) (N := some 89) (v := ?_) (a' := ?_) #[true, true, true, true, true, false, true, true, true, true, false, false, false, false, false] rfl rfl (by kernel_rfl) (fun _ _ _ h => h) (Or.inl ⟨by rfl, ?_⟩) ?_ ?_
      rotate_left
      ·
       intro w'
       go_simp
       with_reducible rfl
      rotate_left
      ·
       simp only [Act.put, List.setIfInBounds_toArray, List.set_cons_zero, List.set_cons_succ, i64_w, i32_w]
       rfl
      refine take_ (i := 5) (N := some 85) (v := ?_) (a' := ?_) #[true, true, true, true, true, true, true, true, true, true, false, false, false, false, false] rfl rfl (by kernel_rfl) (fun _ _ _ h => h) (Or.inl ⟨by rfl, ?_⟩) hHeld ?_ ?_
      rotate_left
      ·
       rintro w' ⟨s0, s1⟩
       go_simp
       with_reducible rfl
      rotate_left
      ·
       simp only [Act.put, List.setIfInBounds_toArray, List.set_cons_zero, List.set_cons_succ, i64_w, i32_w]
       rfl
      refine take_ (i := 10) (N := some 90) (v := ?_) (a' := ?_) #[true, true, true, true, true, true, true, true, true, true, true, false, false, false, false] rfl rfl (by kernel_rfl) (fun _ _ _ h => h) (Or.inl ⟨by rfl, ?_⟩) hHeld ?_ ?_
      rotate_left
      ·
       rintro w' ⟨s0, s1⟩
       go_simp
       with_reducible rfl
      rotate_left
      ·
       simp only [Act.put, List.setIfInBounds_toArray, List.set_cons_zero, List.set_cons_succ, i64_w, i32_w]
       rfl
      refine pure_ (i := 11) (N := some 91) (v := ?_) (a' := ?_) #[true, true, true, true, true, true, true, true, true, true, true, true, false, false, false] rfl rfl (by kernel_rfl) (fun _ _ _ h => h) (Or.inl ⟨by rfl, ?_⟩) ?_ ?_
      rotate_left
      ·
       intro w'
       go_simp
       with_reducible rfl
      rotate_left
      ·
       simp only [Act.put, List.setIfInBounds_toArray, List.set_cons_zero, List.set_cons_succ, i64_w, i32_w]
       rfl
      refine one_ (i := 12) (N := some 92) #[true, true, true, true, true, true, true, true, true, true, true, true, true, false, false] rfl rfl (by kernel_rfl) (by decide) (fun K hK => ?_)
      refine value_ (w1 := ?_) (v := ?_) (by rfl) rfl ?_ ?_
      rotate_left 2
      ·
       go_simp
       constructor
       ·
        rfl
       ·
        rfl
      refine hK.out _ _ ⟨((World.cell?_alloc_lt _ _ _ (World.block_lt_of_cell? _ _ ((hb12.cell (World.block_lt_of_cell? _ _ hz0)).trans hz0))).trans ((hb12.cell (World.block_lt_of_cell? _ _ hz0)).trans hz0)), ((World.cell?_alloc_lt _ _ _ (World.block_lt_of_cell? _ _ ((hb12.cell (World.block_lt_of_cell? _ _ hz1)).trans hz1))).trans ((hb12.cell (World.block_lt_of_cell? _ _ hz1)).trans hz1))⟩ (fun hHeld => ?_)
      clear hK K
      refine norm_ (a' := ?_) ?_ ?_
      rotate_left
      ·
       show Act.put _ (some 92) _ = _
       simp only [Act.put, List.setIfInBounds_toArray, List.set_cons_zero, List.set_cons_succ, i64_w, i32_w]
       rfl
      refine one_ (i := 13) (N := some 93) #[true, true, true, true, true, true, true, true, true, true, true, true, true, true, false] rfl rfl (by kernel_rfl) (by decide) (fun K hK => ?_)
      refine Kd.R_append_step k82 (w0 := w9) w9.heap.size (by rfl) (.tmp 80) (.tmp 92) 47 82 (.agg #[(.string ⟨#[]⟩), (.string ⟨#[]⟩)]) 32 rfl Tryz.underlying47 (by kernel_rfl) rfl (by decide) (by decide) u7 nx ⟨k, v⟩ [.string k, .string v] (fun _ => True) (fun _ => False) rfl rfl (k82_mkM _ _ _ ⟨k, v⟩) (fun _ h => h.elim) (fun _ _ => trivial) (Kd.R_mono hr12 (fun _ _ => trivial)) hb12 hb12.size LB ?_
      intro v17 w17 ho17 hb17 hg17 hat17
      refine hK.out _ _ ⟨((hb17.cell (World.block_lt_of_cell? _ _ hz0)).trans hz0), ((hb17.cell (World.block_lt_of_cell? _ _ hz1)).trans hz1)⟩ (fun hHeld => ?_)
      clear hK K
      refine norm_ (a' := ?_) ?_ ?_
      rotate_left
      ·
       show Act.put _ (some 93) _ = _
       simp only [Act.put, List.setIfInBounds_toArray, List.set_cons_zero, List.set_cons_succ, i64_w, i32_w]
       rfl
      refine pure_ (i := 14) (N := some 7) (v := ?_) (a' := ?_) #[true, true, true, true, true, true, true, true, true, true, true, true, true, true, true] rfl rfl (by kernel_rfl) (fun _ _ _ h => h) (Or.inl ⟨by rfl, ?_⟩) ?_ ?_
      rotate_left
      ·
       intro w'
       go_simp
       with_reducible rfl
      rotate_left
      ·
       simp only [Act.put, List.setIfInBounds_toArray, List.set_cons_zero, List.set_cons_succ, i64_w, i32_w]
       rfl
      refine done_ (by kernel_rfl) ?_
-- EX]
      clear hHeld hz0 hz1
      go_wp2_with fail
      exact outR_next _ _ _ _ _ _ i Hi (show turnR rows (l.take (i + 1)) = nx ++ [⟨k, v⟩] from Hst) (show (nx ++ [(⟨k, v⟩ : S82)]).length ≤ rows.length + (i + 1) from Hol) (Kd.R_lower ho17 hwz) (below_then hb hwz hb17)
  ·
   have d1 : decide ((i : Int) < (l.length : Int)) = false := decide_eq_false (by omega)
   have hil : i = l.length := by omega
   subst hil
   rw [List.take_length] at hout
   subst hout
   go_wp2_with fail
   go_ret
   exact ⟨_, rfl, hr, hb⟩
end Go.Proofs.YtpoblffgclmmlaaGreatDoor.X
end
