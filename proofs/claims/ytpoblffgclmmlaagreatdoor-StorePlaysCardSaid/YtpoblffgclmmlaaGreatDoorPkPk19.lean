/- A part of the proof of a card: what some functions of the program come to, each under the conditions that its theorem names. -/
import Derived.Test.YtpoblffgclmmlaaGreatDoorPkPk16
import Derived.Test.YtpoblffgclmmlaaGreatDoorPkPk17
import Derived.Test.YtpoblffgclmmlaaGreatDoorPkPk18
section
set_option linter.unusedVariables false
set_option linter.unusedSimpArgs false
namespace Go.Proofs.YtpoblffgclmmlaaGreatDoor.X
open Go.RowKit Go.WideMaps Go.Maps Go.Proofs.YtpoblffgclmmlaaGreatDoorW.PrintWords Go.Proofs.YtpoblffgclmmlaaGreatDoorW.PrintLast Go.Proofs.YtpoblffgclmmlaaGreatDoorW.PrintMore Go.Proofs.YtpoblffgclmmlaaGreatDoor.Q

/-- A row of bytes of the call's own. -/
abbrev BytR (b e : Nat) (w : World) (v : Value) (xs : List Int) : Prop := Kd.R (Kd.int .u8) e w b (fun _ => True) v xs
theorem BytR.grown {b e : Nat} {W w1 : World} {v : Value} {xs : List Int} (h : BytR b e W v xs) (hb : b ≤ W.heap.size) (hg : W.grownBy w1 v.ownBlock) : Below b W w1 := (Below.refl b W).grown hg hb (fun k e => Kd.R_base h k e)
theorem app_rows_step {P : Program} {ops : Array Oper} {o : Oper} {a : Act} {Q : Exit → Act → World → Prop} {Kc : Act → World → Prop} {W : World} (base : Nat) (hw : Region.wanted o (yielded ops a.tmps) = true) (s x : Operand) (t e : TypeId)
  (ho : o.op = .call { callee := .builtin .append, args := #[s, x], argTypes := #[t, t] })
  (ht : P.underlying t = some (.slice e)) (hinfo : (P.info? e).map (fun i => (i.zero, i.size, i.bytes)) = some (some (.int .u8 0), 1, 1))
  (v : Value) (xs ys : List Int) (A : Option Addr) (c : Nat) (hs : a.eval s = v) (hx : a.eval x = .slice A ys.length c)
  (HO : BytR base e W v xs) (HR : Kd.C (Kd.int .u8) W A ys.length ys) (hbase : base ≤ W.heap.size) (hl : xs.length + ys.length ≤ 140737488355328)
  (h : ∀ v1 w1, BytR base e w1 v1 (xs ++ ys) → Below base W w1 → Kc (a.put o.dst v1) w1) :
  if Region.wanted o (yielded ops a.tmps) = true then Oper.wp P o a W Kc Q else Kc (a.put o.dst undef) W :=
 Kd.R_append_rows_step (Kd.int .u8) (w0 := W) base hw s x t e (.int .u8 0) 1 ho ht hinfo rfl (by decide) (by decide) v xs ys A ys.length c (fun _ => True) (fun _ => False) hs hx HO HR (fun _ _ h => h) (fun _ h => h.elim) (fun _ _ => trivial) (Below.refl _ _) hbase (by omega) (fun v1 w1 h1 _ h3 _ => h v1 w1 h1 (HO.grown hbase h3))
theorem app_rows {P : Program} {ops : Array Oper} {rest : List Oper} {o : Oper} {a : Act} {Q : Exit → Act → World → Prop} {W : World} (base : Nat) (hgd : o.guard = none) (s x : Operand) (t e : TypeId)
  (ho : o.op = .call { callee := .builtin .append, args := #[s, x], argTypes := #[t, t] })
  (ht : P.underlying t = some (.slice e)) (hinfo : (P.info? e).map (fun i => (i.zero, i.size, i.bytes)) = some (some (.int .u8 0), 1, 1))
  (v : Value) (xs ys : List Int) (A : Option Addr) (c : Nat) (hs : a.eval s = v) (hx : a.eval x = .slice A ys.length c)
  (HO : BytR base e W v xs) (HR : Kd.C (Kd.int .u8) W A ys.length ys) (hbase : base ≤ W.heap.size) (hl : xs.length + ys.length ≤ 140737488355328)
  (h : ∀ v1 w1, BytR base e w1 v1 (xs ++ ys) → Below base W w1 → wpList P ops Q rest (a.put o.dst v1) w1) :
  wpList P ops Q (o :: rest) a W :=
 Kd.R_append_rows (Kd.int .u8) (w0 := W) base hgd s x t e (.int .u8 0) 1 ho ht hinfo rfl (by decide) (by decide) v xs ys A ys.length c (fun _ => True) (fun _ => False) hs hx HO HR (fun _ _ h => h) (fun _ h => h.elim) (fun _ _ => trivial) (Below.refl _ _) hbase (by omega) (fun v1 w1 h1 _ h3 _ => h v1 w1 h1 (HO.grown hbase h3))
theorem app_str {P : Program} {ops : Array Oper} {rest : List Oper} {o : Oper} {a : Act} {Q : Exit → Act → World → Prop} {W : World} (base : Nat) (hgd : o.guard = none) (s x : Operand) (t u e : TypeId)
  (ho : o.op = .call { callee := .builtin .append, args := #[s, x], argTypes := #[t, u] })
  (ht : P.underlying t = some (.slice e)) (hu : P.underlying u = some .string) (hinfo : (P.info? e).map (fun i => (i.zero, i.size, i.bytes)) = some (some (.int .u8 0), 1, 1))
  (v : Value) (xs : List Int) (y : ByteArray) (hs : a.eval s = v) (hx : a.eval x = .string y)
  (HO : BytR base e W v xs) (hbase : base ≤ W.heap.size) (hl : xs.length + y.size ≤ 140737488355328)
  (h : ∀ v1 w1, BytR base e w1 v1 (xs ++ bytesOf y) → Below base W w1 → wpList P ops Q rest (a.put o.dst v1) w1) :
  wpList P ops Q (o :: rest) a W := by
 obtain ⟨i0, hi, hzz⟩ := Option.map_eq_some_iff.1 hinfo
 simp only [Prod.mk.injEq] at hzz
 obtain ⟨hz0, hz1, hz2⟩ := hzz
 obtain ⟨v1, w1, hrun, hown, hg, _⟩ := Lib.run_append_own_string (P := P) W base t u o.type e i0 ht hu hi hz0 hz1 hz2 v xs.length _ (Kd.own_of_R HO) y (by simp only [maxLen]; omega) hl hbase
 refine wpList_plain hgd fun K hK2 => ?_
 unfold Oper.wp execOp
 simp only [ho, resolve, invoke, builtin, Sem.run_bind, Sem.run_pure, Result.andThen_ok, List.map_toArray, List.map_cons, List.map_nil, hs, hx, hrun]
 refine hK2 _ _ (h v1 w1 (Kd.R_of_own (enc := fun n => Value.int .u8 n) (h1 := fun _ => rfl) ?_ (fun _ _ => trivial)) (HO.grown hbase hg))
 have hl2 : (xs ++ bytesOf y).length = xs.length + y.size := by rw [List.length_append, bytesOf_length]
 have hc : encs (fun n => Value.int .u8 n) (xs ++ bytesOf y) = encs (fun n => Value.int .u8 n) xs ++ Lib.strCells y := by
  simp [encs, bytesOf, Lib.strCells]
 rw [hl2, hc]
 exact hown
theorem four_says (a : Int) (w : World) : Calls Tryz.prog 140 #[.int .i64 a] w fun e w' => ∃ v, e = .returned v ∧ BytR w.heap.size 5 w' v (four a) ∧ Below w.heap.size w w' :=
 exequaturref10_Four.calls a (four a) w rfl
/-- Between two rounds. -/
def RcdI (w : World) (l : List S69) (v3 v4 : Value) (wr : World) : Prop := ∃ i : Nat, v4 = .int .i64 i ∧ i ≤ l.length ∧ BytR w.heap.size 5 wr v3 (four (l.length : Int) ++ (l.take i).flatMap chgL) ∧ Below w.heap.size w wr
theorem rcdI_next {w : World} {l : List S69} {v : Value} {wr : World} {i : Nat} {xs ys : List Int} (hi : i + 1 ≤ l.length) (hs : four (l.length : Int) ++ (l.take (i + 1)).flatMap chgL = xs ++ ys) (hr : BytR w.heap.size 5 wr v (xs ++ ys)) (hb : Below w.heap.size w wr) :
  RcdI w l v (.int .i64 ((i : Int) + 1)) wr ∧ l.length - (intOf (.int .i64 ((i : Int) + 1))).toNat < l.length - (intOf (.int .i64 (i : Int))).toNat := by
 refine ⟨⟨i + 1, rfl, hi, by rw [hs]; exact hr, hb⟩, ?_⟩
 simp only [intOf]; omega
set_option maxHeartbeats 16000000 in
set_option maxRecDepth 100000 in
theorem Record_says (A : Option Addr) (c : Nat) (l : List S69) (w : World) (hC : Kd.C k69 w A l.length l) (hc : l.length ≤ c) (hl : (recL l).length ≤ 1000000000) :
  Calls Tryz.prog 92 #[.slice A l.length c] w fun e w' => ∃ v, e = .returned v ∧ BytR w.heap.size 5 w' v (recL l) ∧ Below w.heap.size w w' := by
 have hln : l.length ≤ 1000000000 := by have := recs_len (l := l); omega
 go_enter Tryz.func92, Tryz.ntmps92
 go_wp2_with fail
 refine (four_says (l.length : Int) w).mono ?_
 rintro e w1 ⟨v1, rfl, hr1, hb1⟩
 have hI : RcdI w l v1 (.int .i64 0) w1 := ⟨0, rfl, Nat.zero_le _, by simpa using hr1, hb1⟩
 clear hr1 hb1
 go_wp2_with fail
 go_loopw [3, 4] (fun v3 v4 wr => RcdI w l v3 v4 wr) (fun _ v4 _ => l.length - (intOf v4).toNat)
 case atStart => exact hI
 case round =>
  clear hI
  obtain ⟨i, rfl, hi, hr, hb⟩ := hrel
  by_cases hlt : i < l.length
  ·
   have d1 : decide ((i : Int) < (l.length : Int)) = true := decide_eq_true (by omega)
   obtain ⟨ad, rfl, hx0, hx1, hx2⟩ := at_T69 hC (i : Int) (by omega) (by omega)
   have hstep := recL_take l i hlt
   have hrl := recL_len l (i + 1)
   have hrd : rd_T69 l (i : Int) = l.getD i z69 := by unfold rd_T69; rw [Int.toNat_natCast]
   rw [hrd] at hx0 hx1 hx2
   obtain ⟨x, hx⟩ : ∃ x, x = l.getD i z69 := ⟨_, rfl⟩
   rw [← hx] at hx0 hx1 hx2 hstep
   clear hx hrd
   simp only [Int.toNat_natCast] at hx0 hx1 hx2
   have i3 : ((i : Int) < (l.length : Int)) = True := eq_true (by omega)
   have i0 : (0 ≤ (i : Int)) = True := eq_true (by omega)
   have e1 : IntKind.i64.wrap ((i : Int) + 1) = (i : Int) + 1 := IntWalk.i64_in _ (by omega)
   rw [hstep, ← List.append_assoc, List.length_append, chgL_len] at hrl
   obtain ⟨xs, hxs⟩ : ∃ xs, xs = four (l.length : Int) ++ (l.take i).flatMap chgL := ⟨_, rfl⟩
   rw [← hxs] at hr hrl
   have Hfin := Lib.hid (show four (l.length : Int) ++ (l.take (i + 1)).flatMap chgL = xs ++ chgL x by rw [hstep, hxs, List.append_assoc])
   have Hi := Lib.hid (show i + 1 ≤ l.length by omega)
   obtain ⟨f0, f1, f2⟩ := x
   simp only at hrl hx0 hx1 hx2
   have L0 := Lib.hid (show xs.length + 12 + f0.size + (if f2 = true then 0 else f1.size) ≤ 1000000000 by omega)
   have hwb := hb.size
   clear hxs hstep hrl hlt hi hl hln
   go_upto_region 5 with (fail)
   have hr5 := Kd.R_drew hr
   have hb5 := below_drew1 hb
   have hwb5 : w.heap.size ≤ wr.drew.heap.size := hwb
-- [R5
   refine start_ (n := 7) (S := fun w' => w'.cell? ⟨(ad.add (i * 3)).block, (ad.add (i * 3)).off + 1, none⟩ = some (.string f1)) (ds := []) #[false, false, false, false, false, false, false] (by kernel_rfl) rfl rfl (((hb5.cell (World.block_lt_of_cell? _ _ hx1)).trans hx1)) (fun hHeld => ?_)
   generalize wr.drew = w5 at hr5 hb5 hwb5 hHeld ⊢
   refine pure_ (i := 0) (N := some 16) (v := ?_) (a' := ?_) #[true, false, false, false, false, false, false] rfl rfl (by kernel_rfl) (fun _ _ _ h => h) (Or.inl ⟨by rfl, ?_⟩) ?_ ?_
   rotate_left
   ·
    intro w'
    go_simp
    with_reducible rfl
   rotate_left
   ·
    simp only [Act.put, List.setIfInBounds_toArray, List.set_cons_zero, List.set_cons_succ, i64_w, i32_w]
    rfl
   refine pure_ (i := 1) (N := some 17) (v := ?_) (a' := ?_) #[true, true, false, false, false, false, false] rfl rfl (by kernel_rfl) (fun _ _ _ h => h) (Or.inl ⟨by rfl, ?_⟩) ?_ ?_
   rotate_left
   ·
    intro w'
    go_simp
    with_reducible rfl
   rotate_left
   ·
    simp only [Act.put, List.setIfInBounds_toArray, List.set_cons_zero, List.set_cons_succ, i64_w, i32_w]
    rfl
   refine pure_ (i := 2) (N := some 18) (v := ?_) (a' := ?_) #[true, true, true, false, false, false, false] rfl rfl (by kernel_rfl) (fun _ _ _ h => h) (Or.inl ⟨by rfl, ?_⟩) ?_ ?_
   rotate_left
   ·
    intro w'
    go_simp
    with_reducible rfl
   rotate_left
   ·
    simp only [Act.put, List.setIfInBounds_toArray, List.set_cons_zero, List.set_cons_succ, i64_w, i32_w]
    rfl
   refine pure_ (i := 3) (N := some 19) (v := ?_) (a' := ?_) #[true, true, true, true, false, false, false] rfl rfl (by kernel_rfl) (fun _ _ _ h => h) (Or.inl ⟨by rfl, ?_⟩) ?_ ?_
   rotate_left
   ·
    intro w'
    go_simp
    with_reducible rfl
   rotate_left
   ·
    simp only [Act.put, List.setIfInBounds_toArray, List.set_cons_zero, List.set_cons_succ, i64_w, i32_w]
    rfl
   refine pure_ (i := 5) (N := some 5) (v := ?_) (a' := ?_) #[true, true, true, true, false, true, false] rfl rfl (by kernel_rfl) (fun _ _ _ h => h) (Or.inl ⟨by rfl, ?_⟩) ?_ ?_
   rotate_left
   ·
    intro w'
    go_simp
    with_reducible rfl
   rotate_left
   ·
    simp only [Act.put, List.setIfInBounds_toArray, List.set_cons_zero, List.set_cons_succ, i64_w, i32_w]
    rfl
   refine take_ (i := 4) (N := some 20) (v := ?_) (a' := ?_) #[true, true, true, true, true, true, false] rfl rfl (by kernel_rfl) (fun _ _ _ h => h) (Or.inl ⟨by rfl, ?_⟩) hHeld ?_ ?_
   rotate_left
   ·
    intro w' s0
    go_simp
    with_reducible rfl
   rotate_left
   ·
    simp only [Act.put, List.setIfInBounds_toArray, List.set_cons_zero, List.set_cons_succ, i64_w, i32_w]
    rfl
   refine pure_ (i := 6) (N := some 6) (v := ?_) (a' := ?_) #[true, true, true, true, true, true, true] rfl rfl (by kernel_rfl) (fun _ _ _ h => h) (Or.inl ⟨by rfl, ?_⟩) ?_ ?_
   rotate_left
   ·
    intro w'
    go_simp
    with_reducible rfl
   rotate_left
   ·
    simp only [Act.put, List.setIfInBounds_toArray, List.set_cons_zero, List.set_cons_succ, i64_w, i32_w]
    rfl
   refine done_ (by kernel_rfl) ?_
-- R5]
   have hy2 := (hb5.cell (World.block_lt_of_cell? _ _ hx2)).trans hx2
   clear hHeld hr hb
   cases f2 with
   | true =>
-- [T
    have L1 : xs.length + 12 + f0.size + 0 ≤ 1000000000 := L0
    have K1 := Lib.hid (show xs.length + (four 1).length ≤ 140737488355328 by show xs.length + 4 ≤ _; omega)
    have K2 := Lib.hid (show (xs ++ four 1).length + (four (f0.size : Int)).length ≤ 140737488355328 by rw [List.length_append]; show xs.length + 4 + 4 ≤ _; omega)
    have K3 := Lib.hid (show (xs ++ four 1 ++ four (f0.size : Int)).length + f0.size ≤ 140737488355328 by rw [List.length_append, List.length_append]; show xs.length + 4 + 4 + _ ≤ _; omega)
    have K4 := Lib.hid (show (xs ++ four 1 ++ four (f0.size : Int) ++ bytesOf f0).length + (four (0 : Int)).length ≤ 140737488355328 by rw [List.length_append, List.length_append, List.length_append, bytesOf_length]; show xs.length + 4 + 4 + _ + 4 ≤ _; omega)
    have K5 := Lib.hid (show (xs ++ four 1 ++ four (f0.size : Int) ++ bytesOf f0 ++ four (0 : Int)).length + (⟨#[]⟩ : ByteArray).size ≤ 140737488355328 by rw [List.length_append, List.length_append, List.length_append, List.length_append, bytesOf_length]; show xs.length + 4 + 4 + _ + 4 + 0 ≤ _; omega)
    clear L1 L0
    go_upto_region 8 with (fail)
    have hr7 := Kd.R_drew hr5
    have hb7 := below_drew1 hb5
    have hwb7 : w.heap.size ≤ w5.drew.heap.size := hwb5
    clear hr5
    refine start_ (n := 13) (S := fun w' => w'.cell? (ad.add (i * 3)) = some (.string f0)) (ds := []) #[false, false, false, false, false, false, false, false, false, false, false, false, false] (by kernel_rfl) rfl rfl (((hb7.cell (World.block_lt_of_cell? _ _ hx0)).trans hx0)) (fun hHeld => ?_)
    generalize w5.drew = w7 at hr7 hb7 hwb7 hHeld ⊢
    refine pure_ (i := 0) (N := some 26) (v := ?_) (a' := ?_) #[true, false, false, false, false, false, false, false, false, false, false, false, false] rfl rfl (by kernel_rfl) (fun _ _ _ h => h) (Or.inl ⟨by rfl, ?_⟩) ?_ ?_
    rotate_left
    ·
     intro w'
     go_simp
     with_reducible rfl
    rotate_left
    ·
     simp only [Act.put, List.setIfInBounds_toArray, List.set_cons_zero, List.set_cons_succ, i64_w, i32_w]
     rfl
    refine pure_ (i := 1) (N := some 27) (v := ?_) (a' := ?_) #[true, true, false, false, false, false, false, false, false, false, false, false, false] rfl rfl (by kernel_rfl) (fun _ _ _ h => h) (Or.inl ⟨by rfl, ?_⟩) ?_ ?_
    rotate_left
    ·
     intro w'
     go_simp
     with_reducible rfl
    rotate_left
    ·
     simp only [Act.put, List.setIfInBounds_toArray, List.set_cons_zero, List.set_cons_succ, i64_w, i32_w]
     rfl
    refine pure_ (i := 4) (N := some 30) (v := ?_) (a' := ?_) #[true, true, false, false, true, false, false, false, false, false, false, false, false] rfl rfl (by kernel_rfl) (fun _ _ _ h => h) (Or.inl ⟨by rfl, ?_⟩) ?_ ?_
    rotate_left
    ·
     intro w'
     go_simp
     with_reducible rfl
    rotate_left
    ·
     simp only [Act.put, List.setIfInBounds_toArray, List.set_cons_zero, List.set_cons_succ, i64_w, i32_w]
     rfl
    refine pure_ (i := 5) (N := some 31) (v := ?_) (a' := ?_) #[true, true, false, false, true, true, false, false, false, false, false, false, false] rfl rfl (by kernel_rfl) (fun _ _ _ h => h) (Or.inl ⟨by rfl, ?_⟩) ?_ ?_
    rotate_left
    ·
     intro w'
     go_simp
     with_reducible rfl
    rotate_left
    ·
     simp only [Act.put, List.setIfInBounds_toArray, List.set_cons_zero, List.set_cons_succ, i64_w, i32_w]
     rfl
    refine pure_ (i := 6) (N := some 32) (v := ?_) (a' := ?_) #[true, true, false, false, true, true, true, false, false, false, false, false, false] rfl rfl (by kernel_rfl) (fun _ _ _ h => h) (Or.inl ⟨by rfl, ?_⟩) ?_ ?_
    rotate_left
    ·
     intro w'
     go_simp
     with_reducible rfl
    rotate_left
    ·
     simp only [Act.put, List.setIfInBounds_toArray, List.set_cons_zero, List.set_cons_succ, i64_w, i32_w]
     rfl
    refine pure_ (i := 7) (N := some 33) (v := ?_) (a' := ?_) #[true, true, false, false, true, true, true, true, false, false, false, false, false] rfl rfl (by kernel_rfl) (fun _ _ _ h => h) (Or.inl ⟨by rfl, ?_⟩) ?_ ?_
    rotate_left
    ·
     intro w'
     go_simp
     with_reducible rfl
    rotate_left
    ·
     simp only [Act.put, List.setIfInBounds_toArray, List.set_cons_zero, List.set_cons_succ, i64_w, i32_w]
     rfl
    refine take_ (i := 8) (N := some 34) (v := ?_) (a' := ?_) #[true, true, false, false, true, true, true, true, true, false, false, false, false] rfl rfl (by kernel_rfl) (fun _ _ _ h => h) (Or.inl ⟨by rfl, ?_⟩) hHeld ?_ ?_
    rotate_left
    ·
     intro w' s0
     go_simp
     with_reducible rfl
    rotate_left
    ·
     simp only [Act.put, List.setIfInBounds_toArray, List.set_cons_zero, List.set_cons_succ, i64_w, i32_w]
     rfl
    refine pure_ (i := 9) (N := some 35) (v := ?_) (a' := ?_) #[true, true, false, false, true, true, true, true, true, true, false, false, false] rfl rfl (by kernel_rfl) (fun _ _ _ h => h) (Or.inl ⟨by rfl, ?_⟩) ?_ ?_
    rotate_left
    ·
     intro w'
     go_simp
     with_reducible rfl
    rotate_left
    ·
     simp only [Act.put, List.setIfInBounds_toArray, List.set_cons_zero, List.set_cons_succ, i64_w, i32_w]
     rfl
    refine one_ (i := 2) (N := some 28) #[true, true, true, false, true, true, true, true, true, true, false, false, false] rfl rfl (by kernel_rfl) (by decide) (fun K hK => ?_)
    refine goes_ Tryz.func140 (by kernel_rfl) rfl #[.int .i64 1] (by rfl) rfl rfl (by simp only [List.map_toArray, List.map_cons, List.map_nil]; rfl) ?_
    refine (four_says 1 w7).mono ?_
    rintro e w8 ⟨v8, rfl, hf8, hd8⟩
    obtain ⟨A8, c8, e8⟩ := Kd.R_slice hf8
    subst e8
    refine ⟨_, rfl, ?_⟩
    have hr8 := Kd.R_below hr7 hd8
    have hb8 := below_then hb7 hwb7 hd8
    have hwb8 : w.heap.size ≤ w8.heap.size := Nat.le_trans hwb7 hd8.size
    refine hK.out _ _ (((hb8.cell (World.block_lt_of_cell? _ _ hx0)).trans hx0)) (fun hHeld => ?_)
    clear hK K
    refine norm_ (a' := ?_) ?_ ?_
    rotate_left
    ·
     show Act.put _ (some 28) _ = _
     simp only [Act.put, List.setIfInBounds_toArray, List.set_cons_zero, List.set_cons_succ, i64_w, i32_w]
     rfl
    refine one_ (i := 3) (N := some 29) #[true, true, true, true, true, true, true, true, true, true, false, false, false] rfl rfl (by kernel_rfl) (by decide) (fun K hK => ?_)
    refine app_rows_step (W := w8) w.heap.size ?hw (.tmp 26) (.tmp 28) 40 5 rfl Tryz.underlying40 (show (Tryz.prog.info? 5).map (fun i => (i.zero, i.size, i.bytes)) = some (some (.int .u8 0), 1, 1) by kernel_rfl) u3 (xs) (four 1) A8 c8 rfl rfl hr8 (Kd.R_reads' hf8).2.2 hwb8 K1 ?_
    (case hw => rfl)
    intro v9 w9 hr9 hd9
    have hb9 := hb8.trans hd9
    have hwb9 : w.heap.size ≤ w9.heap.size := Nat.le_trans hwb8 hd9.size
    clear hr7 hr8 hf8
    refine hK.out _ _ (((hb9.cell (World.block_lt_of_cell? _ _ hx0)).trans hx0)) (fun hHeld => ?_)
    clear hK K
    refine norm_ (a' := ?_) ?_ ?_
    rotate_left
    ·
     show Act.put _ (some 29) _ = _
     simp only [Act.put, List.setIfInBounds_toArray, List.set_cons_zero, List.set_cons_succ, i64_w, i32_w]
     rfl
    refine one_ (i := 10) (N := some 36) #[true, true, true, true, true, true, true, true, true, true, true, false, false] rfl rfl (by kernel_rfl) (by decide) (fun K hK => ?_)
    refine goes_ Tryz.func140 (by kernel_rfl) rfl #[.int .i64 (f0.size : Int)] (by rfl) rfl rfl (by simp only [List.map_toArray, List.map_cons, List.map_nil]; rfl) ?_
    refine (four_says (f0.size : Int) w9).mono ?_
    rintro e w10 ⟨v10, rfl, hf10, hd10⟩
    obtain ⟨A10, c10, e10⟩ := Kd.R_slice hf10
    subst e10
    refine ⟨_, rfl, ?_⟩
    have hr10 := Kd.R_below hr9 hd10
    have hb10 := below_then hb9 hwb9 hd10
    have hwb10 : w.heap.size ≤ w10.heap.size := Nat.le_trans hwb9 hd10.size
    refine hK.out _ _ (((hb10.cell (World.block_lt_of_cell? _ _ hx0)).trans hx0)) (fun hHeld => ?_)
    clear hK K
    refine norm_ (a' := ?_) ?_ ?_
    rotate_left
    ·
     show Act.put _ (some 36) _ = _
     simp only [Act.put, List.setIfInBounds_toArray, List.set_cons_zero, List.set_cons_succ, i64_w, i32_w]
     rfl
    refine one_ (i := 11) (N := some 37) #[true, true, true, true, true, true, true, true, true, true, true, true, false] rfl rfl (by kernel_rfl) (by decide) (fun K hK => ?_)
    refine app_rows_step (W := w10) w.heap.size ?hw (.tmp 29) (.tmp 36) 40 5 rfl Tryz.underlying40 (show (Tryz.prog.info? 5).map (fun i => (i.zero, i.size, i.bytes)) = some (some (.int .u8 0), 1, 1) by kernel_rfl) v9 (xs ++ four 1) (four (f0.size : Int)) A10 c10 rfl rfl hr10 (Kd.R_reads' hf10).2.2 hwb10 K2 ?_
    (case hw => rfl)
    intro v11 w11 hr11 hd11
    have hb11 := hb10.trans hd11
    have hwb11 : w.heap.size ≤ w11.heap.size := Nat.le_trans hwb10 hd11.size
    clear hr9 hr10 hf10
    refine hK.out _ _ (((hb11.cell (World.block_lt_of_cell? _ _ hx0)).trans hx0)) (fun hHeld => ?_)
    clear hK K
    refine norm_ (a' := ?_) ?_ ?_
    rotate_left
    ·
     show Act.put _ (some 37) _ = _
     simp only [Act.put, List.setIfInBounds_toArray, List.set_cons_zero, List.set_cons_succ, i64_w, i32_w]
     rfl
    refine pure_ (i := 12) (N := some 3) (v := ?_) (a' := ?_) #[true, true, true, true, true, true, true, true, true, true, true, true, true] rfl rfl (by kernel_rfl) (fun _ _ _ h => h) (Or.inl ⟨by rfl, ?_⟩) ?_ ?_
    rotate_left
    ·
     intro w'
     go_simp
     with_reducible rfl
    rotate_left
    ·
     simp only [Act.put, List.setIfInBounds_toArray, List.set_cons_zero, List.set_cons_succ, i64_w, i32_w]
     rfl
    refine done_ (by kernel_rfl) ?_
    have hq0 := ((hb11.cell (World.block_lt_of_cell? _ _ hx0)).trans hx0)
    clear hHeld
    go_wp2_with ((with_reducible refine gate_builtin (b := .append) (xs := #[.tmp 38, .tmp 43]) rfl ?_); at_builtin; refine app_str w.heap.size rfl (.tmp 38) (.tmp 43) 40 9 5 rfl Tryz.underlying40 Tryz.underlying9 (show (Tryz.prog.info? 5).map (fun i => (i.zero, i.size, i.bytes)) = some (some (.int .u8 0), 1, 1) by kernel_rfl) v11 (xs ++ four 1 ++ four (f0.size : Int)) f0 rfl rfl hr11 hwb11 K3 ?_; intro v12 w12 hr12 hd12)
    have hb12 := hb11.trans hd12
    have hwb12 : w.heap.size ≤ w12.heap.size := Nat.le_trans hwb11 hd12.size
    refine (four_says (0 : Int) w12).mono ?_
    rintro e w13 ⟨v13, rfl, hf13, hd13⟩
    obtain ⟨A13, c13, e13⟩ := Kd.R_slice hf13
    subst e13
    have hr13 := Kd.R_below hr12 hd13
    have hb13 := below_then hb12 hwb12 hd13
    have hwb13 : w.heap.size ≤ w13.heap.size := Nat.le_trans hwb12 hd13.size
    have hC13 := (Kd.R_reads' hf13).2.2
    clear hr11 hr12 hf13 hq0
    go_wp2_with (first
     | ((with_reducible refine gate_builtin (b := .append) (xs := #[.tmp 44, .tmp 47]) rfl ?_); at_builtin; refine app_rows w.heap.size rfl (.tmp 44) (.tmp 47) 40 5 rfl Tryz.underlying40 (show (Tryz.prog.info? 5).map (fun i => (i.zero, i.size, i.bytes)) = some (some (.int .u8 0), 1, 1) by kernel_rfl) v12 (xs ++ four 1 ++ four (f0.size : Int) ++ bytesOf f0) (four (0 : Int)) A13 c13 rfl rfl hr13 hC13 hwb13 K4 ?_; intro v14 w14 hr14 hd14; have hwb14 : w.heap.size ≤ w14.heap.size := Nat.le_trans hwb13 hd14.size)
     | ((with_reducible refine gate_builtin (b := .append) (xs := #[.tmp 49, .tmp 50]) rfl ?_); at_builtin; refine app_str w.heap.size rfl (.tmp 49) (.tmp 50) 40 9 5 rfl Tryz.underlying40 Tryz.underlying9 (show (Tryz.prog.info? 5).map (fun i => (i.zero, i.size, i.bytes)) = some (some (.int .u8 0), 1, 1) by kernel_rfl) v14 (xs ++ four 1 ++ four (f0.size : Int) ++ bytesOf f0 ++ four (0 : Int)) ⟨#[]⟩ rfl rfl hr14 hwb14 K5 ?_; intro v15 w15 hr15 hd15))
    have hfin : xs ++ four 1 ++ four (f0.size : Int) ++ bytesOf f0 ++ four (0 : Int) ++ bytesOf ⟨#[]⟩ = xs ++ chgL ⟨f0, f1, true⟩ := by simp [chgL, bytesOf]
    rw [hfin] at hr15
    exact rcdI_next Hi Hfin hr15 ((hb13.trans hd14).trans hd15)
-- T]
   | false =>
-- [F
    have L1 : xs.length + 12 + f0.size + f1.size ≤ 1000000000 := L0
    have K1 := Lib.hid (show xs.length + (four 0).length ≤ 140737488355328 by show xs.length + 4 ≤ _; omega)
    have K2 := Lib.hid (show (xs ++ four 0).length + (four (f0.size : Int)).length ≤ 140737488355328 by rw [List.length_append]; show xs.length + 4 + 4 ≤ _; omega)
    have K3 := Lib.hid (show (xs ++ four 0 ++ four (f0.size : Int)).length + f0.size ≤ 140737488355328 by rw [List.length_append, List.length_append]; show xs.length + 4 + 4 + _ ≤ _; omega)
    have K4 := Lib.hid (show (xs ++ four 0 ++ four (f0.size : Int) ++ bytesOf f0).length + (four (f1.size : Int)).length ≤ 140737488355328 by rw [List.length_append, List.length_append, List.length_append, bytesOf_length]; show xs.length + 4 + 4 + _ + 4 ≤ _; omega)
    have K5 := Lib.hid (show (xs ++ four 0 ++ four (f0.size : Int) ++ bytesOf f0 ++ four (f1.size : Int)).length + (f1 : ByteArray).size ≤ 140737488355328 by rw [List.length_append, List.length_append, List.length_append, List.length_append, bytesOf_length]; show xs.length + 4 + 4 + _ + 4 + f1.size ≤ _; omega)
    clear L1 L0
    go_upto_region 8 with (fail)
    have hr7 := Kd.R_drew hr5
    have hb7 := below_drew1 hb5
    have hwb7 : w.heap.size ≤ w5.drew.heap.size := hwb5
    clear hr5
    refine start_ (n := 13) (S := fun w' => w'.cell? (ad.add (i * 3)) = some (.string f0)) (ds := []) #[false, false, false, false, false, false, false, false, false, false, false, false, false] (by kernel_rfl) rfl rfl (((hb7.cell (World.block_lt_of_cell? _ _ hx0)).trans hx0)) (fun hHeld => ?_)
    generalize w5.drew = w7 at hr7 hb7 hwb7 hHeld ⊢
    refine pure_ (i := 0) (N := some 26) (v := ?_) (a' := ?_) #[true, false, false, false, false, false, false, false, false, false, false, false, false] rfl rfl (by kernel_rfl) (fun _ _ _ h => h) (Or.inl ⟨by rfl, ?_⟩) ?_ ?_
    rotate_left
    ·
     intro w'
     go_simp
     with_reducible rfl
    rotate_left
    ·
     simp only [Act.put, List.setIfInBounds_toArray, List.set_cons_zero, List.set_cons_succ, i64_w, i32_w]
     rfl
    refine pure_ (i := 1) (N := some 27) (v := ?_) (a' := ?_) #[true, true, false, false, false, false, false, false, false, false, false, false, false] rfl rfl (by kernel_rfl) (fun _ _ _ h => h) (Or.inl ⟨by rfl, ?_⟩) ?_ ?_
    rotate_left
    ·
     intro w'
     go_simp
     with_reducible rfl
    rotate_left
    ·
     simp only [Act.put, List.setIfInBounds_toArray, List.set_cons_zero, List.set_cons_succ, i64_w, i32_w]
     rfl
    refine pure_ (i := 4) (N := some 30) (v := ?_) (a' := ?_) #[true, true, false, false, true, false, false, false, false, false, false, false, false] rfl rfl (by kernel_rfl) (fun _ _ _ h => h) (Or.inl ⟨by rfl, ?_⟩) ?_ ?_
    rotate_left
    ·
     intro w'
     go_simp
     with_reducible rfl
    rotate_left
    ·
     simp only [Act.put, List.setIfInBounds_toArray, List.set_cons_zero, List.set_cons_succ, i64_w, i32_w]
     rfl
    refine pure_ (i := 5) (N := some 31) (v := ?_) (a' := ?_) #[true, true, false, false, true, true, false, false, false, false, false, false, false] rfl rfl (by kernel_rfl) (fun _ _ _ h => h) (Or.inl ⟨by rfl, ?_⟩) ?_ ?_
    rotate_left
    ·
     intro w'
     go_simp
     with_reducible rfl
    rotate_left
    ·
     simp only [Act.put, List.setIfInBounds_toArray, List.set_cons_zero, List.set_cons_succ, i64_w, i32_w]
     rfl
    refine pure_ (i := 6) (N := some 32) (v := ?_) (a' := ?_) #[true, true, false, false, true, true, true, false, false, false, false, false, false] rfl rfl (by kernel_rfl) (fun _ _ _ h => h) (Or.inl ⟨by rfl, ?_⟩) ?_ ?_
    rotate_left
    ·
     intro w'
     go_simp
     with_reducible rfl
    rotate_left
    ·
     simp only [Act.put, List.setIfInBounds_toArray, List.set_cons_zero, List.set_cons_succ, i64_w, i32_w]
     rfl
    refine pure_ (i := 7) (N := some 33) (v := ?_) (a' := ?_) #[true, true, false, false, true, true, true, true, false, false, false, false, false] rfl rfl (by kernel_rfl) (fun _ _ _ h => h) (Or.inl ⟨by rfl, ?_⟩) ?_ ?_
    rotate_left
    ·
     intro w'
     go_simp
     with_reducible rfl
    rotate_left
    ·
     simp only [Act.put, List.setIfInBounds_toArray, List.set_cons_zero, List.set_cons_succ, i64_w, i32_w]
     rfl
    refine take_ (i := 8) (N := some 34) (v := ?_) (a' := ?_) #[true, true, false, false, true, true, true, true, true, false, false, false, false] rfl rfl (by kernel_rfl) (fun _ _ _ h => h) (Or.inl ⟨by rfl, ?_⟩) hHeld ?_ ?_
    rotate_left
    ·
     intro w' s0
     go_simp
     with_reducible rfl
    rotate_left
    ·
     simp only [Act.put, List.setIfInBounds_toArray, List.set_cons_zero, List.set_cons_succ, i64_w, i32_w]
     rfl
    refine pure_ (i := 9) (N := some 35) (v := ?_) (a' := ?_) #[true, true, false, false, true, true, true, true, true, true, false, false, false] rfl rfl (by kernel_rfl) (fun _ _ _ h => h) (Or.inl ⟨by rfl, ?_⟩) ?_ ?_
    rotate_left
    ·
     intro w'
     go_simp
     with_reducible rfl
    rotate_left
    ·
     simp only [Act.put, List.setIfInBounds_toArray, List.set_cons_zero, List.set_cons_succ, i64_w, i32_w]
     rfl
    refine one_ (i := 2) (N := some 28) #[true, true, true, false, true, true, true, true, true, true, false, false, false] rfl rfl (by kernel_rfl) (by decide) (fun K hK => ?_)
    refine goes_ Tryz.func140 (by kernel_rfl) rfl #[.int .i64 0] (by rfl) rfl rfl (by simp only [List.map_toArray, List.map_cons, List.map_nil]; rfl) ?_
    refine (four_says 0 w7).mono ?_
    rintro e w8 ⟨v8, rfl, hf8, hd8⟩
    obtain ⟨A8, c8, e8⟩ := Kd.R_slice hf8
    subst e8
    refine ⟨_, rfl, ?_⟩
    have hr8 := Kd.R_below hr7 hd8
    have hb8 := below_then hb7 hwb7 hd8
    have hwb8 : w.heap.size ≤ w8.heap.size := Nat.le_trans hwb7 hd8.size
    refine hK.out _ _ (((hb8.cell (World.block_lt_of_cell? _ _ hx0)).trans hx0)) (fun hHeld => ?_)
    clear hK K
    refine norm_ (a' := ?_) ?_ ?_
    rotate_left
    ·
     show Act.put _ (some 28) _ = _
     simp only [Act.put, List.setIfInBounds_toArray, List.set_cons_zero, List.set_cons_succ, i64_w, i32_w]
     rfl
    refine one_ (i := 3) (N := some 29) #[true, true, true, true, true, true, true, true, true, true, false, false, false] rfl rfl (by kernel_rfl) (by decide) (fun K hK => ?_)
    refine app_rows_step (W := w8) w.heap.size ?hw (.tmp 26) (.tmp 28) 40 5 rfl Tryz.underlying40 (show (Tryz.prog.info? 5).map (fun i => (i.zero, i.size, i.bytes)) = some (some (.int .u8 0), 1, 1) by kernel_rfl) u3 (xs) (four 0) A8 c8 rfl rfl hr8 (Kd.R_reads' hf8).2.2 hwb8 K1 ?_
    (case hw => rfl)
    intro v9 w9 hr9 hd9
    have hb9 := hb8.trans hd9
    have hwb9 : w.heap.size ≤ w9.heap.size := Nat.le_trans hwb8 hd9.size
    clear hr7 hr8 hf8
    refine hK.out _ _ (((hb9.cell (World.block_lt_of_cell? _ _ hx0)).trans hx0)) (fun hHeld => ?_)
    clear hK K
    refine norm_ (a' := ?_) ?_ ?_
    rotate_left
    ·
     show Act.put _ (some 29) _ = _
     simp only [Act.put, List.setIfInBounds_toArray, List.set_cons_zero, List.set_cons_succ, i64_w, i32_w]
     rfl
    refine one_ (i := 10) (N := some 36) #[true, true, true, true, true, true, true, true, true, true, true, false, false] rfl rfl (by kernel_rfl) (by decide) (fun K hK => ?_)
    refine goes_ Tryz.func140 (by kernel_rfl) rfl #[.int .i64 (f0.size : Int)] (by rfl) rfl rfl (by simp only [List.map_toArray, List.map_cons, List.map_nil]; rfl) ?_
    refine (four_says (f0.size : Int) w9).mono ?_
    rintro e w10 ⟨v10, rfl, hf10, hd10⟩
    obtain ⟨A10, c10, e10⟩ := Kd.R_slice hf10
    subst e10
    refine ⟨_, rfl, ?_⟩
    have hr10 := Kd.R_below hr9 hd10
    have hb10 := below_then hb9 hwb9 hd10
    have hwb10 : w.heap.size ≤ w10.heap.size := Nat.le_trans hwb9 hd10.size
    refine hK.out _ _ (((hb10.cell (World.block_lt_of_cell? _ _ hx0)).trans hx0)) (fun hHeld => ?_)
    clear hK K
    refine norm_ (a' := ?_) ?_ ?_
    rotate_left
    ·
     show Act.put _ (some 36) _ = _
     simp only [Act.put, List.setIfInBounds_toArray, List.set_cons_zero, List.set_cons_succ, i64_w, i32_w]
     rfl
    refine one_ (i := 11) (N := some 37) #[true, true, true, true, true, true, true, true, true, true, true, true, false] rfl rfl (by kernel_rfl) (by decide) (fun K hK => ?_)
    refine app_rows_step (W := w10) w.heap.size ?hw (.tmp 29) (.tmp 36) 40 5 rfl Tryz.underlying40 (show (Tryz.prog.info? 5).map (fun i => (i.zero, i.size, i.bytes)) = some (some (.int .u8 0), 1, 1) by kernel_rfl) v9 (xs ++ four 0) (four (f0.size : Int)) A10 c10 rfl rfl hr10 (Kd.R_reads' hf10).2.2 hwb10 K2 ?_
    (case hw => rfl)
    intro v11 w11 hr11 hd11
    have hb11 := hb10.trans hd11
    have hwb11 : w.heap.size ≤ w11.heap.size := Nat.le_trans hwb10 hd11.size
    clear hr9 hr10 hf10
    refine hK.out _ _ (((hb11.cell (World.block_lt_of_cell? _ _ hx0)).trans hx0)) (fun hHeld => ?_)
    clear hK K
    refine norm_ (a' := ?_) ?_ ?_
    rotate_left
    ·
     show Act.put _ (some 37) _ = _
     simp only [Act.put, List.setIfInBounds_toArray, List.set_cons_zero, List.set_cons_succ, i64_w, i32_w]
     rfl
    refine pure_ (i := 12) (N := some 3) (v := ?_) (a' := ?_) #[true, true, true, true, true, true, true, true, true, true, true, true, true] rfl rfl (by kernel_rfl) (fun _ _ _ h => h) (Or.inl ⟨by rfl, ?_⟩) ?_ ?_
    rotate_left
    ·
     intro w'
     go_simp
     with_reducible rfl
    rotate_left
    ·
     simp only [Act.put, List.setIfInBounds_toArray, List.set_cons_zero, List.set_cons_succ, i64_w, i32_w]
     rfl
    refine done_ (by kernel_rfl) ?_
    have hq0 := ((hb11.cell (World.block_lt_of_cell? _ _ hx0)).trans hx0)
    clear hHeld
    go_wp2_with ((with_reducible refine gate_builtin (b := .append) (xs := #[.tmp 38, .tmp 43]) rfl ?_); at_builtin; refine app_str w.heap.size rfl (.tmp 38) (.tmp 43) 40 9 5 rfl Tryz.underlying40 Tryz.underlying9 (show (Tryz.prog.info? 5).map (fun i => (i.zero, i.size, i.bytes)) = some (some (.int .u8 0), 1, 1) by kernel_rfl) v11 (xs ++ four 0 ++ four (f0.size : Int)) f0 rfl rfl hr11 hwb11 K3 ?_; intro v12 w12 hr12 hd12)
    have hb12 := hb11.trans hd12
    have hwb12 : w.heap.size ≤ w12.heap.size := Nat.le_trans hwb11 hd12.size
    refine (four_says (f1.size : Int) w12).mono ?_
    rintro e w13 ⟨v13, rfl, hf13, hd13⟩
    obtain ⟨A13, c13, e13⟩ := Kd.R_slice hf13
    subst e13
    have hr13 := Kd.R_below hr12 hd13
    have hb13 := below_then hb12 hwb12 hd13
    have hwb13 : w.heap.size ≤ w13.heap.size := Nat.le_trans hwb12 hd13.size
    have hC13 := (Kd.R_reads' hf13).2.2
    clear hr11 hr12 hf13 hq0
    go_wp2_with (first
     | ((with_reducible refine gate_builtin (b := .append) (xs := #[.tmp 44, .tmp 47]) rfl ?_); at_builtin; refine app_rows w.heap.size rfl (.tmp 44) (.tmp 47) 40 5 rfl Tryz.underlying40 (show (Tryz.prog.info? 5).map (fun i => (i.zero, i.size, i.bytes)) = some (some (.int .u8 0), 1, 1) by kernel_rfl) v12 (xs ++ four 0 ++ four (f0.size : Int) ++ bytesOf f0) (four (f1.size : Int)) A13 c13 rfl rfl hr13 hC13 hwb13 K4 ?_; intro v14 w14 hr14 hd14; have hwb14 : w.heap.size ≤ w14.heap.size := Nat.le_trans hwb13 hd14.size)
     | ((with_reducible refine gate_builtin (b := .append) (xs := #[.tmp 49, .tmp 50]) rfl ?_); at_builtin; refine app_str w.heap.size rfl (.tmp 49) (.tmp 50) 40 9 5 rfl Tryz.underlying40 Tryz.underlying9 (show (Tryz.prog.info? 5).map (fun i => (i.zero, i.size, i.bytes)) = some (some (.int .u8 0), 1, 1) by kernel_rfl) v14 (xs ++ four 0 ++ four (f0.size : Int) ++ bytesOf f0 ++ four (f1.size : Int)) f1 rfl rfl hr14 hwb14 K5 ?_; intro v15 w15 hr15 hd15))
    have hfin : xs ++ four 0 ++ four (f0.size : Int) ++ bytesOf f0 ++ four (f1.size : Int) ++ bytesOf f1 = xs ++ chgL ⟨f0, f1, false⟩ := by simp [chgL, bytesOf]
    rw [hfin] at hr15
    exact rcdI_next Hi Hfin hr15 ((hb13.trans hd14).trans hd15)
-- F]
  ·
   have d1 : decide ((i : Int) < (l.length : Int)) = false := decide_eq_false (by omega)
   have hil : i = l.length := by omega
   subst hil
   rw [List.take_length] at hr
   go_wp2_with fail
   go_ret
   exact ⟨_, rfl, hr, hb⟩
end Go.Proofs.YtpoblffgclmmlaaGreatDoor.X
namespace Go.Proofs.YtpoblffgclmmlaaGreatDoor.X
open Go.RowKit Go.WideMaps Go.Maps Go.Proofs.YtpoblffgclmmlaaGreatDoorW.PrintWords Go.Proofs.YtpoblffgclmmlaaGreatDoorW.PrintLast Go.Proofs.YtpoblffgclmmlaaGreatDoorW.PrintMore Go.Proofs.YtpoblffgclmmlaaGreatDoor.Q

theorem number_is {l : List Int} (h : Byt l) (hl : 4 ≤ l.length) : exequaturref10_number.f l = some (getL (l.take 4)) := by
 match l, hl, h with
 | a :: b :: c :: d :: r, _, h =>
  have ha := h a (by simp); have hb := h b (by simp); have hc := h c (by simp); have hd := h d (by simp)
  unfold exequaturref10_number.f
  have e0 : rd (a :: b :: c :: d :: r) 0 = a := rfl
  have e1 : rd (a :: b :: c :: d :: r) 1 = b := rfl
  have e2 : rd (a :: b :: c :: d :: r) 2 = c := rfl
  have e3 : rd (a :: b :: c :: d :: r) 3 = d := rfl
  simp only [List.length_cons] at *
  rw [if_pos (by omega), if_pos (by omega), if_pos (by omega), if_pos (by omega), e0, e1, e2, e3, getL_cons r h]
  congr 1
  rw [w64 (x := a) (by omega) (by omega), w64 (x := b) (by omega) (by omega), w64 (x := c) (by omega) (by omega), w64 (x := d) (by omega) (by omega)]
  rw [w64 (x := a * 16777216) (by omega) (by omega), w64 (x := b * 65536) (by omega) (by omega), w64 (x := c * 256) (by omega) (by omega)]
  rw [w64 (x := a * 16777216 + b * 65536) (by omega) (by omega), w64 (x := a * 16777216 + b * 65536 + c * 256) (by omega) (by omega), w64 (by omega) (by omega)]
theorem rframe_is (l : List Int) (hl : l.length ≤ 100000000) : exequaturref10_Frame.f l = some (frameL l) := by
 unfold exequaturref10_Frame.f
 have hf : exequaturref10_Four.f (l.length : Int) = some (four (l.length : Int)) := rfl
 have h4 : (four (l.length : Int)).length = 4 := rfl
 have s1 : (strOfNums (four (l.length : Int))).size = 4 := by rw [strOfNums_size]; rfl
 have s2 : (strOfNums l).size = l.length := strOfNums_size l
 rw [hf, Option.bind_some, s1, s2, if_pos (by omega)]
 unfold exequaturref01_Sum.f
 rw [if_pos (by rw [ByteArray.size_append, s1, s2]; omega), Option.bind_some]
 have s3 := sumS_size (strOfNums (four (l.length : Int)) ++ strOfNums l).data.toList
 have hm : bytesOf ((sumS (strOfNums (four (l.length : Int)) ++ strOfNums l).data.toList).extract 0 4) = markL (strOfNums (four (l.length : Int)) ++ strOfNums l) := by
  unfold markL bytesOf
  rw [ByteArray.data_extract, Array.toList_extract, List.extract_eq_take_drop, List.drop_zero, List.map_take]
 rw [if_pos (by decide), if_pos (by omega), if_pos (by rw [h4, ByteArray.size_extract]; omega), Option.bind_some, hm, if_pos (by rw [List.length_append, h4, markL_length]; omega)]
 rfl
theorem split_shape {D : List Int} {n : Nat} (h8 : 8 + n ≤ D.length) : D.take (8 + n) = D.take 4 ++ (D.drop 4).take 4 ++ (D.drop 8).take n := by
 have e1 : D.take 8 = D.take 4 ++ (D.drop 4).take 4 := by rw [show 8 = 4 + 4 from rfl, List.take_add]
 rw [List.take_add, e1]
theorem cut_in (x : List Int) (i n : Nat) : (x.take (i + (8 + n))).drop (i + 8) = ((x.drop i).drop 8).take n := by
 rw [List.drop_drop, List.drop_take, show i + (8 + n) - (i + 8) = n by omega]
theorem cut_fr (x : List Int) (i n : Nat) : (x.take (i + (8 + n))).drop i = (x.drop i).take (8 + n) := by
 rw [List.drop_take, show i + (8 + n) - i = 8 + n by omega]
theorem tn1 (i n : Nat) : ((i : Int) + 8 + (n : Int)).toNat = i + (8 + n) := by omega
theorem tn2 (i : Nat) : ((i : Int) + 8).toNat = i + 8 := by omega
theorem wsum (i k : Nat) (h : i ≤ 100000000) (hk : k ≤ 1000) : wrap64 ((i : Int) + (k : Int)) = (i : Int) + k := w64 (by omega) (by omega)
theorem wsum3 (i n : Nat) (h : i ≤ 100000000) (hn : n ≤ 32768) : wrap64 ((i : Int) + 8 + (n : Int)) = (i : Int) + 8 + n := w64 (by omega) (by omega)
theorem rsplit_loop (x : List Int) (hb : Byt x) (hx : x.length ≤ 100000000) : ∀ (m i : Nat) (out : List (List Int)), i ≤ x.length → x.length < i + m → out.length ≤ i →
  Ev (fun k => exequaturref10_Split.l0 k x out (i : Int)) (out ++ (splitF m x i).1, ((splitF m x i).2 : Int)) := by
 intro m
 induction m with
 | zero => intro i out h1 h2; omega
 | succ m ih =>
  intro i out hi hm ho
  have hs : splitF (m + 1) x i = if (oneL (x.drop i)).2 = true then ((oneL (x.drop i)).1 :: (splitF m x (i + 8 + (oneL (x.drop i)).1.length)).1, (splitF m x (i + 8 + (oneL (x.drop i)).1.length)).2) else ([], i) := rfl
  have hdl : (x.drop i).length = x.length - i := List.length_drop
  have hbd : Byt (x.drop i) := hb.drop i
  refine Ev.step (fun k => by rw [exequaturref10_Split.l0]) ?_
  have w1 : wrap64 ((x.length : Int) - (i : Int)) = (x.length : Int) - i := w64 (by omega) (by omega)
  by_cases h8 : (x.drop i).length < 8
  ·
   rw [hs, show oneL (x.drop i) = ([], false) from if_pos h8, if_neg (by decide)]
   exact evNeg (by rw [w1]; omega) (evNow (by simp))
  ·
   refine evPos (by rw [w1]; omega) (evPos (by omega) (evPos (by omega) ?_))
   refine evVal (a := getL ((x.drop i).take 4)) (by rw [Int.toNat_natCast]; exact number_is hbd (by omega)) ?_
   obtain ⟨n, hn⟩ : ∃ n : Nat, getL ((x.drop i).take 4) = (n : Int) := ⟨(getL ((x.drop i).take 4)).toNat, by have := (getL_range ((x.drop i).take 4)).1; omega⟩
   have w2 : wrap64 (wrap64 ((x.length : Int) - (i : Int)) - 8) = (x.length : Int) - i - 8 := by rw [w1]; exact w64 (by omega) (by omega)
   have hst : ∀ b, (b = true → oneL (x.drop i) = ([], false)) → (b = false → n ≤ 32768 ∧ 8 + n ≤ (x.drop i).length) → Ev (fun k => exequaturref10_Split.j1 k x out (i : Int) (getL ((x.drop i).take 4)) b) (out ++ (splitF (m + 1) x i).1, ((splitF (m + 1) x i).2 : Int)) := by
    intro b hbt hbf
    refine Ev.step (fun k => by rw [exequaturref10_Split.j1]) ?_
    by_cases hbb : b = true
    ·
     rw [hs, hbt hbb, if_neg (by decide)]
     exact evPos hbb (evNow (by simp))
    ·
     obtain ⟨hn1, hn2⟩ := hbf (by simpa using hbb)
     clear hbt hbf
     have hi9 : i ≤ 100000000 := Nat.le_trans hi hx
     have w3 : wrap64 ((i : Int) + 8) = (i : Int) + 8 := wsum i 8 hi9 (by decide)
     have w4 : wrap64 ((i : Int) + 8 + (n : Int)) = (i : Int) + 8 + n := wsum3 i n hi9 hn1
     rw [hn]
     rw [w3, w4, tn1, tn2, Int.toNat_natCast]
     rw [cut_in, cut_fr]
     obtain ⟨D, hD⟩ : ∃ D, D = x.drop i := ⟨_, rfl⟩
     rw [← hD] at hs hdl hbd h8 hn hn2 ⊢
     have hinl : ((D.drop 8).take n).length = n := by rw [List.length_take, List.length_drop]; omega
     have h4 : four (n : Int) = D.take 4 := by rw [← hn]; exact four_getL hbd (by omega)
     have ho1 : oneL D = ((D.drop 8).take n, decide (markL (strOfNums (D.take 4) ++ strOfNums ((D.drop 8).take n)) = (D.drop 4).take 4)) := by
      rw [oneL, if_neg h8, if_neg (by omega), hn, Int.toNat_natCast]
     have hfl : frameL ((D.drop 8).take n) = D.take 4 ++ markL (strOfNums (D.take 4) ++ strOfNums ((D.drop 8).take n)) ++ (D.drop 8).take n := by
      rw [frameL, hinl, h4]
     have hml := markL_length (strOfNums (D.take 4) ++ strOfNums ((D.drop 8).take n))
     obtain ⟨M, hM⟩ : ∃ M, M = markL (strOfNums (D.take 4) ++ strOfNums ((D.drop 8).take n)) := ⟨_, rfl⟩
     have hbM : Byt M := by rw [hM]; exact byt_mark _
     rw [← hM] at ho1 hfl hml
     refine evNeg hbb (evPos (by omega) (evPos (by omega) (evPos (by omega) ?_)))
     refine evVal (a := (D.drop 8).take n) rfl ?_
     refine evVal (a := frameL ((D.drop 8).take n)) (rframe_is _ (by rw [hinl]; omega)) ?_
     refine evPos (by omega) (evPos (by omega) ?_)
     by_cases hmk : M = (D.drop 4).take 4
     ·
      refine evPos (by rw [hfl, hmk, split_shape hn2]) (evPos (by omega) ?_)
      have hr := ih (i + 8 + n) (out ++ [(D.drop 8).take n]) (by omega) (by omega) (by rw [List.length_append, List.length_singleton]; omega)
      rw [show ((i + 8 + n : Nat) : Int) = (i : Int) + 8 + n by omega] at hr
      refine evEq hr ?_
      rw [hs, ho1, if_pos (by simpa using hmk), hinl]
      simp
     ·
      refine evNeg (fun h => hmk ?_) (evNow ?_)
      ·
       have hbi : Byt ((D.drop 8).take n) := (hbd.drop 8).take n
       have h2 := strOf_inj (by rw [hfl]; exact ((hbd.take 4).append hbM).append hbi) (hbd.take _) h
       rw [hfl, split_shape hn2] at h2
       have h3 := List.append_cancel_right h2
       exact List.append_cancel_left h3
      ·
       rw [hs, ho1, if_neg (by simpa using hmk)]; simp
   by_cases hbig : getL ((x.drop i).take 4) > 32768
   ·
    exact evPos hbig (hst true (fun _ => by rw [oneL, if_neg h8, if_pos (.inl hbig)]) (fun h => by cases h))
   ·
    refine evNeg hbig ?_
    rw [w2]
    refine hst _ (fun h => ?_) (fun h => ?_)
    ·
     have := of_decide_eq_true h
     rw [oneL, if_neg h8, if_pos (.inr (by omega))]
    ·
     have := of_decide_eq_false h
     constructor <;> omega
theorem rsplit_is (x : List Int) (hb : Byt x) (hx : x.length ≤ 100000000) : Ev (fun k => exequaturref10_Split.f k x) ((splitL x).1, ((splitL x).2 : Int)) := by
 have h := rsplit_loop x hb hx (x.length + 1) 0 [] (by omega) (by omega) (by simp)
 rw [List.nil_append] at h
 exact h
/-- The reference's text, at a place. -/
def rtx (b : List Int) (at_ : Nat) : ByteArray × Int := if (rtextL (b.drop at_) false).2.2 = true then (⟨#[]⟩, -1) else ((rtextL (b.drop at_) false).1, ((b.length - (rtextL (b.drop at_) false).2.1.length : Nat) : Int))
theorem rtext_drop (xs : List Int) (h : (rtextL xs false).2.2 = false) : ∃ n : Nat, 4 + n ≤ xs.length ∧ getL (xs.take 4) = (n : Int) ∧ rtextL xs false = (strOfNums ((xs.drop 4).take n), xs.drop (4 + n), false) := by
 have hr := rnumL_range xs false
 by_cases h4 : xs.length < 4
 ·
  have e : rnumL xs false = (0, xs, true) := if_pos h4
  unfold rtextL at h
  rw [e, if_pos (.inl rfl)] at h
  cases h
 ·
  have e : rnumL xs false = (getL (xs.take 4), xs.drop 4, false) := if_neg h4
  rw [e] at hr
  by_cases hn : ((xs.drop 4).length : Int) < getL (xs.take 4)
  ·
   unfold rtextL at h
   rw [e, if_pos (.inr hn)] at h
   cases h
  ·
   refine ⟨(getL (xs.take 4)).toNat, ?_, ?_, ?_⟩
   ·
    rw [List.length_drop] at hn; omega
   ·
    exact (Int.toNat_of_nonneg hr.1).symm
   ·
    unfold rtextL
    rw [e, if_neg (by simp; simpa using hn)]
    simp only [List.drop_drop]
theorem rtext_bad (xs : List Int) (h : (rtextL xs false).2.2 = true) : xs.length < 4 ∨ ((xs.length : Int) - 4 < getL (xs.take 4)) := by
 by_cases h4 : xs.length < 4
 ·
  exact .inl h4
 ·
  right
  have e : rnumL xs false = (getL (xs.take 4), xs.drop 4, false) := if_neg h4
  by_cases hn : ((xs.drop 4).length : Int) < getL (xs.take 4)
  ·
   rw [List.length_drop] at hn; omega
  ·
   unfold rtextL at h
   rw [e, if_neg (by simp; simpa using hn)] at h
   cases h
theorem text_f (b : List Int) (hb : Byt b) (hl : b.length ≤ 100000000) (i : Nat) (hi : i ≤ b.length) : exequaturref10_text.f 1 b (i : Int) = some (rtx b i) := by
 have hdl : (b.drop i).length = b.length - i := List.length_drop
 have w1 : wrap64 ((i : Int) + 4) = (i : Int) + 4 := w64 (by omega) (by omega)
 have w2 : wrap64 (wrap64 ((b.length : Int) - (i : Int)) - 4) = (b.length : Int) - i - 4 := by rw [w64 (x := (b.length : Int) - (i : Int)) (by omega) (by omega)]; exact w64 (by omega) (by omega)
 unfold exequaturref10_text.f
 rw [if_neg (by omega), w1]
 rw [show (1 : Nat) = 0 + 1 from rfl]
 simp only [exequaturref10_text.j0]
 by_cases hbad : (rtextL (b.drop i) false).2.2 = true
 ·
  have hx : rtx b i = (⟨#[]⟩, -1) := if_pos hbad
  rw [hx]
  by_cases h4 : (i : Int) + 4 > (b.length : Int)
  ·
   rw [if_pos (decide_eq_true h4)]
  ·
   rw [if_neg (by simpa using h4), if_pos (by omega), if_pos (by omega), Int.toNat_natCast, number_is (hb.drop i) (by omega), Option.bind_some, w2]
   rcases rtext_bad _ hbad with h | h
   ·
    omega
   ·
    rw [if_pos (by omega)]
 ·
  simp only [Bool.not_eq_true] at hbad
  obtain ⟨n, h1, h2, h3⟩ := rtext_drop _ hbad
  have hx : rtx b i = (strOfNums (((b.drop i).drop 4).take n), ((b.length - ((b.drop i).drop (4 + n)).length : Nat) : Int)) := by
   unfold rtx; rw [h3]; rfl
  rw [hx, if_neg (by simp; omega), if_pos (by omega), if_pos (by omega), Int.toNat_natCast, number_is (hb.drop i) (by omega), Option.bind_some, w2, h2]
  have w3 : wrap64 ((i : Int) + 4 + (n : Int)) = (i : Int) + 4 + n := w64 (by omega) (by omega)
  rw [if_neg (by omega), w1, w3, if_pos (by omega), if_pos (by omega), if_pos (by omega)]
  have t1 : ((i : Int) + 4 + (n : Int)).toNat = i + 4 + n := by omega
  have t2 : ((i : Int) + 4).toNat = i + 4 := by omega
  rw [t1, t2]
  congr 2
  ·
   rw [List.drop_drop, List.drop_take]
   congr 2
   omega
  ·
   rw [List.drop_drop, List.length_drop]; omega
theorem text_neg (b : List Int) : exequaturref10_text.f 1 b (-1) = some (⟨#[]⟩, -1) := by
 unfold exequaturref10_text.f
 rw [if_pos (by decide)]
 rw [show (1 : Nat) = 0 + 1 from rfl]
 simp only [exequaturref10_text.j0]
 rw [if_pos trivial]
theorem rtx_says (A : Option Addr) (c : Nat) (b : List Int) (hb : Byt b) (hl : b.length ≤ 100000000) (i : Nat) (hi : i ≤ b.length) (w : World) (hC : Kd.C (Kd.int .u8) w A b.length b) (hc : b.length ≤ c) :
  Calls Tryz.prog 131 #[.slice A b.length c, .int .i64 (i : Int)] w fun e w' => e = .returned (.tuple #[.string (rtx b i).1, .int .i64 (rtx b i).2]) ∧ Below w.heap.size w w' := by
 refine (exequaturref10_text.calls 1 A c b (i : Int) (rtx b i).1 (rtx b i).2 w hC hc (text_f b hb hl i hi)).mono ?_
 rintro e w' ⟨h, hd⟩
 exact ⟨h, hd.below⟩
theorem rtx_none (A : Option Addr) (c : Nat) (b : List Int) (w : World) (hC : Kd.C (Kd.int .u8) w A b.length b) (hc : b.length ≤ c) :
  Calls Tryz.prog 131 #[.slice A b.length c, .int .i64 (-1)] w fun e w' => e = .returned (.tuple #[.string ⟨#[]⟩, .int .i64 (-1)]) ∧ Below w.heap.size w w' := by
 refine (exequaturref10_text.calls 1 A c b (-1) ⟨#[]⟩ (-1) w hC hc (text_neg b)).mono ?_
 rintro e w' ⟨h, hd⟩
 exact ⟨h, hd.below⟩
theorem r10number_says (A : Option Addr) (c : Nat) (l : List Int) (hb : Byt l) (h4 : 4 ≤ l.length) (w : World) (hC : Kd.C (Kd.int .u8) w A l.length l) (hc : l.length ≤ c) :
  Calls Tryz.prog 130 #[.slice A l.length c] w fun e w' => e = .returned (.int .i64 (getL (l.take 4))) ∧ Below w.heap.size w w' := by
 refine (exequaturref10_number.calls A c l _ w hC hc (number_is hb h4)).mono ?_
 rintro e w' ⟨h, hd⟩
 exact ⟨h, hd.below⟩
/-- One change, as the reference reads it and as the program does. -/
theorem one_ref (b : List Int) (i : Nat) (h : i + 4 ≤ b.length) :
  ((rtx b (i + 4)).2 = -1 ∧ (oneC (b.drop i) false).2.2 = true) ∨ ∃ m k1, m ≤ b.length ∧ rtx b (i + 4) = (k1, (m : Int)) ∧
   (((rtx b m).2 = -1 ∧ (oneC (b.drop i) false).2.2 = true) ∨ ∃ m2 v1, m2 ≤ b.length ∧ rtx b m = (v1, (m2 : Int)) ∧ oneC (b.drop i) false = (⟨k1, v1, getL ((b.drop i).take 4) == 1⟩, b.drop m2, false)) := by
 have hdl : (b.drop i).length = b.length - i := List.length_drop
 have e : rnumL (b.drop i) false = (getL ((b.drop i).take 4), b.drop (i + 4), false) := by
  unfold rnumL
  rw [if_neg (by omega), List.drop_drop]
 have ho : oneC (b.drop i) false = (⟨(rtextL (b.drop (i + 4)) false).1, (rtextL (rtextL (b.drop (i + 4)) false).2.1 (rtextL (b.drop (i + 4)) false).2.2).1, getL ((b.drop i).take 4) == 1⟩, (rtextL (rtextL (b.drop (i + 4)) false).2.1 (rtextL (b.drop (i + 4)) false).2.2).2.1, (rtextL (rtextL (b.drop (i + 4)) false).2.1 (rtextL (b.drop (i + 4)) false).2.2).2.2) := by
  simp only [oneC, e]
 by_cases hb1 : (rtextL (b.drop (i + 4)) false).2.2 = true
 ·
  left
  refine ⟨by unfold rtx; rw [if_pos hb1], ?_⟩
  rw [ho, hb1]
  have := rtextL_len (rtextL (b.drop (i + 4)) false).2.1 true
  cases hb2 : (rtextL (rtextL (b.drop (i + 4)) false).2.1 true).2.2 with
  | true => rfl
  | false => exact absurd (this.1 hb2).1 (by decide)
 ·
  right
  simp only [Bool.not_eq_true] at hb1
  obtain ⟨n, h1, h2, h3⟩ := rtext_drop _ hb1
  have hl4 : (b.drop (i + 4)).length = b.length - (i + 4) := List.length_drop
  have hm : b.length - ((b.drop (i + 4)).drop (4 + n)).length = i + 4 + (4 + n) := by rw [List.drop_drop, List.length_drop]; omega
  refine ⟨i + 4 + (4 + n), strOfNums (((b.drop (i + 4)).drop 4).take n), by omega, ?_, ?_⟩
  ·
   unfold rtx; rw [h3, hm]; rfl
  ·
   rw [h3] at ho
   simp only [List.drop_drop] at ho
   by_cases hb2 : (rtextL (b.drop (i + 4 + (4 + n))) false).2.2 = true
   ·
    left
    refine ⟨by unfold rtx; rw [if_pos hb2], ?_⟩
    rw [ho]; exact hb2
   ·
    right
    simp only [Bool.not_eq_true] at hb2
    obtain ⟨n2, g1, g2, g3⟩ := rtext_drop _ hb2
    have hl5 : (b.drop (i + 4 + (4 + n))).length = b.length - (i + 4 + (4 + n)) := List.length_drop
    have hm2 : b.length - ((b.drop (i + 4 + (4 + n))).drop (4 + n2)).length = i + 4 + (4 + n) + (4 + n2) := by rw [List.drop_drop, List.length_drop]; omega
    refine ⟨i + 4 + (4 + n) + (4 + n2), strOfNums (((b.drop (i + 4 + (4 + n))).drop 4).take n2), by omega, ?_, ?_⟩
    ·
     unfold rtx; rw [g3, hm2]; rfl
    ·
     rw [ho, g3]
     simp only [List.drop_drop]
end Go.Proofs.YtpoblffgclmmlaaGreatDoor.X
namespace Go.Proofs.YtpoblffgclmmlaaGreatDoor.X
open Go.RowKit Go.WideMaps Go.Maps Go.Proofs.YtpoblffgclmmlaaGreatDoorW.PrintWords Go.Proofs.YtpoblffgclmmlaaGreatDoorW.PrintLast Go.Proofs.YtpoblffgclmmlaaGreatDoorW.PrintMore Go.Proofs.YtpoblffgclmmlaaGreatDoor.Q

theorem R_own49 {e : Nat} {W : World} {base : Nat} {ok : Nat → Prop} {v : Value} {xs : List S69} (h : Kd.R k69 e W base ok v xs) : Kd.R k69 e W base (fun k => v.ownBlock = some k) v xs := by
 obtain ⟨h0, inner, ho, hr⟩ := h
 exact ⟨fun k hk => hk, inner, ho, hr.imp_ (fun x cs hp => by rw [k69_openM hp]; exact k69_mkM _ _ _ x)⟩
theorem oneC_short (xs : List Int) (h : xs.length < 4) : (oneC xs false).2.2 = true := by
 have e : rnumL xs false = (0, xs, true) := if_pos h
 have ho : (oneC xs false).2.2 = (rtextL (rtextL xs true).2.1 (rtextL xs true).2.2).2.2 := by simp only [oneC, e]
 rw [ho]
 have h1 := rtextL_len xs true
 have h2 := rtextL_len (rtextL xs true).2.1 (rtextL xs true).2.2
 cases hb : (rtextL (rtextL xs true).2.1 (rtextL xs true).2.2).2.2 with
 | true => rfl
 | false => exact absurd (h1.1 (h2.1 hb).1).1 (by decide)
theorem chOk_bad {b : List Int} (h : (chL b).2 = true) : chOk b = false := by
 unfold chOk; rw [h]; rfl
theorem chF_step (k : Nat) (xs : List Int) (out : List S69) : chF (k + 1) xs false out = chF k (oneC xs false).2.1 (oneC xs false).2.2 (out ++ [(oneC xs false).1]) := rfl
theorem ch_bad {b xs : List Int} {k : Nat} {out : List S69} (h : chL b = chF (k + 1) xs false out) (hb : (oneC xs false).2.2 = true) : chOk b = false := by
 apply chOk_bad
 rw [h, chF_step, hb, chF_bad]
/-- Between two rounds. -/
def RchI (w : World) (b : List Int) (m : Nat) (v5 v6 v7 : Value) (wr : World) : Prop :=
 ∃ (i p : Nat) (out : List S69), v5 = .int .i64 p ∧ v7 = .int .i64 i ∧ i ≤ m ∧ p ≤ b.length ∧ chL b = chF (m - i) (b.drop p) false out ∧ Bd b (b.drop p) false out ∧ Kd.R k69 69 wr w.heap.size (fun _ => True) v6 out ∧ Below w.heap.size w wr
theorem rchI_next {w : World} {b : List Int} {m i p p2 : Nat} {out : List S69} {v : Value} {wr : World} {k1 v1 : ByteArray} {g : Bool} (hi : i + 1 ≤ m) (hp : p2 ≤ b.length) (hch : chL b = chF (m - i) (b.drop p) false out) (hBd : Bd b (b.drop p) false out)
  (ho : oneC (b.drop p) false = (⟨k1, v1, g⟩, b.drop p2, false)) (hr : Kd.R k69 69 wr w.heap.size (fun _ => True) v (out ++ [⟨k1, v1, g⟩])) (hb : Below w.heap.size w wr) :
  RchI w b m (.int .i64 (p2 : Int)) v (.int .i64 ((i : Int) + 1)) wr ∧ m - (intOf (.int .i64 ((i : Int) + 1))).toNat < m - (intOf (.int .i64 (i : Int))).toNat := by
 have hs := hBd.step
 rw [ho] at hs
 refine ⟨⟨i + 1, p2, out ++ [⟨k1, v1, g⟩], rfl, rfl, hi, hp, ?_, hs, hr, hb⟩, ?_⟩
 ·
  rw [hch, show m - i = (m - (i + 1)) + 1 by omega, chF_step, ho]
 ·
  simp only [intOf]; omega
set_option maxHeartbeats 16000000 in
set_option maxRecDepth 100000 in
theorem Changes_says (A : Option Addr) (c : Nat) (b : List Int) (w : World) (hC : Kd.C (Kd.int .u8) w A b.length b) (hc : b.length ≤ c) (hb : Byt b) (hl : b.length ≤ 100000000) :
  Calls Tryz.prog 85 #[.slice A b.length c] w fun e w' => ∃ v, e = .returned (.tuple #[v, .bool (chOk b)]) ∧ (chOk b = true → Kd.R k69 69 w' w.heap.size (fun _ => True) v (chL b).1) ∧ Below w.heap.size w w' := by
 go_enter Tryz.func85, Tryz.ntmps85
 by_cases h4 : b.length < 4
 ·
  have d1 : decide ((b.length : Int) < 4) = true := decide_eq_true (by omega)
  have hno : chOk b = false := by
   apply chOk_bad
   have e : rnumL b false = (0, b, true) := if_pos h4
   unfold chL
   rw [e, chF_bad]
  clear h4 hl
  go_wp2_with fail
  go_ret2
  exact ⟨_, by rw [hno]; rfl, (fun h => by rw [hno] at h; cases h), Below.refl _ w⟩
 ·
  have d1 : decide ((b.length : Int) < 4) = false := decide_eq_false (by omega)
  have hnum := r10number_says A c b hb (by omega) w hC hc
  have hgr := getL_range (b.take 4)
  obtain ⟨m, hm⟩ : ∃ m : Nat, getL (b.take 4) = (m : Int) := ⟨(getL (b.take 4)).toNat, by omega⟩
  have hch0 : chL b = chF (m - 0) (b.drop 4) false [] := by
   have e : rnumL b false = (getL (b.take 4), b.drop 4, false) := if_neg h4
   unfold chL
   rw [e, hm]; rfl
  have hBd0 : Bd b (b.drop 4) false [] := by
   unfold Bd
   simp
   omega
  have hm32 : m < 4294967296 := by omega
  rw [hm] at hnum
  have H4 := Lib.hid (show 4 ≤ b.length by omega)
  have HL := Lib.hid hl
  have HM := Lib.hid hm32
  clear hm hgr h4 hl hm32
  go_wp2_with fail
  refine hnum.mono ?_
  rintro e w1 ⟨rfl, hb1⟩
  clear hnum
  have hI : RchI w b m (.int .i64 4) (.slice none 0 0) (.int .i64 0) w1 := ⟨0, 4, [], rfl, rfl, Nat.zero_le _, H4, hch0, hBd0, Kd.R_nil _ _ _ _ _, hb1⟩
  clear hch0 hBd0 hb1
  go_wp2_with fail
  go_loopw [5, 6, 7] (fun v5 v6 v7 wr => RchI w b m v5 v6 v7 wr) (fun _ _ v7 _ => m - (intOf v7).toNat)
  case atStart => exact hI
  case round =>
   clear hI
   obtain ⟨i, p, out, rfl, rfl, hi, hp, hch, hBd, hr, hbw⟩ := hrel
   have hl := (show b.length ≤ 100000000 from HL)
   have hm32 := (show m < 4294967296 from HM)
   have hCr := Kd.C_below hC hbw
   have hwr := hbw.size
   by_cases hlt : i < m
   ·
    have d2 : decide ((i : Int) < (m : Int)) = true := decide_eq_true (by omega)
    have d2' : decide (i < m) = true := decide_eq_true hlt
    have e1 : wrap64 ((i : Int) + 1) = (i : Int) + 1 := w64 (by omega) (by omega)
    obtain ⟨k, hk⟩ : ∃ k, m - i = k + 1 := ⟨m - i - 1, by omega⟩
    have hch1 : chL b = chF (k + 1) (b.drop p) false out := by rw [hch, hk]
    have E1 := Lib.hid e1
    clear e1
    by_cases hp4 : b.length < p + 4
    ·
     have e2 : wrap64 ((p : Int) + 4) = (p : Int) + 4 := w64 (by omega) (by omega)
     have d3 : decide ((b.length : Int) < (p : Int) + 4) = true := decide_eq_true (by omega)
     have hno : chOk b = false := ch_bad hch1 (oneC_short _ (by rw [List.length_drop]; omega))
     clear hch hch1 hBd hk hl hm32 hlt hi hp hp4
     go_wp2_with fail
     go_ret2
     exact ⟨_, by rw [hno]; rfl, (fun h => by rw [hno] at h; cases h), hbw⟩
    ·
     have e2 : wrap64 ((p : Int) + 4) = (p : Int) + 4 := w64 (by omega) (by omega)
     have d3 : decide ((b.length : Int) < (p : Int) + 4) = false := decide_eq_false (by omega)
     obtain ⟨Ad, cd, hcut, hCd, hcd⟩ := drop_row hCr hc p hp
     have hnum := r10number_says Ad cd (b.drop p) (hb.drop p) (by rw [List.length_drop]; omega) wr hCd hcd
     rw [List.length_drop] at hnum
     have hgr0 := getL_range ((b.drop p).take 4)
     have hone := one_ref b p (by omega)
     have hpb : p + 4 ≤ b.length := by omega
     have LB : (out.length + 1) * 40 ≤ 140737488355328 := by
      unfold Bd at hBd
      rw [if_neg (by decide)] at hBd
      have : out.length ≤ (out.flatMap chgL).length := by
       clear hBd hch hch1 hr
       induction out with
       | nil => simp
       | cons x r ih => rw [List.flatMap_cons, List.length_append, chgL_len, List.length_cons]; omega
      omega
     have H1 := Lib.hid (show i + 1 ≤ m by omega)
     have HLB := Lib.hid LB
     have Hch := Lib.hid hch
     have Hch1 := Lib.hid hch1
     have HPB := Lib.hid hpb
     have HP := Lib.hid hp
     have HBd := Lib.hid hBd
     have Hone := Lib.hid hone
     clear hch hch1 hBd hk hl hm32 hlt hi hp hp4 LB hone hpb
     go_wp2_with fail
     refine hnum.mono ?_
     rintro e w7 ⟨rfl, hb7⟩
     clear hnum
     have hw7 : Below w.heap.size w w7 := below_then hbw hwr hb7
     have hr7 := Kd.R_below hr hb7
     obtain ⟨gb, hgb⟩ : ∃ gb, (getL ((b.drop p).take 4) == 1) = gb := ⟨_, rfl⟩
     have hone := Hone.out
     rw [hgb] at hone
     have Hone2 := Lib.hid hone
     have hpb := (show p + 4 ≤ b.length from HPB)
     have hl := (show b.length ≤ 100000000 from HL)
     have htx : ∀ w8, Below w.heap.size w w8 → Calls Tryz.prog 131 #[.slice A b.length c, .int .i64 ((p : Int) + 4)] w8 fun e w' => e = .returned (.tuple #[.string (rtx b (p + 4)).1, .int .i64 (rtx b (p + 4)).2]) ∧ Below w8.heap.size w8 w' := fun w8 h8 => rtx_says A c b hb hl (p + 4) hpb w8 (Kd.C_below hC h8) hc
     clear hone hpb hl Hone
     go_upto_region 12 with (fail)
     have hgA := heap_alloc_new w7 (.cells #[.string ⟨#[]⟩, .string ⟨#[]⟩, .bool gb] 69)
     have hbA : Below w7.heap.size w7 (w7.alloc (.cells #[.string ⟨#[]⟩, .string ⟨#[]⟩, .bool gb] 69)) := (Below.refl _ w7).alloc (Nat.le_refl _) _
     generalize w7.alloc (.cells #[.string ⟨#[]⟩, .string ⟨#[]⟩, .bool gb] 69) = w8 at hgA hbA ⊢
     have hw8 : Below w.heap.size w w8 := below_then hw7 hw7.size hbA
     have hr8 := Kd.R_below hr7 hbA
     have htx := htx w8 hw8
     rcases (show _ from Hone2.out) with ⟨e1_, hbad⟩ | ⟨m', k1, hm', e1_, h2⟩
     ·
      rw [e1_] at htx
      have hno : chOk b = false := ch_bad Hch1.out hbad
      clear e1_ hbad
      go_wp2_with fail
      refine htx.mono ?_
      rintro e w9 ⟨rfl, hb9⟩
      have hw9 : Below w.heap.size w w9 := below_then hw8 hw8.size hb9
      go_wp2_with fail
      refine (rtx_none A c b w9 (Kd.C_below hC hw9) hc).mono ?_
      rintro e w10 ⟨rfl, hb10⟩
      go_wp2_with fail
      go_ret2
      exact ⟨_, by rw [hno]; rfl, (fun h => by rw [hno] at h; cases h), below_then hw9 hw9.size hb10⟩
     ·
      rw [e1_] at htx
      simp only at htx
      have htx2 := fun w9 (h9 : Below w.heap.size w w9) => rtx_says A c b hb HL.out m' hm' w9 (Kd.C_below hC h9) hc
      rcases h2 with ⟨e2_, hbad⟩ | ⟨m2, v1, hm2, e2_, ho⟩
      ·
       have hno : chOk b = false := ch_bad Hch1.out hbad
       rw [e2_] at htx2
       clear e1_ e2_ hbad
       go_wp2_with fail
       refine htx.mono ?_
       rintro e w9 ⟨rfl, hb9⟩
       have hw9 : Below w.heap.size w w9 := below_then hw8 hw8.size hb9
       go_wp2_with fail
       refine (htx2 w9 hw9).mono ?_
       rintro e w10 ⟨rfl, hb10⟩
       go_wp2_with fail
       go_ret2
       exact ⟨_, by rw [hno]; rfl, (fun h => by rw [hno] at h; cases h), below_then hw9 hw9.size hb10⟩
      ·
       rw [e2_] at htx2
       simp only at htx2
       have Ho := Lib.hid ho
       have Hm2 := Lib.hid hm2
       have d5 : decide ((m2 : Int) < 0) = false := decide_eq_false (by omega)
       clear e1_ e2_ ho hm2 hm'
       go_wp2_with fail
       refine htx.mono ?_
       rintro e w9 ⟨rfl, hb9⟩
       have hw9 : Below w.heap.size w w9 := below_then hw8 hw8.size hb9
       go_wp2_with fail
       refine (htx2 w9 hw9).mono ?_
       rintro e w10 ⟨rfl, hb10⟩
       have hw10 : Below w.heap.size w w10 := below_then hw9 hw9.size hb10
       have hg10 := blk_below (blk_below hgA hb9) hb10
       have hr10 := Kd.R_below (Kd.R_below hr8 hb9) hb10
       have f0 := blk_frozen hg10 0
       have f1 := blk_frozen hg10 1
       have c0 := blk_cell hg10 0
       have c1 := blk_cell hg10 1
       have c2 := blk_cell hg10 2
       clear htx htx2
       go_upto_region 17 with (fail)
       have hge : w.heap.size ≤ w7.heap.size := hw7.size
       have hg11 := blk_put (blk_put hg10 0 (.string k1) rfl) 1 (.string v1) rfl
       have hk11 : Tur w10 ((w10.setCell ⟨w7.heap.size, 0, none⟩ (.string k1)).setCell ⟨w7.heap.size, 1, none⟩ (.string v1)) (fun k => k = w7.heap.size) := ((Tur.refl w10 (fun k => k = w7.heap.size)).setCell (.inl rfl) _).setCell (.inl rfl) _
       have hb11 : Below w.heap.size w ((w10.setCell ⟨w7.heap.size, 0, none⟩ (.string k1)).setCell ⟨w7.heap.size, 1, none⟩ (.string v1)) := (hw10.setCell hge _).setCell hge _
       have hr11 := Kd.R_mono (ok' := fun _ => True) (Kd.R_kept (R_own49 hr10) hk11.kept (fun k hk e => by have := Kd.R_lt hr7 k hk; omega)) (fun _ _ => trivial)
       clear hk11 hr10 hr8 hr7 hr
       generalize (w10.setCell ⟨w7.heap.size, 0, none⟩ (.string k1)).setCell ⟨w7.heap.size, 1, none⟩ (.string v1) = w11 at hg11 hb11 hr11 ⊢
       have q0 := blk_cell hg11 0
       have q1 := blk_cell hg11 1
       have q2 := blk_cell hg11 2
       have e1 := E1.out
       have LB := HLB.out
       clear f0 f1 c0 c1 c2 hgA
       go_wp2_with ((with_reducible refine gate_builtin (b := .append) (xs := #[.tmp 51, .tmp 53]) rfl ?_); at_builtin; refine Kd.R_append k69 (w0 := w) w.heap.size rfl (.tmp 51) (.tmp 53) 35 69 (.agg #[.string ⟨#[]⟩, .string ⟨#[]⟩, .bool false]) 40 rfl Tryz.underlying35 (by kernel_rfl) rfl (by decide) (by decide) u6 out ⟨k1, v1, gb⟩ [.string k1, .string v1, .bool gb] (fun _ => True) (fun _ => False) rfl rfl (k69_mkM _ _ _ ⟨k1, v1, gb⟩) (fun _ h => h.elim) (fun _ _ => trivial) (Kd.R_mono hr11 (fun _ _ => trivial)) hb11 hb11.size LB ?_; intro v12 w12 ho12 hb12 hg12 hat12)
       rw [E1.out]
       exact rchI_next H1.out Hm2.out Hch.out HBd.out Ho.out ho12 hb12
   ·
    have d2 : decide ((i : Int) < (m : Int)) = false := decide_eq_false (by omega)
    have d2' : decide (i < m) = false := decide_eq_false hlt
    have hchE : chL b = (out, false) := by rw [hch, show m - i = 0 by omega]; rfl
    have hrl : (recL out).length ≤ 1000000000 := by have := Bd.rec_le hBd; omega
    have hok : chOk b = ((strOfNums (recL out)).toList == (strOfNums b).toList) := by unfold chOk; rw [hchE]; rfl
    obtain ⟨A6, c6, e6⟩ := Kd.R_slice hr
    subst e6
    have hc6 := (Kd.R_reads' hr).2.1
    have hS0 : ∀ w', Below w.heap.size w w' → Sem.run Tryz.prog (convert 40 9 (.slice A b.length c)) w' = .ok (.string (strOfNums b)) w' := fun w' h' => Kd.C_string (dst := 9) Tryz.underlying40 Tryz.underlying5 Tryz.underlying9 (Kd.C_below hC h')
    have HchE := Lib.hid hchE
    have Hok := Lib.hid hok
    clear hch hBd hchE hok hi hp hlt hl hm32
    go_upto_region 18 with (fail)
    have hb6 := below_drew1 hbw
    have hR6 := Kd.R_drew hr
    have hC6 := (Kd.R_reads' hR6).2.2
    clear hr hCr
-- [R18
    refine start_ (n := 9) (S := fun w' => Sem.run Tryz.prog (convert 40 9 (.slice A b.length c)) w' = .ok (.string (strOfNums b)) w') (ds := []) #[false, false, false, false, false, false, false, false, false] (by kernel_rfl) rfl rfl (hS0 _ hb6) (fun hHeld => ?_)
    generalize wr.drew = w6 at hb6 hR6 hC6 hHeld ⊢
    refine pure_ (i := 0) (N := some 55) (v := ?_) (a' := ?_) #[true, false, false, false, false, false, false, false, false] rfl rfl (by kernel_rfl) (fun _ _ _ h => h) (Or.inl ⟨by rfl, ?_⟩) ?_ ?_
    rotate_left
    ·
     intro w'
     go_simp
     with_reducible rfl
    rotate_left
    ·
     simp only [Act.put, List.setIfInBounds_toArray, List.set_cons_zero, List.set_cons_succ, i64_w, i32_w]
     rfl
    refine pure_ (i := 1) (N := some 56) (v := ?_) (a' := ?_) #[true, true, false, false, false, false, false, false, false] rfl rfl (by kernel_rfl) (fun _ _ _ h => h) (Or.inl ⟨by rfl, ?_⟩) ?_ ?_
    rotate_left
    ·
     intro w'
     go_simp
     with_reducible rfl
    rotate_left
    ·
     simp only [Act.put, List.setIfInBounds_toArray, List.set_cons_zero, List.set_cons_succ, i64_w, i32_w]
     rfl
    refine pure_ (i := 4) (N := some 59) (v := ?_) (a' := ?_) #[true, true, false, false, true, false, false, false, false] rfl rfl (by kernel_rfl) (fun _ _ _ h => h) (Or.inl ⟨by rfl, ?_⟩) ?_ ?_
    rotate_left
    ·
     intro w'
     go_simp
     with_reducible rfl
    rotate_left
    ·
     simp only [Act.put, List.setIfInBounds_toArray, List.set_cons_zero, List.set_cons_succ, i64_w, i32_w]
     rfl
    refine take_ (i := 5) (N := some 60) (v := ?_) (a' := ?_) #[true, true, false, false, true, true, false, false, false] rfl rfl (by kernel_rfl) (fun _ _ _ h => h) (Or.inl ⟨by rfl, ?_⟩) hHeld ?_ ?_
    rotate_left
    ·
     intro w' s0
     go_simp
     with_reducible rfl
    rotate_left
    ·
     simp only [Act.put, List.setIfInBounds_toArray, List.set_cons_zero, List.set_cons_succ, i64_w, i32_w]
     rfl
    refine one_ (i := 2) (N := some 57) #[true, true, true, false, true, true, false, false, false] rfl rfl (by kernel_rfl) (by decide) (fun K hK => ?_)
    refine goes_ Tryz.func92 (by kernel_rfl) rfl #[.slice A6 out.length c6] (by rfl) rfl rfl (by simp only [List.map_toArray, List.map_cons, List.map_nil]; rfl) ?_
    refine (Record_says A6 c6 out w6 hC6 hc6 hrl).mono ?_
    rintro e w7 ⟨v7, rfl, hr7, hb7⟩
    obtain ⟨A7, c7, e7⟩ := Kd.R_slice hr7
    subst e7
    refine ⟨_, rfl, ?_⟩
    have hcv7 := Kd.C_string (P := Tryz.prog) (A := A7) (c := c7) (dst := 9) Tryz.underlying40 Tryz.underlying5 Tryz.underlying9 (Kd.R_reads' hr7).2.2
    have hb07 := below_then hb6 hb6.size hb7
    refine hK.out _ _ (hS0 _ hb07) (fun hHeld => ?_)
    clear hK K
    refine norm_ (a' := ?_) ?_ ?_
    rotate_left
    ·
     show Act.put _ (some 57) _ = _
     simp only [Act.put, List.setIfInBounds_toArray, List.set_cons_zero, List.set_cons_succ, i64_w, i32_w]
     rfl
    refine pure_ (i := 7) (N := some 2) (v := ?_) (a' := ?_) #[true, true, true, false, true, true, false, true, false] rfl rfl (by kernel_rfl) (fun _ _ _ h => h) (Or.inl ⟨by rfl, ?_⟩) ?_ ?_
    rotate_left
    ·
     intro w'
     go_simp
     with_reducible rfl
    rotate_left
    ·
     simp only [Act.put, List.setIfInBounds_toArray, List.set_cons_zero, List.set_cons_succ, i64_w, i32_w]
     rfl
    refine one_ (i := 3) (N := some 58) #[true, true, true, true, true, true, false, true, false] rfl rfl (by kernel_rfl) (by decide) (fun K hK => ?_)
    refine value_ (w1 := ?_) (v := ?_) (by rfl) rfl ?_ ?_
    rotate_left 2
    ·
     go_simp
     constructor
     ·
      rfl
     ·
      rfl
    refine hK.out _ _ (hS0 _ hb07) (fun hHeld => ?_)
    clear hK K
    refine norm_ (a' := ?_) ?_ ?_
    rotate_left
    ·
     show Act.put _ (some 58) _ = _
     simp only [Act.put, List.setIfInBounds_toArray, List.set_cons_zero, List.set_cons_succ, i64_w, i32_w]
     rfl
    refine pure_ (i := 6) (N := some 61) (v := ?_) (a' := ?_) #[true, true, true, true, true, true, true, true, false] rfl rfl (by kernel_rfl) (fun _ _ _ h => h) (Or.inl ⟨by rfl, ?_⟩) ?_ ?_
    rotate_left
    ·
     intro w'
     go_simp
     with_reducible rfl
    rotate_left
    ·
     simp only [Act.put, List.setIfInBounds_toArray, List.set_cons_zero, List.set_cons_succ, i64_w, i32_w]
     rfl
    refine pure_ (i := 8) (N := some 3) (v := ?_) (a' := ?_) #[true, true, true, true, true, true, true, true, true] rfl rfl (by kernel_rfl) (fun _ _ _ h => h) (Or.inl ⟨by rfl, ?_⟩) ?_ ?_
    rotate_left
    ·
     intro w'
     go_simp
     with_reducible rfl
    rotate_left
    ·
     simp only [Act.put, List.setIfInBounds_toArray, List.set_cons_zero, List.set_cons_succ, i64_w, i32_w]
     rfl
    refine done_ (by kernel_rfl) ?_
-- R18]
    go_wp2_with fail
    go_ret2
    exact ⟨_, by rw [Hok.out]; rfl, (fun _ => by rw [HchE.out]; exact Kd.R_below hR6 hb7), hb07⟩
end Go.Proofs.YtpoblffgclmmlaaGreatDoor.X
namespace Go.Proofs.YtpoblffgclmmlaaGreatDoor.X
open Go.RowKit Go.WideMaps Go.Maps Go.Proofs.YtpoblffgclmmlaaGreatDoorW.PrintWords Go.Proofs.YtpoblffgclmmlaaGreatDoorW.PrintLast Go.Proofs.YtpoblffgclmmlaaGreatDoorW.PrintMore Go.Proofs.YtpoblffgclmmlaaGreatDoor.Q

/-- The reference's tape in memory: a row of its own. -/
structure RTpAt (W : World) (base t : Nat) (v : Value) (T : TapeS) : Prop where
 blk : W.heap[t]? = some (.cells #[v, .int .i64 T.sure, .int .i64 T.fuse, .bool T.down] 42 (0, 0))
 row : BytR base 5 W v T.b
 ge : base ≤ t
theorem R_ownB {e : Nat} {W : World} {base : Nat} {ok : Nat → Prop} {v : Value} {xs : List Int} (h : Kd.R (Kd.int .u8) e W base ok v xs) : Kd.R (Kd.int .u8) e W base (fun k => v.ownBlock = some k) v xs := R_own_ok h (fun k hk => hk)
theorem BytR.tur {b e : Nat} {W W' : World} {v : Value} {xs : List Int} {S : Nat → Prop} (h : BytR b e W v xs) (hk : Tur W W' S) (hn : ∀ k, v.ownBlock = some k → ¬ S k) : BytR b e W' v xs :=
 Kd.R_mono (Kd.R_kept (R_ownB h) hk.kept hn) (fun _ _ => trivial)
theorem RTpAt.ne {W : World} {base t : Nat} {v : Value} {T : TapeS} (h : RTpAt W base t v T) : ∀ k, v.ownBlock = some k → k ≠ t := fun k hk => by
 obtain ⟨cells, hc⟩ := Kd.R_typed h.row k hk
 exact blk_ne hc h.blk (by decide)
theorem RTpAt.kept {W W' : World} {base t : Nat} {v : Value} {T : TapeS} {S : Nat → Prop} (h : RTpAt W base t v T) (hk : Tur W W' S) (ht : ¬ S t) (hv : ∀ k, v.ownBlock = some k → ¬ S k) : RTpAt W' base t v T := ⟨blk_kept h.blk hk.kept ht, h.row.tur hk hv, h.ge⟩
theorem RTpAt.below {W W' : World} {base t : Nat} {v : Value} {T : TapeS} (h : RTpAt W base t v T) (hb : Below W.heap.size W W') : RTpAt W' base t v T := h.kept (Tur.of_below hb (fun _ => False)) (fun h => h) (fun _ _ h => h)
theorem rnew_says (w : World) : Calls Tryz.prog 18 #[] w fun e w' => ∃ t, e = .returned (.pointer (some ⟨t, 0, none⟩)) ∧ RTpAt w' w.heap.size t (.slice none 0 0) TapeS.new ∧ Below w.heap.size w w' := by
 go_enter Tryz.func18, Tryz.ntmps18
 go_wp2_with fail
 go_ret
 exact ⟨_, rfl, ⟨heap_alloc_new w _, Kd.R_nil _ _ _ _ _, Nat.le_refl _⟩, (Below.refl _ w).alloc (Nat.le_refl _) _⟩
def leftL (n fuse : Int) (down : Bool) : Int := if down = true then 0 else if fuse < 0 ∨ n ≤ fuse then n else fuse
def useL (done n fuse : Int) (down : Bool) : Int × Int × Bool := if down = true then (8, fuse, down) else if done < n then (8, 0, true) else (0, if 0 < fuse then fuse - n else fuse, down)
set_option maxHeartbeats 4000000 in
set_option maxRecDepth 100000 in
theorem left_says (t : Nat) (v : Value) (sure fuse n : Int) (down : Bool) (w : World) (hb : w.heap[t]? = some (.cells #[v, .int .i64 sure, .int .i64 fuse, .bool down] 42 (0, 0))) :
  Calls Tryz.prog 133 #[.pointer (some ⟨t, 0, none⟩), .int .i64 n] w fun e w' => e = .returned (.int .i64 (leftL n fuse down)) ∧ w' = w := by
 have c2 := blk_cell hb 2
 have c3 := blk_cell hb 3
 cases down with
 | true =>
  go_enter Tryz.func133, Tryz.ntmps133
  go_wp2_with fail
  go_ret
  exact ⟨rfl, rfl⟩
 | false =>
  by_cases h1 : fuse < 0
  ·
   have d1 : decide (fuse < 0) = true := decide_eq_true h1
   have e : leftL n fuse false = n := by unfold leftL; rw [if_neg (by decide), if_pos (.inl h1)]
   rw [e]
   clear h1 e
   go_enter Tryz.func133, Tryz.ntmps133
   go_wp2_with fail
   go_ret
   exact ⟨rfl, rfl⟩
  ·
   have d1 : decide (fuse < 0) = false := decide_eq_false h1
   by_cases h2 : n ≤ fuse
   ·
    have d2 : decide (n ≤ fuse) = true := decide_eq_true h2
    have e : leftL n fuse false = n := by unfold leftL; rw [if_neg (by decide), if_pos (.inr h2)]
    rw [e]
    clear h1 h2 e
    go_enter Tryz.func133, Tryz.ntmps133
    go_wp2_with fail
    go_ret
    exact ⟨rfl, rfl⟩
   ·
    have d2 : decide (n ≤ fuse) = false := decide_eq_false h2
    have e : leftL n fuse false = fuse := by unfold leftL; rw [if_neg (by decide), if_neg (by rintro (h | h); exact h1 h; exact h2 h)]
    rw [e]
    clear h1 h2 e
    go_enter Tryz.func133, Tryz.ntmps133
    go_wp2_with fail
    go_ret
    exact ⟨rfl, rfl⟩
set_option maxHeartbeats 4000000 in
set_option maxRecDepth 100000 in
theorem use_says (t : Nat) (v : Value) (sure fuse done n : Int) (down : Bool) (w : World) (hb : w.heap[t]? = some (.cells #[v, .int .i64 sure, .int .i64 fuse, .bool down] 42 (0, 0))) (hn : 0 ≤ n ∧ n < 4611686018427387904) (hf : -1 ≤ fuse ∧ fuse < 9223372036854775808) :
  Calls Tryz.prog 132 #[.pointer (some ⟨t, 0, none⟩), .int .i64 done, .int .i64 n] w fun e w' =>
   e = .returned (.int .i64 (useL done n fuse down).1) ∧ Tur w w' (fun k => k = t) ∧ w'.heap[t]? = some (.cells #[v, .int .i64 sure, .int .i64 (useL done n fuse down).2.1, .bool (useL done n fuse down).2.2] 42 (0, 0)) := by
 have c2 := blk_cell hb 2
 have c3 := blk_cell hb 3
 have f2 := blk_frozen hb 2
 have f3 := blk_frozen hb 3
 cases down with
 | true =>
  go_enter Tryz.func132, Tryz.ntmps132
  go_wp2_with fail
  go_ret
  exact ⟨rfl, Tur.refl _ _, hb⟩
 | false =>
  by_cases h1 : done < n
  ·
   have d1 : decide (done < n) = true := decide_eq_true h1
   have e : useL done n fuse false = (8, 0, true) := by unfold useL; rw [if_neg (by decide), if_pos h1]
   rw [e]
   clear h1 e
   go_enter Tryz.func132, Tryz.ntmps132
   go_wp2_with fail
   go_ret
   exact ⟨rfl, ((Tur.refl w (fun k => k = t)).setCell (.inl rfl) _).setCell (.inl rfl) _, blk_put (blk_put hb 3 (.bool true) rfl) 2 (.int .i64 0) rfl⟩
  ·
   have d1 : decide (done < n) = false := decide_eq_false h1
   by_cases h2 : 0 < fuse
   ·
    have d2 : decide (0 < fuse) = true := decide_eq_true h2
    have e : useL done n fuse false = (0, fuse - n, false) := by unfold useL; rw [if_neg (by decide), if_neg h1, if_pos h2]
    have ew : IntKind.i64.wrap (fuse - n) = fuse - n := IntWalk.i64_in _ (by omega)
    rw [e]
    clear h1 h2 e hn hf
    go_enter Tryz.func132, Tryz.ntmps132
    go_wp2_with fail
    go_ret
    exact ⟨rfl, (Tur.refl w (fun k => k = t)).setCell (.inl rfl) _, blk_put hb 2 (.int .i64 (fuse - n)) rfl⟩
   ·
    have d2 : decide (0 < fuse) = false := decide_eq_false h2
    have e : useL done n fuse false = (0, fuse, false) := by unfold useL; rw [if_neg (by decide), if_neg h1, if_neg h2]
    rw [e]
    clear h1 h2 e hn hf
    go_enter Tryz.func132, Tryz.ntmps132
    go_wp2_with fail
    go_ret
    exact ⟨rfl, Tur.refl _ _, hb⟩
/-- left and use together: as the program's own burn. -/
theorem burn_ref (n fuse : Int) (down : Bool) (hn : 0 ≤ n) {d f : Int} {o g : Bool} (hB : burnL n fuse down true = ((d, o), (f, g))) : useL (leftL n fuse down) n fuse down = (codeL o, f, g) := by
 unfold burnL at hB
 unfold useL leftL codeL
 cases down with
 | true =>
  rw [if_pos rfl] at hB
  simp only [Prod.mk.injEq] at hB
  rw [if_pos rfl, ← hB.1.2, ← hB.2.1, ← hB.2.2]; rfl
 | false =>
  simp only [Bool.false_eq_true, if_false] at hB ⊢
  by_cases hc : fuse < 0 ∨ n ≤ fuse
  ·
   simp only [if_pos hc, Prod.mk.injEq] at hB
   rw [if_pos hc, if_neg (by omega), ← hB.1.2, ← hB.2.2, ← hB.2.1]
   simp only [if_true]
   congr 2
   split <;> split <;> omega
  ·
   simp only [if_neg hc, if_true, Prod.mk.injEq] at hB
   rw [if_neg hc, if_pos (by omega), ← hB.1.2, ← hB.2.2, ← hB.2.1]
   rfl
set_option maxHeartbeats 8000000 in
set_option maxRecDepth 100000 in
theorem rswap_says (base t : Nat) (v : Value) (T : TapeS) (ys : List Int) (A : Option Addr) (c : Nat) (w : World) (h : RTpAt w base t v T) (hf : -1 ≤ T.fuse ∧ T.fuse < 9223372036854775808) (hC : ∀ w', Tur w w' (fun k => k = t) → Kd.C (Kd.int .u8) w' A ys.length ys) (hl : ys.length ≤ 100000000) (hbase : base ≤ w.heap.size) :
  Calls Tryz.prog 87 #[.pointer (some ⟨t, 0, none⟩), .slice A ys.length c] w fun e w' =>
   e = .returned (.int .i64 (T.swap ys).2) ∧ Tur w w' (fun k => k = t) ∧ ∃ v', RTpAt w' base t v' (T.swap ys).1 ∧ (v' = v ∨ ∀ k, v'.ownBlock = some k → w.heap.size ≤ k) := by
 obtain ⟨d, o, f, g, hB⟩ : ∃ d o f g, burnL ((ys.length : Int) + 1) T.fuse T.down true = ((d, o), (f, g)) := ⟨_, _, _, _, rfl⟩
 have hu := burn_ref _ _ _ (by omega) hB
 rw [TapeS.swap_eq T ys hB]
 have hle := left_says t v T.sure T.fuse ((ys.length : Int) + 1) T.down w h.blk
 have hus := use_says t v T.sure T.fuse (leftL ((ys.length : Int) + 1) T.fuse T.down) ((ys.length : Int) + 1) T.down w h.blk (by omega) hf
 rw [hu] at hus
 simp only at hus
 generalize leftL ((ys.length : Int) + 1) T.fuse T.down = lf at hle hus
 have e1 : wrap64 ((ys.length : Int) + 1) = (ys.length : Int) + 1 := w64 (by omega) (by omega)
 have LL := Lib.hid (show ([] : List Int).length + ys.length ≤ 140737488355328 by rw [List.length_nil]; omega)
 have hrow := h.row
 have hge := h.ge
 have hne := h.ne
 clear hB hu hl
 go_enter Tryz.func87, Tryz.ntmps87
 go_wp2_with fail
 refine hle.mono ?_
 rintro e w1 ⟨rfl, hw1⟩
 have hw1 := hw1.symm
 subst hw1
 go_wp2_with fail
 refine hus.mono ?_
 rintro e w2 ⟨rfl, hk2, hb2⟩
 clear hle hus e1
 cases o with
 | false =>
  have q : decide (codeL false = 0) = false := by decide
  have q1 : (codeL false == 0) = false := by decide
  have hr2 := hrow.tur hk2 hne
  have q2 : codeL false = 8 := rfl
  rw [q2] at q q1 ⊢
  go_wp2_with fail
  go_ret
  exact ⟨rfl, hk2, v, ⟨hb2, hr2, hge⟩, .inl rfl⟩
 | true =>
  have q2 : codeL true = 0 := rfl
  rw [q2]
  have hC2 := hC w2 hk2
  have hz2 : w.heap.size ≤ w2.heap.size := hk2.kept.1
  have hE := empty_R w2 5
  have hbE : Below w2.heap.size w2 (w2.alloc (.cells #[] 5)) := (Below.refl _ w2).alloc (Nat.le_refl _) _
  have hsE : w2.heap.size ≤ (w2.alloc (.cells #[] 5)).heap.size := hbE.size
  have hCE := Kd.C_below hC2 hbE
  have f0 := blk_frozen hb2 0
  have f1 := blk_frozen hb2 1
  go_wp2_with ((with_reducible refine gate_builtin (b := .append) (xs := #[.tmp 20, .tmp 21]) rfl ?_); at_builtin; refine app_rows w2.heap.size rfl (.tmp 20) (.tmp 21) 40 5 rfl Tryz.underlying40 (show (Tryz.prog.info? 5).map (fun i => (i.zero, i.size, i.bytes)) = some (some (.int .u8 0), 1, 1) by kernel_rfl) (.slice (some ⟨w2.heap.size, 0, none⟩) 0 0) [] ys A c rfl rfl hE hCE hsE LL ?_; intro v3 w3 hr3 hd3; rw [List.nil_append] at hr3; obtain ⟨A3, c3, e3⟩ := Kd.R_slice hr3; subst e3; have hb3 := blk_kept hb2 (Tur.of_below (hbE.trans hd3) (fun _ => False)).kept (fun h => h); have f0 := blk_frozen hb3 0; have f1 := blk_frozen hb3 1; have c0 := blk_cell hb3 0; have c1 := blk_cell hb3 1)
  go_ret
  have hk3 : Tur w w3 (fun k => k = t) := hk2.below (hbE.trans hd3)
  have hk4 : Tur w ((w3.setCell ⟨t, 0, none⟩ (.slice A3 ys.length c3)).setCell ⟨t, 1, none⟩ (.int .i64 (ys.length : Int))) (fun k => k = t) := (hk3.setCell (.inl rfl) _).setCell (.inl rfl) _
  have hb4 := blk_put (blk_put hb3 0 (.slice A3 ys.length c3) rfl) 1 (.int .i64 (ys.length : Int)) rfl
  have hne3 : ∀ k, (Value.slice A3 ys.length c3).ownBlock = some k → k ≠ t := fun k hk => by
   have := Kd.R_base hr3 k hk
   have := blk_lt hb2
   omega
  have hk34 : Tur w3 ((w3.setCell ⟨t, 0, none⟩ (.slice A3 ys.length c3)).setCell ⟨t, 1, none⟩ (.int .i64 (ys.length : Int))) (fun k => k = t) := ((Tur.refl w3 (fun k => k = t)).setCell (.inl rfl) _).setCell (.inl rfl) _
  have hr4 := BytR.tur hr3 hk34 hne3
  exact ⟨rfl, hk4, _, ⟨hb4, Kd.R_lower hr4 (Nat.le_trans hbase hz2), hge⟩, .inr (fun k hk => Nat.le_trans hz2 (Kd.R_base hr3 k hk))⟩
end Go.Proofs.YtpoblffgclmmlaaGreatDoor.X
namespace Go.Proofs.YtpoblffgclmmlaaGreatDoor.X
open Go.RowKit Go.WideMaps Go.Maps Go.Proofs.YtpoblffgclmmlaaGreatDoorW.PrintWords Go.Proofs.YtpoblffgclmmlaaGreatDoorW.PrintLast Go.Proofs.YtpoblffgclmmlaaGreatDoorW.PrintMore Go.Proofs.YtpoblffgclmmlaaGreatDoor.Q

/-- What records come to, as rows. -/
def openR : List (List Int) → List S82 → Option (List S82)
 | [], r => some r
 | x :: l, r => if chOk x = true then openR l (turnR r (chL x).1) else none
theorem openR_append (l l2 : List (List Int)) (r : List S82) : openR (l ++ l2) r = (openR l r).bind fun r' => openR l2 r' := by
 induction l generalizing r with
 | nil => simp [openR]
 | cons a l ih =>
  simp only [List.cons_append, openR]
  split
  ·
   exact ih _
  ·
   rfl
theorem openR_len (l : List (List Int)) (hl : ∀ x ∈ l, x.length ≤ 32768) : ∀ {r r' : List S82}, Ris r → openR l r = some r' → Ris r' ∧ r'.length ≤ r.length + l.length * 32769 ∧ ((∀ x ∈ r, x.f0.size ≤ 140737488351232) → ∀ x ∈ r', x.f0.size ≤ 140737488351232) := by
 induction l with
 | nil => intro r r' h e; obtain rfl := Option.some.inj e; exact ⟨h, by simp, fun h => h⟩
 | cons x l ih =>
  intro r r' h e
  simp only [openR] at e
  by_cases hx : chOk x = true
  ·
   rw [if_pos hx] at e
   have h1 := ih (fun y hy => hl y (List.mem_cons_of_mem _ hy)) (h.turn _) e
   have h2 := turnR_len r (chL x).1 h
   have h3 := chL_small x
   have h4 := hl x (List.mem_cons_self ..)
   refine ⟨h1.1, ?_, fun hk => h1.2.2 (key_turn h _ hk (fun c hc => by have := h3.2 c hc; omega))⟩
   have := h1.2.1
   rw [List.length_cons, Nat.succ_mul]
   omega
  ·
   rw [if_neg hx] at e; cases e
theorem splitF_byt (m : Nat) (l : List Int) (hb : Byt l) (i : Nat) : ∀ r ∈ (splitF m l i).1, Byt r := by
 induction m generalizing i with
 | zero => intro r hr; cases hr
 | succ m ih =>
  intro r hr
  rw [splitF_step] at hr
  split at hr
  ·
   rcases List.mem_cons.1 hr with h | h
   ·
    rw [h]
    unfold oneL
    split
    ·
     intro x hx; cases hx
    ·
     split
     ·
      intro x hx; cases hx
     ·
      exact ((hb.drop i).drop 8).take _
   ·
    exact ih _ r h
  ·
   cases hr
/-- A reference's store. -/
structure RStAt (W : World) (b s t : Nat) (vr : Value) (r : List S82) : Prop where
 blk : W.heap[s]? = some (.cells #[.pointer (some ⟨t, 0, none⟩), vr] 49 (0, 0))
 rows : RowsAt b W vr r
theorem rows_tur {b : Nat} {w w' : World} {v : Value} {r : List S82} {S : Nat → Prop} (h : RowsAt b w v r) (hk : Tur w w' S) (hn : ∀ k, v.ownBlock = some k → ¬ S k) : RowsAt b w' v r := Kd.R_mono (Kd.R_kept (R_own79 h) hk.kept hn) (fun _ _ => trivial)
/-- Between two rounds. -/
def RopI (w w2 : World) (s t : Nat) (ls : List (List Int)) (v7 : Value) (wr : World) : Prop :=
 ∃ (i : Nat) (r : List S82) (vr : Value), v7 = .int .i64 i ∧ i ≤ ls.length ∧ openR (ls.take i) [] = some r ∧ RStAt wr w.heap.size s t vr r ∧ Tur w2 wr (fun k => k = s)
theorem take_snoc {α : Type} (l : List α) (i : Nat) (h : i < l.length) (z : α) : l.take (i + 1) = l.take i ++ [l.getD i z] := by
 rw [List.take_add_one]; simp [List.getD_eq_getElem?_getD, List.getElem?_eq_getElem h]
theorem take_row_all {w0 : World} {S : Nat → Prop} {A : Option Addr} {l : List Int} {c : Nat} (h : ∀ W', Tur w0 W' S → Kd.C (Kd.int .u8) W' A l.length l) (hc : l.length ≤ c) (n : Nat) (hn : n ≤ l.length) :
  ∃ Ad cd, (∀ W, Sem.run Tryz.prog (Instr.slice 40 (.slice A l.length c) none (some (.int .i64 (n : Int))) none) W = .ok (.slice Ad n cd) W) ∧ ∀ W', Tur w0 W' S → Kd.C (Kd.int .u8) W' Ad n (l.take n) := by
 obtain ⟨Ad, cd, hrun, hC, hle⟩ := take_row (h w0 (Tur.refl w0 S)) hc n hn
 refine ⟨Ad, cd, hrun, fun W' hb => ?_⟩
 obtain ⟨Ad', cd', hrun', hC', hle'⟩ := take_row (h W' hb) hc n hn
 have e := (hrun W').symm.trans (hrun' W')
 simp only [Result.ok.injEq, Value.slice.injEq, and_true] at e
 rw [e.1]
 exact hC'
/-- What Open answers. -/
def ROpenP (w : World) (base t : Nat) (v : Value) (T : TapeS) (e : Ending) (w' : World) : Prop :=
 (openR (splitL T.b).1 [] = none ∧ e = .returned (.tuple #[.pointer none, .int .i64 2]) ∧ Below w.heap.size w w') ∨
 ∃ r s vr v', openR (splitL T.b).1 [] = some r ∧ e = .returned (.tuple #[.pointer (some ⟨s, 0, none⟩), .int .i64 0]) ∧ RStAt w' w.heap.size s t vr r ∧ RTpAt w' base t v' T.opened ∧ Tur w w' (fun k => k = t) ∧ Rowd v v' w.heap.size ∧ w.heap.size ≤ s
set_option maxHeartbeats 16000000 in
set_option maxRecDepth 100000 in
theorem ropen_says (base t : Nat) (v : Value) (T : TapeS) (w : World) (h : RTpAt w base t v T) (hf : T.fuse = -1) (hd : T.down = false) (hb : Byt T.b) (hl : T.b.length ≤ 100000000) (hn : (splitL T.b).1.length ≤ 30000) (hbase : base ≤ w.heap.size) :
  Calls Tryz.prog 20 #[.pointer (some ⟨t, 0, none⟩)] w fun e w' => ROpenP w base t v T e w' := by
 obtain ⟨k, hk⟩ := (rsplit_is T.b hb hl).rounds
 obtain ⟨A, c, ev⟩ := Kd.R_slice h.row
 subst ev
 have hsm : ∀ r ∈ (splitL T.b).1, r.length ≤ 32768 := (splitF_small (T.b.length + 1) T.b 0).2
 have hby : ∀ r ∈ (splitL T.b).1, Byt r := splitF_byt (T.b.length + 1) T.b hb 0
 have hne : (splitL T.b).2 ≤ T.b.length := splitF_end (T.b.length + 1) T.b 0 (Nat.zero_le _)
 have hop : T.opened = ⟨T.b.take (splitL T.b).2, if (splitL T.b).2 < T.b.length then ((splitL T.b).2 : Int) else T.sure, -1, false⟩ := rfl
 obtain ⟨⟨ls, n⟩, hsp⟩ : ∃ p, splitL T.b = p := ⟨_, rfl⟩
 unfold ROpenP
 rw [hsp] at hk hsm hby hne hop hn ⊢
 simp only at hk hsm hby hne hop hn ⊢
 have hc0 := blk_cell h.blk 0
 have htw := blk_lt h.blk
 have Hop := Lib.hid hop
 have Hne := Lib.hid hne
 have Hn := Lib.hid hn
 clear hsp hop hne hn
 go_enter Tryz.func20, Tryz.ntmps20
 go_wp2_with fail
 have hsA := heap_alloc_new w (.cells #[.pointer (some ⟨t, 0, none⟩), .slice none 0 0] 49)
 have hb1 : Below w.heap.size w (w.alloc (.cells #[.pointer (some ⟨t, 0, none⟩), .slice none 0 0] 49)) := (Below.refl _ w).alloc (Nat.le_refl _) _
 have hz1 : (w.alloc (.cells #[.pointer (some ⟨t, 0, none⟩), .slice none 0 0] 49)).heap.size = w.heap.size + 1 := by simp
 generalize w.alloc (.cells #[.pointer (some ⟨t, 0, none⟩), .slice none 0 0] 49) = w1 at hsA hb1 hz1 ⊢
 have h1 := h.below hb1
 have hltA := Kd.R_lt h.row
 refine (exequaturref10_Split.calls k (fun q => (Value.slice A T.b.length c).ownBlock = some q) A c T.b ls (n : Int) w1 (Kd.R_V (R_ownB h1.row)) hk).mono ?_
 rintro e w2 ⟨v2, rfl, hN, hb2⟩
 obtain ⟨A2, c2, e2⟩ := Kd.N_slice hN
 subst e2
 have hB2 : Below w.heap.size w w2 := below_then hb1 hb1.size hb2
 have h2 := h1.below hb2
 have hI : RopI w w2 w.heap.size t ls (.int .i64 0) w2 := ⟨0, [], .slice none 0 0, rfl, Nat.zero_le _, rfl, ⟨blk_below hsA hb2, RowsAt.nil _ _⟩, Tur.refl _ _⟩
 have hz12 := hb2.size
 have hokN : ∀ q, ((Value.slice A T.b.length c).ownBlock = some q ∨ w1.heap.size ≤ q) → q ≠ w.heap.size := by
  rintro q (h | h)
  ·
   have := hltA q h; omega
  ·
   omega
 have Hz12 := Lib.hid hz12
 clear hk hsA hb1 h1 hb2 hc0 hz12
 go_wp2_with fail
 go_loopw [7] (fun v7 wr => RopI w w2 w.heap.size t ls v7 wr) (fun v7 _ => ls.length - (intOf v7).toNat)
 case atStart => exact hI
 case round =>
  clear hI
  obtain ⟨i, r, vr, rfl, hi, hop, hS, hkr⟩ := hrel
  have hNr := Kd.N_step hN (fun q hq hlt => hkr.kept.2 q hlt (hokN q hq))
  have hBr : Below w.heap.size w wr := tur_below hB2 hkr (fun q hq => by rw [hq]; exact Nat.le_refl _)
  have hn3 := (show ls.length ≤ 30000 from Hn)
  by_cases hlt : i < ls.length
  ·
   have d1 : decide ((i : Int) < (ls.length : Int)) = true := decide_eq_true (by omega)
   have d1' : decide (i < ls.length) = true := decide_eq_true hlt
   obtain ⟨ad, A0, c0, rfl, hx, hlen, hCr⟩ := at_L3 (Kd.N_reads' hNr).2.2 (i : Int) (by omega) (by omega)
   have hrd : rd_L3 ls (i : Int) = ls.getD i [] := by unfold rd_L3; rw [Int.toNat_natCast]
   rw [hrd] at hx hlen hCr
   have hmem : ls.getD i [] ∈ ls := by simp [List.getD_eq_getElem?_getD, List.getElem?_eq_getElem hlt]
   have htk := take_snoc ls i hlt []
   have hdr : ls = ls.take i ++ (ls.getD i [] :: ls.drop (i + 1)) := by
    conv => lhs; rw [← List.take_append_drop (i + 1) ls, htk]
    simp
   have hx8 := hsm _ hmem
   have hxb := hby _ hmem
   obtain ⟨x, hxx⟩ : ∃ x, x = ls.getD i [] := ⟨_, rfl⟩
   rw [← hxx] at hx hlen hCr htk hdr hx8 hxb
   clear hxx hrd hmem
   have hsmx := chL_small x
   simp only [Int.toNat_natCast] at hx
   have i3 : ((i : Int) < (ls.length : Int)) = True := eq_true (by omega)
   have i0 : (0 ≤ (i : Int)) = True := eq_true (by omega)
   have e1 : IntKind.i64.wrap ((i : Int) + 1) = (i : Int) + 1 := IntWalk.i64_in _ (by omega)
   have hchg := Changes_says A0 c0 x wr hCr hlen hxb (by omega)
   have hrl := openR_len (ls.take i) (fun y hy => hsm y (List.mem_of_mem_take hy)) List.Pairwise.nil hop
   have hrlen : r.length + (chL x).1.length ≤ 1000000000 := by
    have := hrl.2.1
    have h9 : (ls.take i).length = i := by rw [List.length_take]; omega
    rw [h9] at this
    have : i * 32769 ≤ 30000 * 32769 := Nat.mul_le_mul_right _ (by omega)
    simp at this
    have hq := hrl.2.1
    rw [h9] at hq
    simp at hq
    omega
   have hcut : ∀ b, chOk x = b → openR (ls.take (i + 1)) [] = if b = true then some (turnR r (chL x).1) else none := by
    intro b hb
    rw [htk, openR_append, hop]
    show (if chOk x = true then _ else _) = _
    rw [hb]; rfl
   have hfin : chOk x = false → openR ls [] = none := by
    intro hb
    rw [hdr, openR_append, hop]
    show (if chOk x = true then _ else none) = none
    rw [hb]; rfl
   have Hris := Lib.hid hrl.1
   have Hrlen := Lib.hid hrlen
   have Hcut := Lib.hid hcut
   have Hfin := Lib.hid hfin
   have Hi := Lib.hid (show i + 1 ≤ ls.length by omega)
   have Hx8 := Lib.hid hx8
   clear hcut hfin hrl hrlen htk hdr hlt hi hop hsmx hx8 hn3
   go_wp2_with fail
   refine hchg.mono ?_
   rintro e w4 ⟨v4, rfl, hr4, hb4⟩
   clear hchg
   have hB4 : Below w.heap.size w w4 := below_then hBr hBr.size hb4
   cases hok : chOk x with
   | false =>
    have hno := Hfin.out hok
    go_wp2_with fail
    go_ret2
    exact .inl ⟨hno, rfl, hB4⟩
   | true =>
    have hr4 := hr4 hok
    obtain ⟨A4, c4, e4⟩ := Kd.R_slice hr4
    subst e4
    have hrd4 := Kd.R_reads' hr4
    have hblk4 := blk_below hS.blk hb4
    have hrow4 := hS.rows.below hb4
    have c1 := blk_cell hblk4 1
    have htn := rturn_says w.heap.size vr r A4 c4 (chL x).1 w4 hB4.size hrow4 hrd4.2.2 hrd4.2.1 Hrlen.out Hris.out
    obtain ⟨Av, cv, rfl, _, _⟩ := hrow4.slice
    have hct := Hcut.out true hok
    rw [if_pos rfl] at hct
    have Hct := Lib.hid hct
    clear hct
    go_wp2_with fail
    refine htn.mono ?_
    rintro e w5 ⟨v5, rfl, hv5, hb5⟩
    obtain ⟨A5, c5, rfl, _, _⟩ := hv5.slice
    have hB5 : Below w.heap.size w w5 := below_then hB4 hB4.size hb5
    have hblk5 := blk_below hblk4 hb5
    have f1 := blk_frozen hblk5 1
    have cc1 := blk_cell hblk5 1
    clear htn
    go_wp2_with fail
    have hk5 : Tur w2 (w5.setCell ⟨w.heap.size, 1, none⟩ (.slice A5 (turnR r (chL x).1).length c5)) (fun q => q = w.heap.size) := ((hkr.below hb4).below hb5).setCell (.inl rfl) _
    have hk55 : Tur w5 (w5.setCell ⟨w.heap.size, 1, none⟩ (.slice A5 (turnR r (chL x).1).length c5)) (fun q => q = w.heap.size) := (Tur.refl w5 (fun q => q = w.heap.size)).setCell (.inl rfl) _
    have hrow6 := rows_tur hv5 hk55 (fun q hq e => by
     obtain ⟨cells, hcc⟩ := Kd.R_typed hv5 q hq
     exact blk_ne hcc hblk5 (by decide) e)
    refine ⟨⟨i + 1, _, _, rfl, Hi.out, Hct.out, ⟨blk_put hblk5 1 (.slice A5 (turnR r (chL x).1).length c5) rfl, hrow6⟩, hk5⟩, ?_⟩
    have := (show i + 1 ≤ ls.length from Hi); simp only [intOf]; omega
  ·
   have d1 : decide ((i : Int) < (ls.length : Int)) = false := decide_eq_false (by omega)
   have d1' : decide (i < ls.length) = false := decide_eq_false hlt
   have hil : i = ls.length := by omega
   subst hil
   rw [List.take_length] at hop
   have htne : t ≠ w.heap.size := by omega
   have hTr := h2.kept hkr htne (fun q hq => hokN q (.inl hq))
   have hc0 := blk_cell hTr.blk 0
   have Hopn := Lib.hid hop
   clear hop
   have hne := (show n ≤ T.b.length from Hne)
   by_cases hnx : n < T.b.length
   ·
    have d2 : decide ((n : Int) < (T.b.length : Int)) = true := decide_eq_true (by omega)
    have d2' : decide (n < T.b.length) = true := decide_eq_true hnx
    have hall : ∀ w', Tur wr w' (fun q => q = t) → Kd.C (Kd.int .u8) w' A T.b.length T.b := fun w' hw' => (Kd.R_reads' (hTr.row.tur hw' hTr.ne)).2.2
    obtain ⟨Ad, cd, hcut, hCd⟩ := take_row_all hall (Kd.R_reads' hTr.row).2.1 n hne
    have ht : (T.b.take n).length = n := by rw [List.length_take]; omega
    have hsw := rswap_says base t _ T (T.b.take n) Ad cd wr hTr (by rw [hf]; decide) (fun w' hw' => by rw [ht]; exact hCd w' hw') (by omega) (Nat.le_trans hbase hBr.size)
    have hse : T.swap (T.b.take n) = (⟨T.b.take n, (n : Int), -1, false⟩, 0) := by
     have := swap_eq0 T (T.b.take n) (d := (n : Int) + 1) (f := -1) (g := false) (by rw [hf, hd, ht]; unfold burnL; rw [if_neg (by decide), if_pos (.inl (by decide)), if_neg (by decide)])
     rw [ht] at this
     exact this
    rw [hse, ht] at hsw
    have hoP : T.opened = ⟨T.b.take n, (n : Int), -1, false⟩ := by rw [Hop.out, if_pos hnx]
    have HoP := Lib.hid hoP
    clear hoP hse ht hnx hne
    go_wp2_with fail
    refine hsw.mono ?_
    rintro e w6 ⟨rfl, hk6, v6, hT6, ho6⟩
    go_wp2_with fail
    go_ret2
    refine .inr ⟨r, w.heap.size, vr, v6, Hopn.out, rfl, ⟨blk_kept hS.blk hk6.kept (fun e => htne e.symm), rows_tur hS.rows hk6 (fun q hq e => by
     obtain ⟨cells, hcc⟩ := Kd.R_typed hS.rows q hq
     exact blk_ne hcc hTr.blk (by decide) e)⟩, by rw [HoP.out]; exact hT6, (Tur.of_below hBr _).then_ hk6 (fun q hq => .inl hq), fun q hq => by
     rcases ho6 with e6 | h6
     ·
      exact .inl (e6 ▸ hq)
     ·
      exact .inr (Nat.le_trans hBr.size (h6 q hq)), Nat.le_refl _⟩
   ·
    have d2 : decide ((n : Int) < (T.b.length : Int)) = false := decide_eq_false (by omega)
    have d2' : decide (n < T.b.length) = false := decide_eq_false hnx
    have hoP : T.opened = T := by
     rw [Hop.out, if_neg hnx, List.take_of_length_le (by omega)]
     obtain ⟨b, su, fu, dn⟩ := T
     simp only at hf hd
     rw [hf, hd]
    have HoP := Lib.hid hoP
    clear hoP hnx hne
    go_wp2_with fail
    go_ret2
    exact .inr ⟨r, w.heap.size, vr, _, Hopn.out, rfl, hS, by rw [HoP.out]; exact hTr, Tur.of_below hBr _, Rowd.refl _ _, Nat.le_refl _⟩
end Go.Proofs.YtpoblffgclmmlaaGreatDoor.X
end
section
set_option linter.unusedVariables false
set_option linter.unusedSimpArgs false
namespace Go.Proofs.YtpoblffgclmmlaaGreatDoor.X
open Go.RowKit Go.WideMaps Go.Maps Go.Proofs.YtpoblffgclmmlaaGreatDoorW.PrintWords Go.Proofs.YtpoblffgclmmlaaGreatDoorW.PrintLast Go.Proofs.YtpoblffgclmmlaaGreatDoorW.PrintMore Go.Proofs.YtpoblffgclmmlaaGreatDoor.Q

theorem burn_ref2 (n fuse : Int) (down : Bool) (hn : 0 ≤ n) {d f : Int} {o g : Bool} (hB : burnL n fuse down false = ((d, o), (f, g))) : leftL n fuse down = d ∧ useL d n fuse down = (codeL o, f, g) ∧ 0 ≤ d ∧ d ≤ n := by
 unfold burnL at hB
 unfold leftL useL
 cases down with
 | true =>
  simp only [if_true, Prod.mk.injEq] at hB ⊢
  obtain ⟨⟨rfl, rfl⟩, rfl, rfl⟩ := hB
  exact ⟨rfl, ⟨rfl, rfl, rfl⟩, by omega, hn⟩
 | false =>
  simp only [Bool.false_eq_true, if_false] at hB ⊢
  by_cases hc : fuse < 0 ∨ n ≤ fuse
  ·
   simp only [if_pos hc, Prod.mk.injEq] at hB ⊢
   obtain ⟨⟨rfl, rfl⟩, rfl, rfl⟩ := hB
   refine ⟨rfl, ?_, by omega, by omega⟩
   rw [if_neg (by omega)]
   by_cases h0 : 0 < fuse
   ·
    rw [if_pos h0, if_pos (by omega)]; rfl
   ·
    rw [if_neg h0]
    by_cases h1 : 0 ≤ fuse
    ·
     rw [if_pos h1]
     have : fuse = 0 := by omega
     have : n = 0 := by omega
     subst this
     rw [Int.sub_zero]; rfl
    ·
     rw [if_neg h1]; rfl
  ·
   simp only [if_neg hc, Bool.false_eq_true, if_false, Prod.mk.injEq] at hB ⊢
   obtain ⟨⟨rfl, rfl⟩, rfl, rfl⟩ := hB
   refine ⟨rfl, ?_, by omega, by omega⟩
   rw [if_pos (by omega)]; rfl
set_option maxHeartbeats 8000000 in
set_option maxRecDepth 100000 in
theorem rwrite_says (base t : Nat) (v : Value) (T : TapeS) (ys : List Int) (A : Option Addr) (c : Nat) (w : World) (h : RTpAt w base t v T) (hf : -1 ≤ T.fuse ∧ T.fuse < 9223372036854775808) (hC : Kd.C (Kd.int .u8) w A ys.length ys) (hcy : ys.length ≤ c) (hl : T.b.length + ys.length ≤ 100000000) (hbase : base ≤ w.heap.size) :
  Calls Tryz.prog 95 #[.pointer (some ⟨t, 0, none⟩), .slice A ys.length c] w fun e w' =>
   e = .returned (.int .i64 (T.write ys).2) ∧ Tur w w' (fun k => k = t) ∧ ∃ v', RTpAt w' base t v' (T.write ys).1 ∧ ∀ k, v'.ownBlock = some k → w.heap.size ≤ k := by
 obtain ⟨d, o, f, g, hB⟩ : ∃ d o f g, burnL (ys.length : Int) T.fuse T.down false = ((d, o), (f, g)) := ⟨_, _, _, _, rfl⟩
 obtain ⟨hd1, hu, hd0, hdn⟩ := burn_ref2 _ _ _ (by omega) hB
 have hwr : T.write ys = (⟨T.b ++ ys.take d.toNat, T.sure, f, g⟩, codeL o) := by unfold TapeS.write; rw [hB]
 rw [hwr]
 obtain ⟨m, rfl⟩ : ∃ m : Nat, d = (m : Int) := ⟨d.toNat, by omega⟩
 rw [Int.toNat_natCast]
 have hle := left_says t v T.sure T.fuse (ys.length : Int) T.down w h.blk
 rw [hd1] at hle
 have hus := fun v' w' hb' => use_says t v' T.sure T.fuse (m : Int) (ys.length : Int) T.down w' hb' (by omega) hf
 rw [hu] at hus
 simp only at hus
 obtain ⟨Av, cv, ev⟩ := Kd.R_slice h.row
 subst ev
 have hCv := (Kd.R_reads' h.row).2.2
 have hge := h.ge
 have hb2 := h.blk
 obtain ⟨Ad, cd, hcut, hCd, hcd⟩ := take_row hC hcy m (by omega)
 have hdl : (ys.take m).length = m := by rw [List.length_take]; omega
 obtain ⟨zs, hz⟩ : ∃ zs, zs = ys.take m := ⟨_, rfl⟩
 rw [← hz] at hCd hdl ⊢
 have L1 := Lib.hid (show ([] : List Int).length + T.b.length ≤ 140737488355328 by rw [List.length_nil]; omega)
 have L2 := Lib.hid (show T.b.length + zs.length ≤ 140737488355328 by omega)
 subst hdl
 clear hB hd1 hu hd0 hdn hwr hz hcd hC hcy hl
 go_enter Tryz.func95, Tryz.ntmps95
 go_wp2_with fail
 refine hle.mono ?_
 rintro e w1 ⟨rfl, hw1⟩
 have hw1 := hw1.symm
 subst hw1
 clear hle
 go_upto_region 2 with (fail)
 have hb2 : w.drew.heap[t]? = _ := hb2
 have hk2 : Tur w w.drew (fun k => k = t) := Tur.drew (Tur.refl w _)
 have hCv : Kd.C (Kd.int .u8) w.drew Av T.b.length T.b := Kd.C_drew hCv
 have hCd : Kd.C (Kd.int .u8) w.drew Ad zs.length zs := Kd.C_drew hCd
 refine start_ (n := 14) (S := fun w' => w'.cell? ⟨t, 0, none⟩ = some (.slice Av T.b.length cv)) (ds := [13]) #[false, false, false, false, false, false, false, false, false, false, false, false, false, false] (by kernel_rfl) rfl rfl ((blk_cell hb2 0).trans rfl) (fun hHeld => ?_)
 generalize w.drew = w2 at hb2 hk2 hCv hCd hHeld ⊢
 refine pure_ (i := 0) (N := some 10) (v := ?_) (a' := ?_) #[true, false, false, false, false, false, false, false, false, false, false, false, false, false] rfl rfl (by kernel_rfl) (fun _ _ _ h => h) (Or.inl ⟨by rfl, ?_⟩) ?_ ?_
 rotate_left
 ·
  intro w'
  go_simp
  with_reducible rfl
 rotate_left
 ·
  simp only [Act.put, List.setIfInBounds_toArray, List.set_cons_zero, List.set_cons_succ, i64_w, i32_w]
  rfl
 refine pure_ (i := 2) (N := some 12) (v := ?_) (a' := ?_) #[true, false, true, false, false, false, false, false, false, false, false, false, false, false] rfl rfl (by kernel_rfl) (fun _ _ _ h => h) (Or.inl ⟨by rfl, ?_⟩) ?_ ?_
 rotate_left
 ·
  intro w'
  go_simp
  with_reducible rfl
 rotate_left
 ·
  simp only [Act.put, List.setIfInBounds_toArray, List.set_cons_zero, List.set_cons_succ, i64_w, i32_w]
  rfl
 refine pure_ (i := 3) (N := some 13) (v := ?_) (a' := ?_) #[true, false, true, true, false, false, false, false, false, false, false, false, false, false] rfl rfl (by kernel_rfl) (fun _ _ _ h => h) (Or.inl ⟨by rfl, ?_⟩) ?_ ?_
 rotate_left
 ·
  intro w'
  go_simp
  with_reducible rfl
 rotate_left
 ·
  simp only [Act.put, List.setIfInBounds_toArray, List.set_cons_zero, List.set_cons_succ, i64_w, i32_w]
  rfl
 refine pure_ (i := 4) (N := some 14) (v := ?_) (a' := ?_) #[true, false, true, true, true, false, false, false, false, false, false, false, false, false] rfl rfl (by kernel_rfl) (fun _ _ _ h => h) (Or.inl ⟨by rfl, ?_⟩) ?_ ?_
 rotate_left
 ·
  intro w'
  go_simp
  with_reducible rfl
 rotate_left
 ·
  simp only [Act.put, List.setIfInBounds_toArray, List.set_cons_zero, List.set_cons_succ, i64_w, i32_w]
  rfl
 refine pure_ (i := 7) (N := some 17) (v := ?_) (a' := ?_) #[true, false, true, true, true, false, false, true, false, false, false, false, false, false] rfl rfl (by kernel_rfl) (fun _ _ _ h => h) (Or.inl ⟨by rfl, ?_⟩) ?_ ?_
 rotate_left
 ·
  intro w'
  go_simp
  with_reducible rfl
 rotate_left
 ·
  simp only [Act.put, List.setIfInBounds_toArray, List.set_cons_zero, List.set_cons_succ, i64_w, i32_w]
  rfl
 refine pure_ (i := 8) (N := some 18) (v := ?_) (a' := ?_) #[true, false, true, true, true, false, false, true, true, false, false, false, false, false] rfl rfl (by kernel_rfl) (fun _ _ _ h => h) (Or.inl ⟨by rfl, ?_⟩) ?_ ?_
 rotate_left
 ·
  intro w'
  go_simp
  with_reducible rfl
 rotate_left
 ·
  simp only [Act.put, List.setIfInBounds_toArray, List.set_cons_zero, List.set_cons_succ, i64_w, i32_w]
  rfl
 refine pure_ (i := 9) (N := some 19) (v := ?_) (a' := ?_) #[true, false, true, true, true, false, false, true, true, true, false, false, false, false] rfl rfl (by kernel_rfl) (fun _ _ _ h => h) (Or.inl ⟨by rfl, ?_⟩) ?_ ?_
 rotate_left
 ·
  intro w'
  go_simp
  with_reducible rfl
 rotate_left
 ·
  simp only [Act.put, List.setIfInBounds_toArray, List.set_cons_zero, List.set_cons_succ, i64_w, i32_w]
  rfl
 refine take_ (i := 5) (N := some 15) (v := ?_) (a' := ?_) #[true, false, true, true, true, true, false, true, true, true, false, false, false, false] rfl rfl (by kernel_rfl) (fun _ _ _ h => h) (Or.inl ⟨by rfl, ?_⟩) hHeld ?_ ?_
 rotate_left
 ·
  intro w' s0
  go_simp
  with_reducible rfl
 rotate_left
 ·
  simp only [Act.put, List.setIfInBounds_toArray, List.set_cons_zero, List.set_cons_succ, i64_w, i32_w]
  rfl
 refine one_ (i := 1) (N := some 11) #[true, true, true, true, true, true, false, true, true, true, false, false, false, false] rfl rfl (by kernel_rfl) (by decide) (fun K hK => ?_)
 refine value_ (w1 := ?_) (v := ?_) (by rfl) rfl ?_ ?_
 rotate_left 2
 ·
  go_simp
  constructor
  ·
   rfl
  ·
   rfl
 have hE := empty_R w2 5
 have hbE : Below w2.heap.size w2 (w2.alloc (.cells #[] 5)) := (Below.refl _ w2).alloc (Nat.le_refl _) _
 generalize w2.alloc (.cells #[] 5) = w3 at hE hbE ⊢
 have hC3 := Kd.C_below hCv hbE
 have hb3 := blk_below hb2 hbE
 refine hK.out _ _ ((blk_cell hb3 0).trans rfl) (fun hHeld => ?_)
 clear hK K
 refine norm_ (a' := ?_) ?_ ?_
 rotate_left
 ·
  show Act.put _ (some 11) _ = _
  simp only [Act.put, List.setIfInBounds_toArray, List.set_cons_zero, List.set_cons_succ, i64_w, i32_w]
  rfl
 refine one_ (i := 6) (N := some 16) #[true, true, true, true, true, true, true, true, true, true, false, false, false, false] rfl rfl (by kernel_rfl) (by decide) (fun K hK => ?_)
 refine app_rows_step (W := w3) w2.heap.size ?hw (.tmp 11) (.tmp 15) 40 5 rfl Tryz.underlying40 (show (Tryz.prog.info? 5).map (fun i => (i.zero, i.size, i.bytes)) = some (some (.int .u8 0), 1, 1) by kernel_rfl) (.slice (some ⟨w2.heap.size, 0, none⟩) 0 0) [] T.b Av cv rfl rfl hE hC3 hbE.size L1.out ?_
 (case hw => rfl)
 intro v4 w4 hr4 hd4
 rw [List.nil_append] at hr4
 have hb24 := hbE.trans hd4
 have hb4 := blk_below hb2 hb24
 have hC4 := Kd.C_below hCd hb24
 refine hK.out _ _ ((blk_cell hb4 0).trans rfl) (fun hHeld => ?_)
 clear hK K
 refine norm_ (a' := ?_) ?_ ?_
 rotate_left
 ·
  show Act.put _ (some 16) _ = _
  simp only [Act.put, List.setIfInBounds_toArray, List.set_cons_zero, List.set_cons_succ, i64_w, i32_w]
  rfl
 refine one_ (i := 10) (N := some 20) #[true, true, true, true, true, true, true, true, true, true, true, false, false, false] rfl rfl (by kernel_rfl) (by decide) (fun K hK => ?_)
 refine app_rows_step (W := w4) w2.heap.size ?hw (.tmp 16) (.tmp 19) 40 5 rfl Tryz.underlying40 (show (Tryz.prog.info? 5).map (fun i => (i.zero, i.size, i.bytes)) = some (some (.int .u8 0), 1, 1) by kernel_rfl) v4 T.b zs Ad cd rfl rfl hr4 hC4 hb24.size L2.out ?_
 (case hw => rfl)
 intro v5 w5 hr5 hd5
 have hb25 := hb24.trans hd5
 have hb5 := blk_below hb2 hb25
 obtain ⟨A5, c5, e5⟩ := Kd.R_slice hr5
 subst e5
 simp only [List.length_append] at hr5
 have c0 := blk_cell hb5 0
 have f0 := blk_frozen hb5 0
 refine hK.out _ _ ((blk_cell hb5 0).trans rfl) (fun hHeld => ?_)
 clear hK K
 refine norm_ (a' := ?_) ?_ ?_
 rotate_left
 ·
  show Act.put _ (some 20) _ = _
  simp only [Act.put, List.setIfInBounds_toArray, List.set_cons_zero, List.set_cons_succ, i64_w, i32_w]
  rfl
 refine pure_ (i := 11) (N := some 21) (v := ?_) (a' := ?_) #[true, true, true, true, true, true, true, true, true, true, true, true, false, false] rfl rfl (by kernel_rfl) (fun _ _ _ h => h) (Or.inl ⟨by rfl, ?_⟩) ?_ ?_
 rotate_left
 ·
  intro w'
  go_simp
  with_reducible rfl
 rotate_left
 ·
  simp only [Act.put, List.setIfInBounds_toArray, List.set_cons_zero, List.set_cons_succ, i64_w, i32_w]
  rfl
 refine pure_ (i := 12) (N := some 22) (v := ?_) (a' := ?_) #[true, true, true, true, true, true, true, true, true, true, true, true, true, false] rfl rfl (by kernel_rfl) (fun _ _ _ h => h) (Or.inl ⟨by rfl, ?_⟩) ?_ ?_
 rotate_left
 ·
  intro w'
  go_simp
  with_reducible rfl
 rotate_left
 ·
  simp only [Act.put, List.setIfInBounds_toArray, List.set_cons_zero, List.set_cons_succ, i64_w, i32_w]
  rfl
 refine last_ (i := 13) (N := none) #[true, true, true, true, true, true, true, true, true, true, true, true, true, true] rfl rfl (by kernel_rfl) (by decide) (fun K hK => ?_)
 refine skip_ (w1 := ?_) (by rfl) rfl ?_ ?_
 rotate_left
 ·
  go_simp
  rfl
 refine hK.out _ _ ?_
 clear hK K
 refine done_ (by kernel_rfl) ?_
 have hk5 : Tur w w5 (fun k => k = t) := hk2.below hb25
 have hk6 : Tur w (w5.setCell ⟨t, 0, none⟩ (.slice A5 (T.b.length + zs.length) c5)) (fun k => k = t) := hk5.setCell (p := ⟨t, 0, none⟩) (S := fun k => k = t) (.inl rfl) _
 have hb6 := blk_put hb5 0 (.slice A5 (T.b.length + zs.length) c5) rfl
 have hne5 : ∀ k, (Value.slice A5 (T.b.length + zs.length) c5).ownBlock = some k → k ≠ t := fun k hk => by
  have := Kd.R_base hr5 k hk
  have := blk_lt hb2
  omega
 have hr6 : BytR w2.heap.size 5 (w5.setCell ⟨t, 0, none⟩ (.slice A5 (T.b.length + zs.length) c5)) (.slice A5 (T.b.length + zs.length) c5) (T.b ++ zs) := BytR.tur hr5 ((Tur.refl w5 (fun k => k = t)).setCell (p := ⟨t, 0, none⟩) (S := fun k => k = t) (.inl rfl) _) hne5
 have hz2 : w.heap.size ≤ w2.heap.size := hk2.kept.1
 have hus := hus _ _ hb6
 clear hb5 hr5 hk5 c0 f0
 go_wp2_with fail
 refine hus.mono ?_
 rintro e w7 ⟨rfl, hk7, hb7⟩
 have hr7 := BytR.tur hr6 hk7 hne5
 go_wp2_with fail
 go_ret
 exact ⟨rfl, hk6.then_ hk7 (fun k h => .inl h), _, ⟨hb7, Kd.R_lower hr7 (Nat.le_trans hbase hz2), hge⟩, fun k hk => Nat.le_trans hz2 (Kd.R_base hr7 k hk)⟩
end Go.Proofs.YtpoblffgclmmlaaGreatDoor.X
end
section
set_option linter.unusedVariables false
set_option linter.unusedSimpArgs false
namespace Go.Proofs.YtpoblffgclmmlaaGreatDoor.X
open Go.RowKit Go.WideMaps Go.Maps Go.Proofs.YtpoblffgclmmlaaGreatDoorW.PrintWords Go.Proofs.YtpoblffgclmmlaaGreatDoorW.PrintLast Go.Proofs.YtpoblffgclmmlaaGreatDoorW.PrintMore Go.Proofs.YtpoblffgclmmlaaGreatDoor.Q

set_option maxHeartbeats 8000000 in
set_option maxRecDepth 100000 in
theorem rcrash_neg_all (base t : Nat) (T : TapeS) (keep : Int) (w : World) (hk : -9223372036854775808 ≤ keep ∧ keep < 9223372036854775808) (hs : 0 ≤ T.sure ∧ T.sure ≤ T.b.length) (hl : T.b.length ≤ 1000000000) (hbase : base ≤ w.heap.size) (hge : base ≤ t) (Av : Option Addr) (cv : Nat)
  (hb0 : w.heap[t]? = some (.cells #[.slice Av T.b.length cv, .int .i64 T.sure, .int .i64 T.fuse, .bool T.down] 42 (0, 0))) (hCv : Kd.C (Kd.int .u8) w Av T.b.length T.b) (Ad : Option Addr) (cd : Nat) (zs : List Int)
  (hcut : ∀ W, Sem.run Tryz.prog (Instr.slice 40 (.slice Av T.b.length cv) none (some (.int .i64 (zs.length : Int))) none) W = .ok (.slice Ad zs.length cd) W) (hCd : Kd.C (Kd.int .u8) w Ad zs.length zs) (hzl : zs.length ≤ T.b.length)
  (C_keep : ∀ {w2 : World}, Tur w w2 (fun k => k = t) → Kd.C (Kd.int .u8) w Ad zs.length zs → Kd.C (Kd.int .u8) w2 Ad zs.length zs) (h1 : keep < 0) (hz : T.sure + (0 : Int) = (zs.length : Int)) :
  Calls Tryz.prog 23 #[.pointer (some ⟨t, 0, none⟩), .int .i64 keep] w fun e w' =>
   e = .returned (.tuple #[]) ∧ Tur w w' (fun k => k = t) ∧ ∃ v', RTpAt w' base t v' ⟨zs, (zs.length : Int), -1, false⟩ ∧ ∀ k, v'.ownBlock = some k → w.heap.size ≤ k := by
 have L1 := Lib.hid (show ([] : List Int).length + zs.length ≤ 140737488355328 by rw [List.length_nil]; omega)
 have e1 : IntKind.i64.wrap ((T.b.length : Int) - T.sure) = (T.b.length : Int) - T.sure := IntWalk.i64_in _ (by omega)
 have d1 : decide (keep < 0) = true := decide_eq_true h1
 have d2 : decide (((T.b.length : Int) - T.sure) < (0 : Int)) = false := decide_eq_false (by omega)
 have e2 : IntKind.i64.wrap (T.sure + (0 : Int)) = (zs.length : Int) := by rw [IntWalk.i64_in _ (by omega)]; exact hz
 have e5 : wrap64 (zs.length : Int) = (zs.length : Int) := w64 (by omega) (by omega)
 have e6 : IntKind.i64.wrap (zs.length : Int) = (zs.length : Int) := IntWalk.i64_in _ (by omega)
 go_enter Tryz.func23, Tryz.ntmps23
 go_upto_region 2 with (fail)
 have hb1 : w.drew.heap[t]? = _ := hb0
 have hk1 : Tur w w.drew (fun k => k = t) := Tur.drew (Tur.refl w _)
 have hCv1 : Kd.C (Kd.int .u8) w.drew Av T.b.length T.b := Kd.C_drew hCv
 refine start_ (n := 12) (S := fun w' => w'.cell? ⟨t, 0, none⟩ = some (.slice Av T.b.length cv) ∧ w'.cell? ⟨t, 1, none⟩ = some (.int .i64 T.sure)) (ds := []) #[false, false, false, false, false, false, false, false, false, false, false, false] (by kernel_rfl) rfl rfl ⟨(blk_cell hb1 0).trans rfl, (blk_cell hb1 1).trans rfl⟩ (fun hHeld => ?_)
 generalize w.drew = w1 at hb1 hk1 hCv1 hHeld ⊢
 refine pure_ (i := 0) (N := some 6) (v := ?_) (a' := ?_) #[true, false, false, false, false, false, false, false, false, false, false, false] rfl rfl (by kernel_rfl) (fun _ _ _ h => h) (Or.inl ⟨by rfl, ?_⟩) ?_ ?_
 rotate_left
 ·
  intro w'
  go_simp
  with_reducible rfl
 rotate_left
 ·
  simp only [Act.put, List.setIfInBounds_toArray, List.set_cons_zero, List.set_cons_succ, i64_w, i32_w]
  rfl
 refine pure_ (i := 1) (N := some 7) (v := ?_) (a' := ?_) #[true, true, false, false, false, false, false, false, false, false, false, false] rfl rfl (by kernel_rfl) (fun _ _ _ h => h) (Or.inl ⟨by rfl, ?_⟩) ?_ ?_
 rotate_left
 ·
  intro w'
  go_simp
  with_reducible rfl
 rotate_left
 ·
  simp only [Act.put, List.setIfInBounds_toArray, List.set_cons_zero, List.set_cons_succ, i64_w, i32_w]
  rfl
 refine pure_ (i := 2) (N := some 8) (v := ?_) (a' := ?_) #[true, true, true, false, false, false, false, false, false, false, false, false] rfl rfl (by kernel_rfl) (fun _ _ _ h => h) (Or.inl ⟨by rfl, ?_⟩) ?_ ?_
 rotate_left
 ·
  intro w'
  go_simp
  with_reducible rfl
 rotate_left
 ·
  simp only [Act.put, List.setIfInBounds_toArray, List.set_cons_zero, List.set_cons_succ, i64_w, i32_w]
  rfl
 refine pure_ (i := 3) (N := some 9) (v := ?_) (a' := ?_) #[true, true, true, true, false, false, false, false, false, false, false, false] rfl rfl (by kernel_rfl) (fun _ _ _ h => h) (Or.inl ⟨by rfl, ?_⟩) ?_ ?_
 rotate_left
 ·
  intro w'
  go_simp
  with_reducible rfl
 rotate_left
 ·
  simp only [Act.put, List.setIfInBounds_toArray, List.set_cons_zero, List.set_cons_succ, i64_w, i32_w]
  rfl
 refine pure_ (i := 6) (N := some 12) (v := ?_) (a' := ?_) #[true, true, true, true, false, false, true, false, false, false, false, false] rfl rfl (by kernel_rfl) (fun _ _ _ h => h) (Or.inl ⟨by rfl, ?_⟩) ?_ ?_
 rotate_left
 ·
  intro w'
  go_simp
  with_reducible rfl
 rotate_left
 ·
  simp only [Act.put, List.setIfInBounds_toArray, List.set_cons_zero, List.set_cons_succ, i64_w, i32_w]
  rfl
 refine pure_ (i := 7) (N := some 13) (v := ?_) (a' := ?_) #[true, true, true, true, false, false, true, true, false, false, false, false] rfl rfl (by kernel_rfl) (fun _ _ _ h => h) (Or.inl ⟨by rfl, ?_⟩) ?_ ?_
 rotate_left
 ·
  intro w'
  go_simp
  with_reducible rfl
 rotate_left
 ·
  simp only [Act.put, List.setIfInBounds_toArray, List.set_cons_zero, List.set_cons_succ, i64_w, i32_w]
  rfl
 refine pure_ (i := 8) (N := some 14) (v := ?_) (a' := ?_) #[true, true, true, true, false, false, true, true, true, false, false, false] rfl rfl (by kernel_rfl) (fun _ _ _ h => h) (Or.inl ⟨by rfl, ?_⟩) ?_ ?_
 rotate_left
 ·
  intro w'
  go_simp
  with_reducible rfl
 rotate_left
 ·
  simp only [Act.put, List.setIfInBounds_toArray, List.set_cons_zero, List.set_cons_succ, i64_w, i32_w]
  rfl
 refine take_ (i := 4) (N := some 10) (v := ?_) (a' := ?_) #[true, true, true, true, true, false, true, true, true, false, false, false] rfl rfl (by kernel_rfl) (fun _ _ _ h => h) (Or.inl ⟨by rfl, ?_⟩) hHeld ?_ ?_
 rotate_left
 ·
  rintro w' ⟨s0, s1⟩
  go_simp
  with_reducible rfl
 rotate_left
 ·
  simp only [Act.put, List.setIfInBounds_toArray, List.set_cons_zero, List.set_cons_succ, i64_w, i32_w]
  rfl
 refine pure_ (i := 5) (N := some 11) (v := ?_) (a' := ?_) #[true, true, true, true, true, true, true, true, true, false, false, false] rfl rfl (by kernel_rfl) (fun _ _ _ h => h) (Or.inl ⟨by rfl, ?_⟩) ?_ ?_
 rotate_left
 ·
  intro w'
  go_simp
  with_reducible rfl
 rotate_left
 ·
  simp only [Act.put, List.setIfInBounds_toArray, List.set_cons_zero, List.set_cons_succ, i64_w, i32_w]
  rfl
 refine take_ (i := 9) (N := some 15) (v := ?_) (a' := ?_) #[true, true, true, true, true, true, true, true, true, true, false, false] rfl rfl (by kernel_rfl) (fun _ _ _ h => h) (Or.inl ⟨by rfl, ?_⟩) hHeld ?_ ?_
 rotate_left
 ·
  rintro w' ⟨s0, s1⟩
  go_simp
  with_reducible rfl
 rotate_left
 ·
  simp only [Act.put, List.setIfInBounds_toArray, List.set_cons_zero, List.set_cons_succ, i64_w, i32_w]
  rfl
 refine pure_ (i := 10) (N := some 16) (v := ?_) (a' := ?_) #[true, true, true, true, true, true, true, true, true, true, true, false] rfl rfl (by kernel_rfl) (fun _ _ _ h => h) (Or.inl ⟨by rfl, ?_⟩) ?_ ?_
 rotate_left
 ·
  intro w'
  go_simp
  with_reducible rfl
 rotate_left
 ·
  simp only [Act.put, List.setIfInBounds_toArray, List.set_cons_zero, List.set_cons_succ, i64_w, i32_w]
  rfl
 refine pure_ (i := 11) (N := some 17) (v := ?_) (a' := ?_) #[true, true, true, true, true, true, true, true, true, true, true, true] rfl rfl (by kernel_rfl) (fun _ _ _ h => h) (Or.inl ⟨by rfl, ?_⟩) ?_ ?_
 rotate_left
 ·
  intro w'
  go_simp
  with_reducible rfl
 rotate_left
 ·
  simp only [Act.put, List.setIfInBounds_toArray, List.set_cons_zero, List.set_cons_succ, i64_w, i32_w]
  rfl
 refine done_ (by kernel_rfl) ?_
 have hb2 := hb1
 have hk2 := hk1
 have hCv2 := hCv1
 obtain ⟨w2, hw2⟩ : ∃ w2, w1 = w2 := ⟨_, rfl⟩
 subst hw2
 go_upto_region 4 with (fail)
 have hb3 : w1.drew.heap[t]? = _ := hb2
 have hk3 : Tur w w1.drew (fun k => k = t) := hk2.drew
 have hCd3 : Kd.C (Kd.int .u8) w1.drew Ad zs.length zs := Kd.C_drew (C_keep hk2 hCd)
 have hB2 : base ≤ w1.drew.heap.size := Nat.le_trans hbase hk3.kept.1
 refine start_ (n := 17) (S := fun w' => w'.cell? ⟨t, 0, none⟩ = some (.slice Av T.b.length cv) ∧ w'.cell? ⟨t, 1, none⟩ = some (.int .i64 T.sure)) (ds := [16]) #[false, false, false, false, false, false, false, false, false, false, false, false, false, false, false, false, false] (by kernel_rfl) rfl rfl ⟨(blk_cell hb3 0).trans rfl, (blk_cell hb3 1).trans rfl⟩ (fun hHeld => ?_)
 generalize w1.drew = w3 at hb3 hk3 hCd3 hB2 hHeld ⊢
 refine pure_ (i := 0) (N := some 28) (v := ?_) (a' := ?_) #[true, false, false, false, false, false, false, false, false, false, false, false, false, false, false, false, false] rfl rfl (by kernel_rfl) (fun _ _ _ h => h) (Or.inl ⟨by rfl, ?_⟩) ?_ ?_
 rotate_left
 ·
  intro w'
  go_simp
  with_reducible rfl
 rotate_left
 ·
  simp only [Act.put, List.setIfInBounds_toArray, List.set_cons_zero, List.set_cons_succ, i64_w, i32_w]
  rfl
 refine pure_ (i := 2) (N := some 30) (v := ?_) (a' := ?_) #[true, false, true, false, false, false, false, false, false, false, false, false, false, false, false, false, false] rfl rfl (by kernel_rfl) (fun _ _ _ h => h) (Or.inl ⟨by rfl, ?_⟩) ?_ ?_
 rotate_left
 ·
  intro w'
  go_simp
  with_reducible rfl
 rotate_left
 ·
  simp only [Act.put, List.setIfInBounds_toArray, List.set_cons_zero, List.set_cons_succ, i64_w, i32_w]
  rfl
 refine pure_ (i := 3) (N := some 31) (v := ?_) (a' := ?_) #[true, false, true, true, false, false, false, false, false, false, false, false, false, false, false, false, false] rfl rfl (by kernel_rfl) (fun _ _ _ h => h) (Or.inl ⟨by rfl, ?_⟩) ?_ ?_
 rotate_left
 ·
  intro w'
  go_simp
  with_reducible rfl
 rotate_left
 ·
  simp only [Act.put, List.setIfInBounds_toArray, List.set_cons_zero, List.set_cons_succ, i64_w, i32_w]
  rfl
 refine pure_ (i := 4) (N := some 32) (v := ?_) (a' := ?_) #[true, false, true, true, true, false, false, false, false, false, false, false, false, false, false, false, false] rfl rfl (by kernel_rfl) (fun _ _ _ h => h) (Or.inl ⟨by rfl, ?_⟩) ?_ ?_
 rotate_left
 ·
  intro w'
  go_simp
  with_reducible rfl
 rotate_left
 ·
  simp only [Act.put, List.setIfInBounds_toArray, List.set_cons_zero, List.set_cons_succ, i64_w, i32_w]
  rfl
 refine pure_ (i := 6) (N := some 34) (v := ?_) (a' := ?_) #[true, false, true, true, true, false, true, false, false, false, false, false, false, false, false, false, false] rfl rfl (by kernel_rfl) (fun _ _ _ h => h) (Or.inl ⟨by rfl, ?_⟩) ?_ ?_
 rotate_left
 ·
  intro w'
  go_simp
  with_reducible rfl
 rotate_left
 ·
  simp only [Act.put, List.setIfInBounds_toArray, List.set_cons_zero, List.set_cons_succ, i64_w, i32_w]
  rfl
 refine pure_ (i := 7) (N := some 35) (v := ?_) (a' := ?_) #[true, false, true, true, true, false, true, true, false, false, false, false, false, false, false, false, false] rfl rfl (by kernel_rfl) (fun _ _ _ h => h) (Or.inl ⟨by rfl, ?_⟩) ?_ ?_
 rotate_left
 ·
  intro w'
  go_simp
  with_reducible rfl
 rotate_left
 ·
  simp only [Act.put, List.setIfInBounds_toArray, List.set_cons_zero, List.set_cons_succ, i64_w, i32_w]
  rfl
 refine pure_ (i := 8) (N := some 36) (v := ?_) (a' := ?_) #[true, false, true, true, true, false, true, true, true, false, false, false, false, false, false, false, false] rfl rfl (by kernel_rfl) (fun _ _ _ h => h) (Or.inl ⟨by rfl, ?_⟩) ?_ ?_
 rotate_left
 ·
  intro w'
  go_simp
  with_reducible rfl
 rotate_left
 ·
  simp only [Act.put, List.setIfInBounds_toArray, List.set_cons_zero, List.set_cons_succ, i64_w, i32_w]
  rfl
 refine pure_ (i := 10) (N := some 38) (v := ?_) (a' := ?_) #[true, false, true, true, true, false, true, true, true, false, true, false, false, false, false, false, false] rfl rfl (by kernel_rfl) (fun _ _ _ h => h) (Or.inl ⟨by rfl, ?_⟩) ?_ ?_
 rotate_left
 ·
  intro w'
  go_simp
  with_reducible rfl
 rotate_left
 ·
  simp only [Act.put, List.setIfInBounds_toArray, List.set_cons_zero, List.set_cons_succ, i64_w, i32_w]
  rfl
 refine take_ (i := 5) (N := some 33) (v := ?_) (a' := ?_) #[true, false, true, true, true, true, true, true, true, false, true, false, false, false, false, false, false] rfl rfl (by kernel_rfl) (fun _ _ _ h => h) (Or.inl ⟨by rfl, ?_⟩) hHeld ?_ ?_
 rotate_left
 ·
  rintro w' ⟨s0, s1⟩
  go_simp
  with_reducible rfl
 rotate_left
 ·
  simp only [Act.put, List.setIfInBounds_toArray, List.set_cons_zero, List.set_cons_succ, i64_w, i32_w]
  rfl
 refine take_ (i := 9) (N := some 37) (v := ?_) (a' := ?_) #[true, false, true, true, true, true, true, true, true, true, true, false, false, false, false, false, false] rfl rfl (by kernel_rfl) (fun _ _ _ h => h) (Or.inl ⟨by rfl, ?_⟩) hHeld ?_ ?_
 rotate_left
 ·
  rintro w' ⟨s0, s1⟩
  go_simp
  with_reducible rfl
 rotate_left
 ·
  simp only [Act.put, List.setIfInBounds_toArray, List.set_cons_zero, List.set_cons_succ, i64_w, i32_w]
  rfl
 refine pure_ (i := 11) (N := some 39) (v := ?_) (a' := ?_) #[true, false, true, true, true, true, true, true, true, true, true, true, false, false, false, false, false] rfl rfl (by kernel_rfl) (fun _ _ _ h => h) (Or.inl ⟨by rfl, ?_⟩) ?_ ?_
 rotate_left
 ·
  intro w'
  go_simp
  with_reducible rfl
 rotate_left
 ·
  simp only [Act.put, List.setIfInBounds_toArray, List.set_cons_zero, List.set_cons_succ, i64_w, i32_w]
  rfl
 refine pure_ (i := 12) (N := some 40) (v := ?_) (a' := ?_) #[true, false, true, true, true, true, true, true, true, true, true, true, true, false, false, false, false] rfl rfl (by kernel_rfl) (fun _ _ _ h => h) (Or.inl ⟨by rfl, ?_⟩) ?_ ?_
 rotate_left
 ·
  intro w'
  go_simp
  with_reducible rfl
 rotate_left
 ·
  simp only [Act.put, List.setIfInBounds_toArray, List.set_cons_zero, List.set_cons_succ, i64_w, i32_w]
  rfl
 refine one_ (i := 1) (N := some 29) #[true, true, true, true, true, true, true, true, true, true, true, true, true, false, false, false, false] rfl rfl (by kernel_rfl) (by decide) (fun K hK => ?_)
 refine value_ (w1 := ?_) (v := ?_) (by rfl) rfl ?_ ?_
 rotate_left 2
 ·
  go_simp
  constructor
  ·
   rfl
  ·
   rfl
 have hE := empty_R w3 5
 have hbE : Below w3.heap.size w3 (w3.alloc (.cells #[] 5)) := (Below.refl _ w3).alloc (Nat.le_refl _) _
 generalize w3.alloc (.cells #[] 5) = w4 at hE hbE ⊢
 have hC4 := Kd.C_below hCd3 hbE
 have hb4 := blk_below hb3 hbE
 refine hK.out _ _ ⟨(blk_cell hb4 0).trans rfl, (blk_cell hb4 1).trans rfl⟩ (fun hHeld => ?_)
 clear hK K
 refine norm_ (a' := ?_) ?_ ?_
 rotate_left
 ·
  show Act.put _ (some 29) _ = _
  simp only [Act.put, List.setIfInBounds_toArray, List.set_cons_zero, List.set_cons_succ, i64_w, i32_w]
  rfl
 refine one_ (i := 13) (N := some 41) #[true, true, true, true, true, true, true, true, true, true, true, true, true, true, false, false, false] rfl rfl (by kernel_rfl) (by decide) (fun K hK => ?_)
 refine app_rows_step (W := w4) w3.heap.size ?hw (.tmp 29) (.tmp 40) 40 5 rfl Tryz.underlying40 (show (Tryz.prog.info? 5).map (fun i => (i.zero, i.size, i.bytes)) = some (some (.int .u8 0), 1, 1) by kernel_rfl) (.slice (some ⟨w3.heap.size, 0, none⟩) 0 0) [] zs Ad cd rfl rfl hE hC4 hbE.size L1.out ?_
 (case hw => rfl)
 intro v5 w5 hr5 hd5
 rw [List.nil_append] at hr5
 have hb35 := hbE.trans hd5
 have hb5 := blk_below hb3 hb35
 obtain ⟨A5, c5, e5⟩ := Kd.R_slice hr5
 subst e5
 have c0 := blk_cell hb5 0
 have f0 := blk_frozen hb5 0
 refine hK.out _ _ ⟨(blk_cell hb5 0).trans rfl, (blk_cell hb5 1).trans rfl⟩ (fun hHeld => ?_)
 clear hK K
 refine norm_ (a' := ?_) ?_ ?_
 rotate_left
 ·
  show Act.put _ (some 41) _ = _
  simp only [Act.put, List.setIfInBounds_toArray, List.set_cons_zero, List.set_cons_succ, i64_w, i32_w]
  rfl
 refine pure_ (i := 14) (N := some 42) (v := ?_) (a' := ?_) #[true, true, true, true, true, true, true, true, true, true, true, true, true, true, true, false, false] rfl rfl (by kernel_rfl) (fun _ _ _ h => h) (Or.inl ⟨by rfl, ?_⟩) ?_ ?_
 rotate_left
 ·
  intro w'
  go_simp
  with_reducible rfl
 rotate_left
 ·
  simp only [Act.put, List.setIfInBounds_toArray, List.set_cons_zero, List.set_cons_succ, i64_w, i32_w]
  rfl
 refine pure_ (i := 15) (N := some 43) (v := ?_) (a' := ?_) #[true, true, true, true, true, true, true, true, true, true, true, true, true, true, true, true, false] rfl rfl (by kernel_rfl) (fun _ _ _ h => h) (Or.inl ⟨by rfl, ?_⟩) ?_ ?_
 rotate_left
 ·
  intro w'
  go_simp
  with_reducible rfl
 rotate_left
 ·
  simp only [Act.put, List.setIfInBounds_toArray, List.set_cons_zero, List.set_cons_succ, i64_w, i32_w]
  rfl
 refine last_ (i := 16) (N := none) #[true, true, true, true, true, true, true, true, true, true, true, true, true, true, true, true, true] rfl rfl (by kernel_rfl) (by decide) (fun K hK => ?_)
 refine skip_ (w1 := ?_) (by rfl) rfl ?_ ?_
 rotate_left
 ·
  go_simp
  rfl
 refine hK.out _ _ ?_
 clear hK K
 refine done_ (by kernel_rfl) ?_
 have hk5 : Tur w w5 (fun k => k = t) := hk3.below hb35
 have hb6 := blk_put hb5 0 (.slice A5 zs.length c5) rfl
 have hk6 : Tur w (w5.setCell ⟨t, 0, none⟩ (.slice A5 zs.length c5)) (fun k => k = t) := hk5.setCell (p := ⟨t, 0, none⟩) (S := fun k => k = t) (.inl rfl) _
 have hne5 : ∀ k, (Value.slice A5 zs.length c5).ownBlock = some k → k ≠ t := fun k hk => by
  have := Kd.R_base hr5 k hk
  have := blk_lt hb3
  omega
 have hr6 : BytR w3.heap.size 5 (w5.setCell ⟨t, 0, none⟩ (.slice A5 zs.length c5)) (.slice A5 zs.length c5) zs := BytR.tur hr5 ((Tur.refl w5 (fun k => k = t)).setCell (p := ⟨t, 0, none⟩) (S := fun k => k = t) (.inl rfl) _) hne5
 clear hb5 hr5 hk5 c0 f0
 go_upto_region 5 with (fail)
 generalize w5.setCell ⟨t, 0, none⟩ (.slice A5 zs.length c5) = w6 at hb6 hk6 hr6 ⊢
 have c0 := blk_cell hb6 0
 have f1 := blk_frozen hb6 1
 have f2 := blk_frozen hb6 2
 have f3 := blk_frozen hb6 3
 have c1 := blk_cell hb6 1
 have c2 := blk_cell hb6 2
 have c3 := blk_cell hb6 3
 have hb9 := blk_put (blk_put (blk_put hb6 1 (.int .i64 (zs.length : Int)) rfl) 2 (.int .i64 (-1)) rfl) 3 (.bool false) rfl
 have hkk : Tur w6 (((w6.setCell ⟨t, 1, none⟩ (.int .i64 (zs.length : Int))).setCell ⟨t, 2, none⟩ (.int .i64 (-1))).setCell ⟨t, 3, none⟩ (.bool false)) (fun k => k = t) := (((Tur.refl w6 (fun k => k = t)).setCell (p := ⟨t, 1, none⟩) (S := fun k => k = t) (.inl rfl) _).setCell (p := ⟨t, 2, none⟩) (S := fun k => k = t) (.inl rfl) _).setCell (p := ⟨t, 3, none⟩) (S := fun k => k = t) (.inl rfl) _
 have hr9 := BytR.tur hr6 hkk hne5
 have hk9 := hk6.then_ hkk (fun k h => .inl h)
 go_wp2_with fail
 go_end0
 exact ⟨rfl, hk9, _, ⟨hb9, Kd.R_lower hr9 hB2, hge⟩, fun k hk => Nat.le_trans hk3.kept.1 (Kd.R_base hr9 k hk)⟩
set_option maxHeartbeats 8000000 in
set_option maxRecDepth 100000 in
theorem rcrash_pos_all (base t : Nat) (T : TapeS) (keep : Int) (w : World) (hk : -9223372036854775808 ≤ keep ∧ keep < 9223372036854775808) (hs : 0 ≤ T.sure ∧ T.sure ≤ T.b.length) (hl : T.b.length ≤ 1000000000) (hbase : base ≤ w.heap.size) (hge : base ≤ t) (Av : Option Addr) (cv : Nat)
  (hb0 : w.heap[t]? = some (.cells #[.slice Av T.b.length cv, .int .i64 T.sure, .int .i64 T.fuse, .bool T.down] 42 (0, 0))) (hCv : Kd.C (Kd.int .u8) w Av T.b.length T.b) (Ad : Option Addr) (cd : Nat) (zs : List Int)
  (hcut : ∀ W, Sem.run Tryz.prog (Instr.slice 40 (.slice Av T.b.length cv) none (some (.int .i64 (zs.length : Int))) none) W = .ok (.slice Ad zs.length cd) W) (hCd : Kd.C (Kd.int .u8) w Ad zs.length zs) (hzl : zs.length ≤ T.b.length)
  (C_keep : ∀ {w2 : World}, Tur w w2 (fun k => k = t) → Kd.C (Kd.int .u8) w Ad zs.length zs → Kd.C (Kd.int .u8) w2 Ad zs.length zs) (h1 : 0 ≤ keep) (h2 : keep ≤ ((T.b.length : Int) - T.sure)) (hz : T.sure + keep = (zs.length : Int)) :
  Calls Tryz.prog 23 #[.pointer (some ⟨t, 0, none⟩), .int .i64 keep] w fun e w' =>
   e = .returned (.tuple #[]) ∧ Tur w w' (fun k => k = t) ∧ ∃ v', RTpAt w' base t v' ⟨zs, (zs.length : Int), -1, false⟩ ∧ ∀ k, v'.ownBlock = some k → w.heap.size ≤ k := by
 have L1 := Lib.hid (show ([] : List Int).length + zs.length ≤ 140737488355328 by rw [List.length_nil]; omega)
 have e1 : IntKind.i64.wrap ((T.b.length : Int) - T.sure) = (T.b.length : Int) - T.sure := IntWalk.i64_in _ (by omega)
 have d1 : decide (keep < 0) = false := decide_eq_false (by omega)
 have d2 : decide (((T.b.length : Int) - T.sure) < keep) = false := decide_eq_false (by omega)
 have e2 : IntKind.i64.wrap (T.sure + keep) = (zs.length : Int) := by rw [IntWalk.i64_in _ (by omega)]; exact hz
 have e5 : wrap64 (zs.length : Int) = (zs.length : Int) := w64 (by omega) (by omega)
 have e6 : IntKind.i64.wrap (zs.length : Int) = (zs.length : Int) := IntWalk.i64_in _ (by omega)
 go_enter Tryz.func23, Tryz.ntmps23
 go_upto_region 2 with (fail)
 have hb1 : w.drew.heap[t]? = _ := hb0
 have hk1 : Tur w w.drew (fun k => k = t) := Tur.drew (Tur.refl w _)
 have hCv1 : Kd.C (Kd.int .u8) w.drew Av T.b.length T.b := Kd.C_drew hCv
 refine start_ (n := 12) (S := fun w' => w'.cell? ⟨t, 0, none⟩ = some (.slice Av T.b.length cv) ∧ w'.cell? ⟨t, 1, none⟩ = some (.int .i64 T.sure)) (ds := []) #[false, false, false, false, false, false, false, false, false, false, false, false] (by kernel_rfl) rfl rfl ⟨(blk_cell hb1 0).trans rfl, (blk_cell hb1 1).trans rfl⟩ (fun hHeld => ?_)
 generalize w.drew = w1 at hb1 hk1 hCv1 hHeld ⊢
 refine pure_ (i := 0) (N := some 6) (v := ?_) (a' := ?_) #[true, false, false, false, false, false, false, false, false, false, false, false] rfl rfl (by kernel_rfl) (fun _ _ _ h => h) (Or.inl ⟨by rfl, ?_⟩) ?_ ?_
 rotate_left
 ·
  intro w'
  go_simp
  with_reducible rfl
 rotate_left
 ·
  simp only [Act.put, List.setIfInBounds_toArray, List.set_cons_zero, List.set_cons_succ, i64_w, i32_w]
  rfl
 refine pure_ (i := 1) (N := some 7) (v := ?_) (a' := ?_) #[true, true, false, false, false, false, false, false, false, false, false, false] rfl rfl (by kernel_rfl) (fun _ _ _ h => h) (Or.inl ⟨by rfl, ?_⟩) ?_ ?_
 rotate_left
 ·
  intro w'
  go_simp
  with_reducible rfl
 rotate_left
 ·
  simp only [Act.put, List.setIfInBounds_toArray, List.set_cons_zero, List.set_cons_succ, i64_w, i32_w]
  rfl
 refine pure_ (i := 2) (N := some 8) (v := ?_) (a' := ?_) #[true, true, true, false, false, false, false, false, false, false, false, false] rfl rfl (by kernel_rfl) (fun _ _ _ h => h) (Or.inl ⟨by rfl, ?_⟩) ?_ ?_
 rotate_left
 ·
  intro w'
  go_simp
  with_reducible rfl
 rotate_left
 ·
  simp only [Act.put, List.setIfInBounds_toArray, List.set_cons_zero, List.set_cons_succ, i64_w, i32_w]
  rfl
 refine pure_ (i := 3) (N := some 9) (v := ?_) (a' := ?_) #[true, true, true, true, false, false, false, false, false, false, false, false] rfl rfl (by kernel_rfl) (fun _ _ _ h => h) (Or.inl ⟨by rfl, ?_⟩) ?_ ?_
 rotate_left
 ·
  intro w'
  go_simp
  with_reducible rfl
 rotate_left
 ·
  simp only [Act.put, List.setIfInBounds_toArray, List.set_cons_zero, List.set_cons_succ, i64_w, i32_w]
  rfl
 refine pure_ (i := 6) (N := some 12) (v := ?_) (a' := ?_) #[true, true, true, true, false, false, true, false, false, false, false, false] rfl rfl (by kernel_rfl) (fun _ _ _ h => h) (Or.inl ⟨by rfl, ?_⟩) ?_ ?_
 rotate_left
 ·
  intro w'
  go_simp
  with_reducible rfl
 rotate_left
 ·
  simp only [Act.put, List.setIfInBounds_toArray, List.set_cons_zero, List.set_cons_succ, i64_w, i32_w]
  rfl
 refine pure_ (i := 7) (N := some 13) (v := ?_) (a' := ?_) #[true, true, true, true, false, false, true, true, false, false, false, false] rfl rfl (by kernel_rfl) (fun _ _ _ h => h) (Or.inl ⟨by rfl, ?_⟩) ?_ ?_
 rotate_left
 ·
  intro w'
  go_simp
  with_reducible rfl
 rotate_left
 ·
  simp only [Act.put, List.setIfInBounds_toArray, List.set_cons_zero, List.set_cons_succ, i64_w, i32_w]
  rfl
 refine pure_ (i := 8) (N := some 14) (v := ?_) (a' := ?_) #[true, true, true, true, false, false, true, true, true, false, false, false] rfl rfl (by kernel_rfl) (fun _ _ _ h => h) (Or.inl ⟨by rfl, ?_⟩) ?_ ?_
 rotate_left
 ·
  intro w'
  go_simp
  with_reducible rfl
 rotate_left
 ·
  simp only [Act.put, List.setIfInBounds_toArray, List.set_cons_zero, List.set_cons_succ, i64_w, i32_w]
  rfl
 refine take_ (i := 4) (N := some 10) (v := ?_) (a' := ?_) #[true, true, true, true, true, false, true, true, true, false, false, false] rfl rfl (by kernel_rfl) (fun _ _ _ h => h) (Or.inl ⟨by rfl, ?_⟩) hHeld ?_ ?_
 rotate_left
 ·
  rintro w' ⟨s0, s1⟩
  go_simp
  with_reducible rfl
 rotate_left
 ·
  simp only [Act.put, List.setIfInBounds_toArray, List.set_cons_zero, List.set_cons_succ, i64_w, i32_w]
  rfl
 refine pure_ (i := 5) (N := some 11) (v := ?_) (a' := ?_) #[true, true, true, true, true, true, true, true, true, false, false, false] rfl rfl (by kernel_rfl) (fun _ _ _ h => h) (Or.inl ⟨by rfl, ?_⟩) ?_ ?_
 rotate_left
 ·
  intro w'
  go_simp
  with_reducible rfl
 rotate_left
 ·
  simp only [Act.put, List.setIfInBounds_toArray, List.set_cons_zero, List.set_cons_succ, i64_w, i32_w]
  rfl
 refine take_ (i := 9) (N := some 15) (v := ?_) (a' := ?_) #[true, true, true, true, true, true, true, true, true, true, false, false] rfl rfl (by kernel_rfl) (fun _ _ _ h => h) (Or.inl ⟨by rfl, ?_⟩) hHeld ?_ ?_
 rotate_left
 ·
  rintro w' ⟨s0, s1⟩
  go_simp
  with_reducible rfl
 rotate_left
 ·
  simp only [Act.put, List.setIfInBounds_toArray, List.set_cons_zero, List.set_cons_succ, i64_w, i32_w]
  rfl
 refine pure_ (i := 10) (N := some 16) (v := ?_) (a' := ?_) #[true, true, true, true, true, true, true, true, true, true, true, false] rfl rfl (by kernel_rfl) (fun _ _ _ h => h) (Or.inl ⟨by rfl, ?_⟩) ?_ ?_
 rotate_left
 ·
  intro w'
  go_simp
  with_reducible rfl
 rotate_left
 ·
  simp only [Act.put, List.setIfInBounds_toArray, List.set_cons_zero, List.set_cons_succ, i64_w, i32_w]
  rfl
 refine pure_ (i := 11) (N := some 17) (v := ?_) (a' := ?_) #[true, true, true, true, true, true, true, true, true, true, true, true] rfl rfl (by kernel_rfl) (fun _ _ _ h => h) (Or.inl ⟨by rfl, ?_⟩) ?_ ?_
 rotate_left
 ·
  intro w'
  go_simp
  with_reducible rfl
 rotate_left
 ·
  simp only [Act.put, List.setIfInBounds_toArray, List.set_cons_zero, List.set_cons_succ, i64_w, i32_w]
  rfl
 refine done_ (by kernel_rfl) ?_
 have hb2 := hb1
 have hk2 := hk1
 have hCv2 := hCv1
 obtain ⟨w2, hw2⟩ : ∃ w2, w1 = w2 := ⟨_, rfl⟩
 subst hw2
 go_upto_region 4 with (fail)
 have hb3 : w1.drew.heap[t]? = _ := hb2
 have hk3 : Tur w w1.drew (fun k => k = t) := hk2.drew
 have hCd3 : Kd.C (Kd.int .u8) w1.drew Ad zs.length zs := Kd.C_drew (C_keep hk2 hCd)
 have hB2 : base ≤ w1.drew.heap.size := Nat.le_trans hbase hk3.kept.1
 refine start_ (n := 17) (S := fun w' => w'.cell? ⟨t, 0, none⟩ = some (.slice Av T.b.length cv) ∧ w'.cell? ⟨t, 1, none⟩ = some (.int .i64 T.sure)) (ds := [16]) #[false, false, false, false, false, false, false, false, false, false, false, false, false, false, false, false, false] (by kernel_rfl) rfl rfl ⟨(blk_cell hb3 0).trans rfl, (blk_cell hb3 1).trans rfl⟩ (fun hHeld => ?_)
 generalize w1.drew = w3 at hb3 hk3 hCd3 hB2 hHeld ⊢
 refine pure_ (i := 0) (N := some 28) (v := ?_) (a' := ?_) #[true, false, false, false, false, false, false, false, false, false, false, false, false, false, false, false, false] rfl rfl (by kernel_rfl) (fun _ _ _ h => h) (Or.inl ⟨by rfl, ?_⟩) ?_ ?_
 rotate_left
 ·
  intro w'
  go_simp
  with_reducible rfl
 rotate_left
 ·
  simp only [Act.put, List.setIfInBounds_toArray, List.set_cons_zero, List.set_cons_succ, i64_w, i32_w]
  rfl
 refine pure_ (i := 2) (N := some 30) (v := ?_) (a' := ?_) #[true, false, true, false, false, false, false, false, false, false, false, false, false, false, false, false, false] rfl rfl (by kernel_rfl) (fun _ _ _ h => h) (Or.inl ⟨by rfl, ?_⟩) ?_ ?_
 rotate_left
 ·
  intro w'
  go_simp
  with_reducible rfl
 rotate_left
 ·
  simp only [Act.put, List.setIfInBounds_toArray, List.set_cons_zero, List.set_cons_succ, i64_w, i32_w]
  rfl
 refine pure_ (i := 3) (N := some 31) (v := ?_) (a' := ?_) #[true, false, true, true, false, false, false, false, false, false, false, false, false, false, false, false, false] rfl rfl (by kernel_rfl) (fun _ _ _ h => h) (Or.inl ⟨by rfl, ?_⟩) ?_ ?_
 rotate_left
 ·
  intro w'
  go_simp
  with_reducible rfl
 rotate_left
 ·
  simp only [Act.put, List.setIfInBounds_toArray, List.set_cons_zero, List.set_cons_succ, i64_w, i32_w]
  rfl
 refine pure_ (i := 4) (N := some 32) (v := ?_) (a' := ?_) #[true, false, true, true, true, false, false, false, false, false, false, false, false, false, false, false, false] rfl rfl (by kernel_rfl) (fun _ _ _ h => h) (Or.inl ⟨by rfl, ?_⟩) ?_ ?_
 rotate_left
 ·
  intro w'
  go_simp
  with_reducible rfl
 rotate_left
 ·
  simp only [Act.put, List.setIfInBounds_toArray, List.set_cons_zero, List.set_cons_succ, i64_w, i32_w]
  rfl
 refine pure_ (i := 6) (N := some 34) (v := ?_) (a' := ?_) #[true, false, true, true, true, false, true, false, false, false, false, false, false, false, false, false, false] rfl rfl (by kernel_rfl) (fun _ _ _ h => h) (Or.inl ⟨by rfl, ?_⟩) ?_ ?_
 rotate_left
 ·
  intro w'
  go_simp
  with_reducible rfl
 rotate_left
 ·
  simp only [Act.put, List.setIfInBounds_toArray, List.set_cons_zero, List.set_cons_succ, i64_w, i32_w]
  rfl
 refine pure_ (i := 7) (N := some 35) (v := ?_) (a' := ?_) #[true, false, true, true, true, false, true, true, false, false, false, false, false, false, false, false, false] rfl rfl (by kernel_rfl) (fun _ _ _ h => h) (Or.inl ⟨by rfl, ?_⟩) ?_ ?_
 rotate_left
 ·
  intro w'
  go_simp
  with_reducible rfl
 rotate_left
 ·
  simp only [Act.put, List.setIfInBounds_toArray, List.set_cons_zero, List.set_cons_succ, i64_w, i32_w]
  rfl
 refine pure_ (i := 8) (N := some 36) (v := ?_) (a' := ?_) #[true, false, true, true, true, false, true, true, true, false, false, false, false, false, false, false, false] rfl rfl (by kernel_rfl) (fun _ _ _ h => h) (Or.inl ⟨by rfl, ?_⟩) ?_ ?_
 rotate_left
 ·
  intro w'
  go_simp
  with_reducible rfl
 rotate_left
 ·
  simp only [Act.put, List.setIfInBounds_toArray, List.set_cons_zero, List.set_cons_succ, i64_w, i32_w]
  rfl
 refine pure_ (i := 10) (N := some 38) (v := ?_) (a' := ?_) #[true, false, true, true, true, false, true, true, true, false, true, false, false, false, false, false, false] rfl rfl (by kernel_rfl) (fun _ _ _ h => h) (Or.inl ⟨by rfl, ?_⟩) ?_ ?_
 rotate_left
 ·
  intro w'
  go_simp
  with_reducible rfl
 rotate_left
 ·
  simp only [Act.put, List.setIfInBounds_toArray, List.set_cons_zero, List.set_cons_succ, i64_w, i32_w]
  rfl
 refine take_ (i := 5) (N := some 33) (v := ?_) (a' := ?_) #[true, false, true, true, true, true, true, true, true, false, true, false, false, false, false, false, false] rfl rfl (by kernel_rfl) (fun _ _ _ h => h) (Or.inl ⟨by rfl, ?_⟩) hHeld ?_ ?_
 rotate_left
 ·
  rintro w' ⟨s0, s1⟩
  go_simp
  with_reducible rfl
 rotate_left
 ·
  simp only [Act.put, List.setIfInBounds_toArray, List.set_cons_zero, List.set_cons_succ, i64_w, i32_w]
  rfl
 refine take_ (i := 9) (N := some 37) (v := ?_) (a' := ?_) #[true, false, true, true, true, true, true, true, true, true, true, false, false, false, false, false, false] rfl rfl (by kernel_rfl) (fun _ _ _ h => h) (Or.inl ⟨by rfl, ?_⟩) hHeld ?_ ?_
 rotate_left
 ·
  rintro w' ⟨s0, s1⟩
  go_simp
  with_reducible rfl
 rotate_left
 ·
  simp only [Act.put, List.setIfInBounds_toArray, List.set_cons_zero, List.set_cons_succ, i64_w, i32_w]
  rfl
 refine pure_ (i := 11) (N := some 39) (v := ?_) (a' := ?_) #[true, false, true, true, true, true, true, true, true, true, true, true, false, false, false, false, false] rfl rfl (by kernel_rfl) (fun _ _ _ h => h) (Or.inl ⟨by rfl, ?_⟩) ?_ ?_
 rotate_left
 ·
  intro w'
  go_simp
  with_reducible rfl
 rotate_left
 ·
  simp only [Act.put, List.setIfInBounds_toArray, List.set_cons_zero, List.set_cons_succ, i64_w, i32_w]
  rfl
 refine pure_ (i := 12) (N := some 40) (v := ?_) (a' := ?_) #[true, false, true, true, true, true, true, true, true, true, true, true, true, false, false, false, false] rfl rfl (by kernel_rfl) (fun _ _ _ h => h) (Or.inl ⟨by rfl, ?_⟩) ?_ ?_
 rotate_left
 ·
  intro w'
  go_simp
  with_reducible rfl
 rotate_left
 ·
  simp only [Act.put, List.setIfInBounds_toArray, List.set_cons_zero, List.set_cons_succ, i64_w, i32_w]
  rfl
 refine one_ (i := 1) (N := some 29) #[true, true, true, true, true, true, true, true, true, true, true, true, true, false, false, false, false] rfl rfl (by kernel_rfl) (by decide) (fun K hK => ?_)
 refine value_ (w1 := ?_) (v := ?_) (by rfl) rfl ?_ ?_
 rotate_left 2
 ·
  go_simp
  constructor
  ·
   rfl
  ·
   rfl
 have hE := empty_R w3 5
 have hbE : Below w3.heap.size w3 (w3.alloc (.cells #[] 5)) := (Below.refl _ w3).alloc (Nat.le_refl _) _
 generalize w3.alloc (.cells #[] 5) = w4 at hE hbE ⊢
 have hC4 := Kd.C_below hCd3 hbE
 have hb4 := blk_below hb3 hbE
 refine hK.out _ _ ⟨(blk_cell hb4 0).trans rfl, (blk_cell hb4 1).trans rfl⟩ (fun hHeld => ?_)
 clear hK K
 refine norm_ (a' := ?_) ?_ ?_
 rotate_left
 ·
  show Act.put _ (some 29) _ = _
  simp only [Act.put, List.setIfInBounds_toArray, List.set_cons_zero, List.set_cons_succ, i64_w, i32_w]
  rfl
 refine one_ (i := 13) (N := some 41) #[true, true, true, true, true, true, true, true, true, true, true, true, true, true, false, false, false] rfl rfl (by kernel_rfl) (by decide) (fun K hK => ?_)
 refine app_rows_step (W := w4) w3.heap.size ?hw (.tmp 29) (.tmp 40) 40 5 rfl Tryz.underlying40 (show (Tryz.prog.info? 5).map (fun i => (i.zero, i.size, i.bytes)) = some (some (.int .u8 0), 1, 1) by kernel_rfl) (.slice (some ⟨w3.heap.size, 0, none⟩) 0 0) [] zs Ad cd rfl rfl hE hC4 hbE.size L1.out ?_
 (case hw => rfl)
 intro v5 w5 hr5 hd5
 rw [List.nil_append] at hr5
 have hb35 := hbE.trans hd5
 have hb5 := blk_below hb3 hb35
 obtain ⟨A5, c5, e5⟩ := Kd.R_slice hr5
 subst e5
 have c0 := blk_cell hb5 0
 have f0 := blk_frozen hb5 0
 refine hK.out _ _ ⟨(blk_cell hb5 0).trans rfl, (blk_cell hb5 1).trans rfl⟩ (fun hHeld => ?_)
 clear hK K
 refine norm_ (a' := ?_) ?_ ?_
 rotate_left
 ·
  show Act.put _ (some 41) _ = _
  simp only [Act.put, List.setIfInBounds_toArray, List.set_cons_zero, List.set_cons_succ, i64_w, i32_w]
  rfl
 refine pure_ (i := 14) (N := some 42) (v := ?_) (a' := ?_) #[true, true, true, true, true, true, true, true, true, true, true, true, true, true, true, false, false] rfl rfl (by kernel_rfl) (fun _ _ _ h => h) (Or.inl ⟨by rfl, ?_⟩) ?_ ?_
 rotate_left
 ·
  intro w'
  go_simp
  with_reducible rfl
 rotate_left
 ·
  simp only [Act.put, List.setIfInBounds_toArray, List.set_cons_zero, List.set_cons_succ, i64_w, i32_w]
  rfl
 refine pure_ (i := 15) (N := some 43) (v := ?_) (a' := ?_) #[true, true, true, true, true, true, true, true, true, true, true, true, true, true, true, true, false] rfl rfl (by kernel_rfl) (fun _ _ _ h => h) (Or.inl ⟨by rfl, ?_⟩) ?_ ?_
 rotate_left
 ·
  intro w'
  go_simp
  with_reducible rfl
 rotate_left
 ·
  simp only [Act.put, List.setIfInBounds_toArray, List.set_cons_zero, List.set_cons_succ, i64_w, i32_w]
  rfl
 refine last_ (i := 16) (N := none) #[true, true, true, true, true, true, true, true, true, true, true, true, true, true, true, true, true] rfl rfl (by kernel_rfl) (by decide) (fun K hK => ?_)
 refine skip_ (w1 := ?_) (by rfl) rfl ?_ ?_
 rotate_left
 ·
  go_simp
  rfl
 refine hK.out _ _ ?_
 clear hK K
 refine done_ (by kernel_rfl) ?_
 have hk5 : Tur w w5 (fun k => k = t) := hk3.below hb35
 have hb6 := blk_put hb5 0 (.slice A5 zs.length c5) rfl
 have hk6 : Tur w (w5.setCell ⟨t, 0, none⟩ (.slice A5 zs.length c5)) (fun k => k = t) := hk5.setCell (p := ⟨t, 0, none⟩) (S := fun k => k = t) (.inl rfl) _
 have hne5 : ∀ k, (Value.slice A5 zs.length c5).ownBlock = some k → k ≠ t := fun k hk => by
  have := Kd.R_base hr5 k hk
  have := blk_lt hb3
  omega
 have hr6 : BytR w3.heap.size 5 (w5.setCell ⟨t, 0, none⟩ (.slice A5 zs.length c5)) (.slice A5 zs.length c5) zs := BytR.tur hr5 ((Tur.refl w5 (fun k => k = t)).setCell (p := ⟨t, 0, none⟩) (S := fun k => k = t) (.inl rfl) _) hne5
 clear hb5 hr5 hk5 c0 f0
 go_upto_region 5 with (fail)
 generalize w5.setCell ⟨t, 0, none⟩ (.slice A5 zs.length c5) = w6 at hb6 hk6 hr6 ⊢
 have c0 := blk_cell hb6 0
 have f1 := blk_frozen hb6 1
 have f2 := blk_frozen hb6 2
 have f3 := blk_frozen hb6 3
 have c1 := blk_cell hb6 1
 have c2 := blk_cell hb6 2
 have c3 := blk_cell hb6 3
 have hb9 := blk_put (blk_put (blk_put hb6 1 (.int .i64 (zs.length : Int)) rfl) 2 (.int .i64 (-1)) rfl) 3 (.bool false) rfl
 have hkk : Tur w6 (((w6.setCell ⟨t, 1, none⟩ (.int .i64 (zs.length : Int))).setCell ⟨t, 2, none⟩ (.int .i64 (-1))).setCell ⟨t, 3, none⟩ (.bool false)) (fun k => k = t) := (((Tur.refl w6 (fun k => k = t)).setCell (p := ⟨t, 1, none⟩) (S := fun k => k = t) (.inl rfl) _).setCell (p := ⟨t, 2, none⟩) (S := fun k => k = t) (.inl rfl) _).setCell (p := ⟨t, 3, none⟩) (S := fun k => k = t) (.inl rfl) _
 have hr9 := BytR.tur hr6 hkk hne5
 have hk9 := hk6.then_ hkk (fun k h => .inl h)
 go_wp2_with fail
 go_end0
 exact ⟨rfl, hk9, _, ⟨hb9, Kd.R_lower hr9 hB2, hge⟩, fun k hk => Nat.le_trans hk3.kept.1 (Kd.R_base hr9 k hk)⟩
set_option maxHeartbeats 8000000 in
set_option maxRecDepth 100000 in
theorem rcrash_pos_cut (base t : Nat) (T : TapeS) (keep : Int) (w : World) (hk : -9223372036854775808 ≤ keep ∧ keep < 9223372036854775808) (hs : 0 ≤ T.sure ∧ T.sure ≤ T.b.length) (hl : T.b.length ≤ 1000000000) (hbase : base ≤ w.heap.size) (hge : base ≤ t) (Av : Option Addr) (cv : Nat)
  (hb0 : w.heap[t]? = some (.cells #[.slice Av T.b.length cv, .int .i64 T.sure, .int .i64 T.fuse, .bool T.down] 42 (0, 0))) (hCv : Kd.C (Kd.int .u8) w Av T.b.length T.b) (Ad : Option Addr) (cd : Nat) (zs : List Int)
  (hcut : ∀ W, Sem.run Tryz.prog (Instr.slice 40 (.slice Av T.b.length cv) none (some (.int .i64 (zs.length : Int))) none) W = .ok (.slice Ad zs.length cd) W) (hCd : Kd.C (Kd.int .u8) w Ad zs.length zs) (hzl : zs.length ≤ T.b.length)
  (C_keep : ∀ {w2 : World}, Tur w w2 (fun k => k = t) → Kd.C (Kd.int .u8) w Ad zs.length zs → Kd.C (Kd.int .u8) w2 Ad zs.length zs) (h1 : 0 ≤ keep) (h2 : ((T.b.length : Int) - T.sure) < keep) (hz : T.sure + ((T.b.length : Int) - T.sure) = (zs.length : Int)) :
  Calls Tryz.prog 23 #[.pointer (some ⟨t, 0, none⟩), .int .i64 keep] w fun e w' =>
   e = .returned (.tuple #[]) ∧ Tur w w' (fun k => k = t) ∧ ∃ v', RTpAt w' base t v' ⟨zs, (zs.length : Int), -1, false⟩ ∧ ∀ k, v'.ownBlock = some k → w.heap.size ≤ k := by
 have L1 := Lib.hid (show ([] : List Int).length + zs.length ≤ 140737488355328 by rw [List.length_nil]; omega)
 have e1 : IntKind.i64.wrap ((T.b.length : Int) - T.sure) = (T.b.length : Int) - T.sure := IntWalk.i64_in _ (by omega)
 have d1 : decide (keep < 0) = false := decide_eq_false (by omega)
 have d2 : decide (((T.b.length : Int) - T.sure) < keep) = true := decide_eq_true (by omega)
 have e2 : IntKind.i64.wrap (T.sure + ((T.b.length : Int) - T.sure)) = (zs.length : Int) := by rw [IntWalk.i64_in _ (by omega)]; exact hz
 have e5 : wrap64 (zs.length : Int) = (zs.length : Int) := w64 (by omega) (by omega)
 have e6 : IntKind.i64.wrap (zs.length : Int) = (zs.length : Int) := IntWalk.i64_in _ (by omega)
 go_enter Tryz.func23, Tryz.ntmps23
 go_upto_region 2 with (fail)
 have hb1 : w.drew.heap[t]? = _ := hb0
 have hk1 : Tur w w.drew (fun k => k = t) := Tur.drew (Tur.refl w _)
 have hCv1 : Kd.C (Kd.int .u8) w.drew Av T.b.length T.b := Kd.C_drew hCv
 refine start_ (n := 12) (S := fun w' => w'.cell? ⟨t, 0, none⟩ = some (.slice Av T.b.length cv) ∧ w'.cell? ⟨t, 1, none⟩ = some (.int .i64 T.sure)) (ds := []) #[false, false, false, false, false, false, false, false, false, false, false, false] (by kernel_rfl) rfl rfl ⟨(blk_cell hb1 0).trans rfl, (blk_cell hb1 1).trans rfl⟩ (fun hHeld => ?_)
 generalize w.drew = w1 at hb1 hk1 hCv1 hHeld ⊢
 refine pure_ (i := 0) (N := some 6) (v := ?_) (a' := ?_) #[true, false, false, false, false, false, false, false, false, false, false, false] rfl rfl (by kernel_rfl) (fun _ _ _ h => h) (Or.inl ⟨by rfl, ?_⟩) ?_ ?_
 rotate_left
 ·
  intro w'
  go_simp
  with_reducible rfl
 rotate_left
 ·
  simp only [Act.put, List.setIfInBounds_toArray, List.set_cons_zero, List.set_cons_succ, i64_w, i32_w]
  rfl
 refine pure_ (i := 1) (N := some 7) (v := ?_) (a' := ?_) #[true, true, false, false, false, false, false, false, false, false, false, false] rfl rfl (by kernel_rfl) (fun _ _ _ h => h) (Or.inl ⟨by rfl, ?_⟩) ?_ ?_
 rotate_left
 ·
  intro w'
  go_simp
  with_reducible rfl
 rotate_left
 ·
  simp only [Act.put, List.setIfInBounds_toArray, List.set_cons_zero, List.set_cons_succ, i64_w, i32_w]
  rfl
 refine pure_ (i := 2) (N := some 8) (v := ?_) (a' := ?_) #[true, true, true, false, false, false, false, false, false, false, false, false] rfl rfl (by kernel_rfl) (fun _ _ _ h => h) (Or.inl ⟨by rfl, ?_⟩) ?_ ?_
 rotate_left
 ·
  intro w'
  go_simp
  with_reducible rfl
 rotate_left
 ·
  simp only [Act.put, List.setIfInBounds_toArray, List.set_cons_zero, List.set_cons_succ, i64_w, i32_w]
  rfl
 refine pure_ (i := 3) (N := some 9) (v := ?_) (a' := ?_) #[true, true, true, true, false, false, false, false, false, false, false, false] rfl rfl (by kernel_rfl) (fun _ _ _ h => h) (Or.inl ⟨by rfl, ?_⟩) ?_ ?_
 rotate_left
 ·
  intro w'
  go_simp
  with_reducible rfl
 rotate_left
 ·
  simp only [Act.put, List.setIfInBounds_toArray, List.set_cons_zero, List.set_cons_succ, i64_w, i32_w]
  rfl
 refine pure_ (i := 6) (N := some 12) (v := ?_) (a' := ?_) #[true, true, true, true, false, false, true, false, false, false, false, false] rfl rfl (by kernel_rfl) (fun _ _ _ h => h) (Or.inl ⟨by rfl, ?_⟩) ?_ ?_
 rotate_left
 ·
  intro w'
  go_simp
  with_reducible rfl
 rotate_left
 ·
  simp only [Act.put, List.setIfInBounds_toArray, List.set_cons_zero, List.set_cons_succ, i64_w, i32_w]
  rfl
 refine pure_ (i := 7) (N := some 13) (v := ?_) (a' := ?_) #[true, true, true, true, false, false, true, true, false, false, false, false] rfl rfl (by kernel_rfl) (fun _ _ _ h => h) (Or.inl ⟨by rfl, ?_⟩) ?_ ?_
 rotate_left
 ·
  intro w'
  go_simp
  with_reducible rfl
 rotate_left
 ·
  simp only [Act.put, List.setIfInBounds_toArray, List.set_cons_zero, List.set_cons_succ, i64_w, i32_w]
  rfl
 refine pure_ (i := 8) (N := some 14) (v := ?_) (a' := ?_) #[true, true, true, true, false, false, true, true, true, false, false, false] rfl rfl (by kernel_rfl) (fun _ _ _ h => h) (Or.inl ⟨by rfl, ?_⟩) ?_ ?_
 rotate_left
 ·
  intro w'
  go_simp
  with_reducible rfl
 rotate_left
 ·
  simp only [Act.put, List.setIfInBounds_toArray, List.set_cons_zero, List.set_cons_succ, i64_w, i32_w]
  rfl
 refine take_ (i := 4) (N := some 10) (v := ?_) (a' := ?_) #[true, true, true, true, true, false, true, true, true, false, false, false] rfl rfl (by kernel_rfl) (fun _ _ _ h => h) (Or.inl ⟨by rfl, ?_⟩) hHeld ?_ ?_
 rotate_left
 ·
  rintro w' ⟨s0, s1⟩
  go_simp
  with_reducible rfl
 rotate_left
 ·
  simp only [Act.put, List.setIfInBounds_toArray, List.set_cons_zero, List.set_cons_succ, i64_w, i32_w]
  rfl
 refine pure_ (i := 5) (N := some 11) (v := ?_) (a' := ?_) #[true, true, true, true, true, true, true, true, true, false, false, false] rfl rfl (by kernel_rfl) (fun _ _ _ h => h) (Or.inl ⟨by rfl, ?_⟩) ?_ ?_
 rotate_left
 ·
  intro w'
  go_simp
  with_reducible rfl
 rotate_left
 ·
  simp only [Act.put, List.setIfInBounds_toArray, List.set_cons_zero, List.set_cons_succ, i64_w, i32_w]
  rfl
 refine take_ (i := 9) (N := some 15) (v := ?_) (a' := ?_) #[true, true, true, true, true, true, true, true, true, true, false, false] rfl rfl (by kernel_rfl) (fun _ _ _ h => h) (Or.inl ⟨by rfl, ?_⟩) hHeld ?_ ?_
 rotate_left
 ·
  rintro w' ⟨s0, s1⟩
  go_simp
  with_reducible rfl
 rotate_left
 ·
  simp only [Act.put, List.setIfInBounds_toArray, List.set_cons_zero, List.set_cons_succ, i64_w, i32_w]
  rfl
 refine pure_ (i := 10) (N := some 16) (v := ?_) (a' := ?_) #[true, true, true, true, true, true, true, true, true, true, true, false] rfl rfl (by kernel_rfl) (fun _ _ _ h => h) (Or.inl ⟨by rfl, ?_⟩) ?_ ?_
 rotate_left
 ·
  intro w'
  go_simp
  with_reducible rfl
 rotate_left
 ·
  simp only [Act.put, List.setIfInBounds_toArray, List.set_cons_zero, List.set_cons_succ, i64_w, i32_w]
  rfl
 refine pure_ (i := 11) (N := some 17) (v := ?_) (a' := ?_) #[true, true, true, true, true, true, true, true, true, true, true, true] rfl rfl (by kernel_rfl) (fun _ _ _ h => h) (Or.inl ⟨by rfl, ?_⟩) ?_ ?_
 rotate_left
 ·
  intro w'
  go_simp
  with_reducible rfl
 rotate_left
 ·
  simp only [Act.put, List.setIfInBounds_toArray, List.set_cons_zero, List.set_cons_succ, i64_w, i32_w]
  rfl
 refine done_ (by kernel_rfl) ?_
 go_upto_region 3 with (fail)
 have hb2 : w1.drew.heap[t]? = _ := hb1
 have hk2 : Tur w w1.drew (fun k => k = t) := hk1.drew
 have hCv2 : Kd.C (Kd.int .u8) w1.drew Av T.b.length T.b := Kd.C_drew hCv1
 refine start_ (n := 11) (S := fun w' => w'.cell? ⟨t, 0, none⟩ = some (.slice Av T.b.length cv) ∧ w'.cell? ⟨t, 1, none⟩ = some (.int .i64 T.sure)) (ds := []) #[false, false, false, false, false, false, false, false, false, false, false] (by kernel_rfl) rfl rfl ⟨(blk_cell hb2 0).trans rfl, (blk_cell hb2 1).trans rfl⟩ (fun hHeld => ?_)
 generalize w1.drew = w2 at hb2 hk2 hCv2 hHeld ⊢
 refine pure_ (i := 0) (N := some 18) (v := ?_) (a' := ?_) #[true, false, false, false, false, false, false, false, false, false, false] rfl rfl (by kernel_rfl) (fun _ _ _ h => h) (Or.inl ⟨by rfl, ?_⟩) ?_ ?_
 rotate_left
 ·
  intro w'
  go_simp
  with_reducible rfl
 rotate_left
 ·
  simp only [Act.put, List.setIfInBounds_toArray, List.set_cons_zero, List.set_cons_succ, i64_w, i32_w]
  rfl
 refine pure_ (i := 1) (N := some 19) (v := ?_) (a' := ?_) #[true, true, false, false, false, false, false, false, false, false, false] rfl rfl (by kernel_rfl) (fun _ _ _ h => h) (Or.inl ⟨by rfl, ?_⟩) ?_ ?_
 rotate_left
 ·
  intro w'
  go_simp
  with_reducible rfl
 rotate_left
 ·
  simp only [Act.put, List.setIfInBounds_toArray, List.set_cons_zero, List.set_cons_succ, i64_w, i32_w]
  rfl
 refine pure_ (i := 2) (N := some 20) (v := ?_) (a' := ?_) #[true, true, true, false, false, false, false, false, false, false, false] rfl rfl (by kernel_rfl) (fun _ _ _ h => h) (Or.inl ⟨by rfl, ?_⟩) ?_ ?_
 rotate_left
 ·
  intro w'
  go_simp
  with_reducible rfl
 rotate_left
 ·
  simp only [Act.put, List.setIfInBounds_toArray, List.set_cons_zero, List.set_cons_succ, i64_w, i32_w]
  rfl
 refine pure_ (i := 5) (N := some 23) (v := ?_) (a' := ?_) #[true, true, true, false, false, true, false, false, false, false, false] rfl rfl (by kernel_rfl) (fun _ _ _ h => h) (Or.inl ⟨by rfl, ?_⟩) ?_ ?_
 rotate_left
 ·
  intro w'
  go_simp
  with_reducible rfl
 rotate_left
 ·
  simp only [Act.put, List.setIfInBounds_toArray, List.set_cons_zero, List.set_cons_succ, i64_w, i32_w]
  rfl
 refine pure_ (i := 6) (N := some 24) (v := ?_) (a' := ?_) #[true, true, true, false, false, true, true, false, false, false, false] rfl rfl (by kernel_rfl) (fun _ _ _ h => h) (Or.inl ⟨by rfl, ?_⟩) ?_ ?_
 rotate_left
 ·
  intro w'
  go_simp
  with_reducible rfl
 rotate_left
 ·
  simp only [Act.put, List.setIfInBounds_toArray, List.set_cons_zero, List.set_cons_succ, i64_w, i32_w]
  rfl
 refine pure_ (i := 7) (N := some 25) (v := ?_) (a' := ?_) #[true, true, true, false, false, true, true, true, false, false, false] rfl rfl (by kernel_rfl) (fun _ _ _ h => h) (Or.inl ⟨by rfl, ?_⟩) ?_ ?_
 rotate_left
 ·
  intro w'
  go_simp
  with_reducible rfl
 rotate_left
 ·
  simp only [Act.put, List.setIfInBounds_toArray, List.set_cons_zero, List.set_cons_succ, i64_w, i32_w]
  rfl
 refine take_ (i := 3) (N := some 21) (v := ?_) (a' := ?_) #[true, true, true, true, false, true, true, true, false, false, false] rfl rfl (by kernel_rfl) (fun _ _ _ h => h) (Or.inl ⟨by rfl, ?_⟩) hHeld ?_ ?_
 rotate_left
 ·
  rintro w' ⟨s0, s1⟩
  go_simp
  with_reducible rfl
 rotate_left
 ·
  simp only [Act.put, List.setIfInBounds_toArray, List.set_cons_zero, List.set_cons_succ, i64_w, i32_w]
  rfl
 refine pure_ (i := 4) (N := some 22) (v := ?_) (a' := ?_) #[true, true, true, true, true, true, true, true, false, false, false] rfl rfl (by kernel_rfl) (fun _ _ _ h => h) (Or.inl ⟨by rfl, ?_⟩) ?_ ?_
 rotate_left
 ·
  intro w'
  go_simp
  with_reducible rfl
 rotate_left
 ·
  simp only [Act.put, List.setIfInBounds_toArray, List.set_cons_zero, List.set_cons_succ, i64_w, i32_w]
  rfl
 refine take_ (i := 8) (N := some 26) (v := ?_) (a' := ?_) #[true, true, true, true, true, true, true, true, true, false, false] rfl rfl (by kernel_rfl) (fun _ _ _ h => h) (Or.inl ⟨by rfl, ?_⟩) hHeld ?_ ?_
 rotate_left
 ·
  rintro w' ⟨s0, s1⟩
  go_simp
  with_reducible rfl
 rotate_left
 ·
  simp only [Act.put, List.setIfInBounds_toArray, List.set_cons_zero, List.set_cons_succ, i64_w, i32_w]
  rfl
 refine pure_ (i := 9) (N := some 27) (v := ?_) (a' := ?_) #[true, true, true, true, true, true, true, true, true, true, false] rfl rfl (by kernel_rfl) (fun _ _ _ h => h) (Or.inl ⟨by rfl, ?_⟩) ?_ ?_
 rotate_left
 ·
  intro w'
  go_simp
  with_reducible rfl
 rotate_left
 ·
  simp only [Act.put, List.setIfInBounds_toArray, List.set_cons_zero, List.set_cons_succ, i64_w, i32_w]
  rfl
 refine pure_ (i := 10) (N := some 1) (v := ?_) (a' := ?_) #[true, true, true, true, true, true, true, true, true, true, true] rfl rfl (by kernel_rfl) (fun _ _ _ h => h) (Or.inl ⟨by rfl, ?_⟩) ?_ ?_
 rotate_left
 ·
  intro w'
  go_simp
  with_reducible rfl
 rotate_left
 ·
  simp only [Act.put, List.setIfInBounds_toArray, List.set_cons_zero, List.set_cons_succ, i64_w, i32_w]
  rfl
 refine done_ (by kernel_rfl) ?_
 go_upto_region 4 with (fail)
 have hb3 : w2.drew.heap[t]? = _ := hb2
 have hk3 : Tur w w2.drew (fun k => k = t) := hk2.drew
 have hCd3 : Kd.C (Kd.int .u8) w2.drew Ad zs.length zs := Kd.C_drew (C_keep hk2 hCd)
 have hB2 : base ≤ w2.drew.heap.size := Nat.le_trans hbase hk3.kept.1
 refine start_ (n := 17) (S := fun w' => w'.cell? ⟨t, 0, none⟩ = some (.slice Av T.b.length cv) ∧ w'.cell? ⟨t, 1, none⟩ = some (.int .i64 T.sure)) (ds := [16]) #[false, false, false, false, false, false, false, false, false, false, false, false, false, false, false, false, false] (by kernel_rfl) rfl rfl ⟨(blk_cell hb3 0).trans rfl, (blk_cell hb3 1).trans rfl⟩ (fun hHeld => ?_)
 generalize w2.drew = w3 at hb3 hk3 hCd3 hB2 hHeld ⊢
 refine pure_ (i := 0) (N := some 28) (v := ?_) (a' := ?_) #[true, false, false, false, false, false, false, false, false, false, false, false, false, false, false, false, false] rfl rfl (by kernel_rfl) (fun _ _ _ h => h) (Or.inl ⟨by rfl, ?_⟩) ?_ ?_
 rotate_left
 ·
  intro w'
  go_simp
  with_reducible rfl
 rotate_left
 ·
  simp only [Act.put, List.setIfInBounds_toArray, List.set_cons_zero, List.set_cons_succ, i64_w, i32_w]
  rfl
 refine pure_ (i := 2) (N := some 30) (v := ?_) (a' := ?_) #[true, false, true, false, false, false, false, false, false, false, false, false, false, false, false, false, false] rfl rfl (by kernel_rfl) (fun _ _ _ h => h) (Or.inl ⟨by rfl, ?_⟩) ?_ ?_
 rotate_left
 ·
  intro w'
  go_simp
  with_reducible rfl
 rotate_left
 ·
  simp only [Act.put, List.setIfInBounds_toArray, List.set_cons_zero, List.set_cons_succ, i64_w, i32_w]
  rfl
 refine pure_ (i := 3) (N := some 31) (v := ?_) (a' := ?_) #[true, false, true, true, false, false, false, false, false, false, false, false, false, false, false, false, false] rfl rfl (by kernel_rfl) (fun _ _ _ h => h) (Or.inl ⟨by rfl, ?_⟩) ?_ ?_
 rotate_left
 ·
  intro w'
  go_simp
  with_reducible rfl
 rotate_left
 ·
  simp only [Act.put, List.setIfInBounds_toArray, List.set_cons_zero, List.set_cons_succ, i64_w, i32_w]
  rfl
 refine pure_ (i := 4) (N := some 32) (v := ?_) (a' := ?_) #[true, false, true, true, true, false, false, false, false, false, false, false, false, false, false, false, false] rfl rfl (by kernel_rfl) (fun _ _ _ h => h) (Or.inl ⟨by rfl, ?_⟩) ?_ ?_
 rotate_left
 ·
  intro w'
  go_simp
  with_reducible rfl
 rotate_left
 ·
  simp only [Act.put, List.setIfInBounds_toArray, List.set_cons_zero, List.set_cons_succ, i64_w, i32_w]
  rfl
 refine pure_ (i := 6) (N := some 34) (v := ?_) (a' := ?_) #[true, false, true, true, true, false, true, false, false, false, false, false, false, false, false, false, false] rfl rfl (by kernel_rfl) (fun _ _ _ h => h) (Or.inl ⟨by rfl, ?_⟩) ?_ ?_
 rotate_left
 ·
  intro w'
  go_simp
  with_reducible rfl
 rotate_left
 ·
  simp only [Act.put, List.setIfInBounds_toArray, List.set_cons_zero, List.set_cons_succ, i64_w, i32_w]
  rfl
 refine pure_ (i := 7) (N := some 35) (v := ?_) (a' := ?_) #[true, false, true, true, true, false, true, true, false, false, false, false, false, false, false, false, false] rfl rfl (by kernel_rfl) (fun _ _ _ h => h) (Or.inl ⟨by rfl, ?_⟩) ?_ ?_
 rotate_left
 ·
  intro w'
  go_simp
  with_reducible rfl
 rotate_left
 ·
  simp only [Act.put, List.setIfInBounds_toArray, List.set_cons_zero, List.set_cons_succ, i64_w, i32_w]
  rfl
 refine pure_ (i := 8) (N := some 36) (v := ?_) (a' := ?_) #[true, false, true, true, true, false, true, true, true, false, false, false, false, false, false, false, false] rfl rfl (by kernel_rfl) (fun _ _ _ h => h) (Or.inl ⟨by rfl, ?_⟩) ?_ ?_
 rotate_left
 ·
  intro w'
  go_simp
  with_reducible rfl
 rotate_left
 ·
  simp only [Act.put, List.setIfInBounds_toArray, List.set_cons_zero, List.set_cons_succ, i64_w, i32_w]
  rfl
 refine pure_ (i := 10) (N := some 38) (v := ?_) (a' := ?_) #[true, false, true, true, true, false, true, true, true, false, true, false, false, false, false, false, false] rfl rfl (by kernel_rfl) (fun _ _ _ h => h) (Or.inl ⟨by rfl, ?_⟩) ?_ ?_
 rotate_left
 ·
  intro w'
  go_simp
  with_reducible rfl
 rotate_left
 ·
  simp only [Act.put, List.setIfInBounds_toArray, List.set_cons_zero, List.set_cons_succ, i64_w, i32_w]
  rfl
 refine take_ (i := 5) (N := some 33) (v := ?_) (a' := ?_) #[true, false, true, true, true, true, true, true, true, false, true, false, false, false, false, false, false] rfl rfl (by kernel_rfl) (fun _ _ _ h => h) (Or.inl ⟨by rfl, ?_⟩) hHeld ?_ ?_
 rotate_left
 ·
  rintro w' ⟨s0, s1⟩
  go_simp
  with_reducible rfl
 rotate_left
 ·
  simp only [Act.put, List.setIfInBounds_toArray, List.set_cons_zero, List.set_cons_succ, i64_w, i32_w]
  rfl
 refine take_ (i := 9) (N := some 37) (v := ?_) (a' := ?_) #[true, false, true, true, true, true, true, true, true, true, true, false, false, false, false, false, false] rfl rfl (by kernel_rfl) (fun _ _ _ h => h) (Or.inl ⟨by rfl, ?_⟩) hHeld ?_ ?_
 rotate_left
 ·
  rintro w' ⟨s0, s1⟩
  go_simp
  with_reducible rfl
 rotate_left
 ·
  simp only [Act.put, List.setIfInBounds_toArray, List.set_cons_zero, List.set_cons_succ, i64_w, i32_w]
  rfl
 refine pure_ (i := 11) (N := some 39) (v := ?_) (a' := ?_) #[true, false, true, true, true, true, true, true, true, true, true, true, false, false, false, false, false] rfl rfl (by kernel_rfl) (fun _ _ _ h => h) (Or.inl ⟨by rfl, ?_⟩) ?_ ?_
 rotate_left
 ·
  intro w'
  go_simp
  with_reducible rfl
 rotate_left
 ·
  simp only [Act.put, List.setIfInBounds_toArray, List.set_cons_zero, List.set_cons_succ, i64_w, i32_w]
  rfl
 refine pure_ (i := 12) (N := some 40) (v := ?_) (a' := ?_) #[true, false, true, true, true, true, true, true, true, true, true, true, true, false, false, false, false] rfl rfl (by kernel_rfl) (fun _ _ _ h => h) (Or.inl ⟨by rfl, ?_⟩) ?_ ?_
 rotate_left
 ·
  intro w'
  go_simp
  with_reducible rfl
 rotate_left
 ·
  simp only [Act.put, List.setIfInBounds_toArray, List.set_cons_zero, List.set_cons_succ, i64_w, i32_w]
  rfl
 refine one_ (i := 1) (N := some 29) #[true, true, true, true, true, true, true, true, true, true, true, true, true, false, false, false, false] rfl rfl (by kernel_rfl) (by decide) (fun K hK => ?_)
 refine value_ (w1 := ?_) (v := ?_) (by rfl) rfl ?_ ?_
 rotate_left 2
 ·
  go_simp
  constructor
  ·
   rfl
  ·
   rfl
 have hE := empty_R w3 5
 have hbE : Below w3.heap.size w3 (w3.alloc (.cells #[] 5)) := (Below.refl _ w3).alloc (Nat.le_refl _) _
 generalize w3.alloc (.cells #[] 5) = w4 at hE hbE ⊢
 have hC4 := Kd.C_below hCd3 hbE
 have hb4 := blk_below hb3 hbE
 refine hK.out _ _ ⟨(blk_cell hb4 0).trans rfl, (blk_cell hb4 1).trans rfl⟩ (fun hHeld => ?_)
 clear hK K
 refine norm_ (a' := ?_) ?_ ?_
 rotate_left
 ·
  show Act.put _ (some 29) _ = _
  simp only [Act.put, List.setIfInBounds_toArray, List.set_cons_zero, List.set_cons_succ, i64_w, i32_w]
  rfl
 refine one_ (i := 13) (N := some 41) #[true, true, true, true, true, true, true, true, true, true, true, true, true, true, false, false, false] rfl rfl (by kernel_rfl) (by decide) (fun K hK => ?_)
 refine app_rows_step (W := w4) w3.heap.size ?hw (.tmp 29) (.tmp 40) 40 5 rfl Tryz.underlying40 (show (Tryz.prog.info? 5).map (fun i => (i.zero, i.size, i.bytes)) = some (some (.int .u8 0), 1, 1) by kernel_rfl) (.slice (some ⟨w3.heap.size, 0, none⟩) 0 0) [] zs Ad cd rfl rfl hE hC4 hbE.size L1.out ?_
 (case hw => rfl)
 intro v5 w5 hr5 hd5
 rw [List.nil_append] at hr5
 have hb35 := hbE.trans hd5
 have hb5 := blk_below hb3 hb35
 obtain ⟨A5, c5, e5⟩ := Kd.R_slice hr5
 subst e5
 have c0 := blk_cell hb5 0
 have f0 := blk_frozen hb5 0
 refine hK.out _ _ ⟨(blk_cell hb5 0).trans rfl, (blk_cell hb5 1).trans rfl⟩ (fun hHeld => ?_)
 clear hK K
 refine norm_ (a' := ?_) ?_ ?_
 rotate_left
 ·
  show Act.put _ (some 41) _ = _
  simp only [Act.put, List.setIfInBounds_toArray, List.set_cons_zero, List.set_cons_succ, i64_w, i32_w]
  rfl
 refine pure_ (i := 14) (N := some 42) (v := ?_) (a' := ?_) #[true, true, true, true, true, true, true, true, true, true, true, true, true, true, true, false, false] rfl rfl (by kernel_rfl) (fun _ _ _ h => h) (Or.inl ⟨by rfl, ?_⟩) ?_ ?_
 rotate_left
 ·
  intro w'
  go_simp
  with_reducible rfl
 rotate_left
 ·
  simp only [Act.put, List.setIfInBounds_toArray, List.set_cons_zero, List.set_cons_succ, i64_w, i32_w]
  rfl
 refine pure_ (i := 15) (N := some 43) (v := ?_) (a' := ?_) #[true, true, true, true, true, true, true, true, true, true, true, true, true, true, true, true, false] rfl rfl (by kernel_rfl) (fun _ _ _ h => h) (Or.inl ⟨by rfl, ?_⟩) ?_ ?_
 rotate_left
 ·
  intro w'
  go_simp
  with_reducible rfl
 rotate_left
 ·
  simp only [Act.put, List.setIfInBounds_toArray, List.set_cons_zero, List.set_cons_succ, i64_w, i32_w]
  rfl
 refine last_ (i := 16) (N := none) #[true, true, true, true, true, true, true, true, true, true, true, true, true, true, true, true, true] rfl rfl (by kernel_rfl) (by decide) (fun K hK => ?_)
 refine skip_ (w1 := ?_) (by rfl) rfl ?_ ?_
 rotate_left
 ·
  go_simp
  rfl
 refine hK.out _ _ ?_
 clear hK K
 refine done_ (by kernel_rfl) ?_
 have hk5 : Tur w w5 (fun k => k = t) := hk3.below hb35
 have hb6 := blk_put hb5 0 (.slice A5 zs.length c5) rfl
 have hk6 : Tur w (w5.setCell ⟨t, 0, none⟩ (.slice A5 zs.length c5)) (fun k => k = t) := hk5.setCell (p := ⟨t, 0, none⟩) (S := fun k => k = t) (.inl rfl) _
 have hne5 : ∀ k, (Value.slice A5 zs.length c5).ownBlock = some k → k ≠ t := fun k hk => by
  have := Kd.R_base hr5 k hk
  have := blk_lt hb3
  omega
 have hr6 : BytR w3.heap.size 5 (w5.setCell ⟨t, 0, none⟩ (.slice A5 zs.length c5)) (.slice A5 zs.length c5) zs := BytR.tur hr5 ((Tur.refl w5 (fun k => k = t)).setCell (p := ⟨t, 0, none⟩) (S := fun k => k = t) (.inl rfl) _) hne5
 clear hb5 hr5 hk5 c0 f0
 go_upto_region 5 with (fail)
 generalize w5.setCell ⟨t, 0, none⟩ (.slice A5 zs.length c5) = w6 at hb6 hk6 hr6 ⊢
 have c0 := blk_cell hb6 0
 have f1 := blk_frozen hb6 1
 have f2 := blk_frozen hb6 2
 have f3 := blk_frozen hb6 3
 have c1 := blk_cell hb6 1
 have c2 := blk_cell hb6 2
 have c3 := blk_cell hb6 3
 have hb9 := blk_put (blk_put (blk_put hb6 1 (.int .i64 (zs.length : Int)) rfl) 2 (.int .i64 (-1)) rfl) 3 (.bool false) rfl
 have hkk : Tur w6 (((w6.setCell ⟨t, 1, none⟩ (.int .i64 (zs.length : Int))).setCell ⟨t, 2, none⟩ (.int .i64 (-1))).setCell ⟨t, 3, none⟩ (.bool false)) (fun k => k = t) := (((Tur.refl w6 (fun k => k = t)).setCell (p := ⟨t, 1, none⟩) (S := fun k => k = t) (.inl rfl) _).setCell (p := ⟨t, 2, none⟩) (S := fun k => k = t) (.inl rfl) _).setCell (p := ⟨t, 3, none⟩) (S := fun k => k = t) (.inl rfl) _
 have hr9 := BytR.tur hr6 hkk hne5
 have hk9 := hk6.then_ hkk (fun k h => .inl h)
 go_wp2_with fail
 go_end0
 exact ⟨rfl, hk9, _, ⟨hb9, Kd.R_lower hr9 hB2, hge⟩, fun k hk => Nat.le_trans hk3.kept.1 (Kd.R_base hr9 k hk)⟩
theorem rcrash_says (base t : Nat) (v : Value) (T : TapeS) (keep : Int) (w : World) (h : RTpAt w base t v T) (hk : -9223372036854775808 ≤ keep ∧ keep < 9223372036854775808) (hs : 0 ≤ T.sure ∧ T.sure ≤ T.b.length) (hl : T.b.length ≤ 1000000000) (hbase : base ≤ w.heap.size) :
  Calls Tryz.prog 23 #[.pointer (some ⟨t, 0, none⟩), .int .i64 keep] w fun e w' =>
   e = .returned (.tuple #[]) ∧ Tur w w' (fun k => k = t) ∧ ∃ v', RTpAt w' base t v' (T.crash keep) ∧ ∀ k, v'.ownBlock = some k → w.heap.size ≤ k := by
 obtain ⟨Av, cv, ev⟩ := Kd.R_slice h.row
 subst ev
 have hr := keepL_range T.b.length T.sure keep hs
 obtain ⟨m, hm⟩ : ∃ m : Nat, keepL T.b.length T.sure keep = (m : Int) := ⟨(keepL T.b.length T.sure keep).toNat, by omega⟩
 have hkl : keepL T.b.length T.sure keep = T.sure + min (max keep 0) ((T.b.length : Int) - T.sure) := rfl
 obtain ⟨Ad, cd, hcut, hCd⟩ := take_row_all (w0 := w) (S := fun k => k = t) (A := Av) (l := T.b) (c := cv) (fun W' hT => (Kd.R_reads' (h.row.tur hT h.ne)).2.2) (Kd.R_reads' h.row).2.1 m (by omega)
 have hzl : (T.b.take m).length = m := by rw [List.length_take]; omega
 have hcr : T.crash keep = ⟨T.b.take m, ((T.b.take m).length : Int), -1, false⟩ := by unfold TapeS.crash; rw [hm, Int.toNat_natCast, hzl]
 rw [hcr]
 have hcut' : ∀ W, Sem.run Tryz.prog (Instr.slice 40 (.slice Av T.b.length cv) none (some (.int .i64 ((T.b.take m).length : Int))) none) W = .ok (.slice Ad (T.b.take m).length cd) W := by rw [hzl]; exact hcut
 have hCd' : ∀ {w2 : World}, Tur w w2 (fun k => k = t) → Kd.C (Kd.int .u8) w2 Ad (T.b.take m).length (T.b.take m) := fun hT => by rw [hzl]; exact hCd _ hT
 have hC0 := hCd' (Tur.refl w _)
 have hb := (Kd.R_reads' h.row).2.2
 by_cases h1 : keep < 0
 ·
  exact rcrash_neg_all base t T keep w hk hs hl hbase h.ge Av cv h.blk hb Ad cd _ hcut' hC0 (by omega) (fun hT _ => hCd' hT) h1 (by rw [hzl]; omega)
 ·
  by_cases h2 : (T.b.length : Int) - T.sure < keep
  ·
   exact rcrash_pos_cut base t T keep w hk hs hl hbase h.ge Av cv h.blk hb Ad cd _ hcut' hC0 (by omega) (fun hT _ => hCd' hT) (by omega) h2 (by rw [hzl]; omega)
  ·
   exact rcrash_pos_all base t T keep w hk hs hl hbase h.ge Av cv h.blk hb Ad cd _ hcut' hC0 (by omega) (fun hT _ => hCd' hT) (by omega) (by omega) (by rw [hzl]; omega)
end Go.Proofs.YtpoblffgclmmlaaGreatDoor.X
end
section
set_option linter.unusedVariables false
set_option linter.unusedSimpArgs false
namespace Go.Proofs.YtpoblffgclmmlaaGreatDoor.X
open Go.RowKit Go.WideMaps Go.Maps Go.Proofs.YtpoblffgclmmlaaGreatDoorW.PrintWords Go.Proofs.YtpoblffgclmmlaaGreatDoorW.PrintLast Go.Proofs.YtpoblffgclmmlaaGreatDoorW.PrintMore Go.Proofs.YtpoblffgclmmlaaGreatDoor.Q

set_option maxHeartbeats 8000000 in
set_option maxRecDepth 100000 in
theorem rsync_says (base t : Nat) (v : Value) (T : TapeS) (w : World) (h : RTpAt w base t v T) (hf : -1 ≤ T.fuse ∧ T.fuse < 9223372036854775808) :
  Calls Tryz.prog 96 #[.pointer (some ⟨t, 0, none⟩)] w fun e w' =>
   e = .returned (.int .i64 T.sync.2) ∧ Tur w w' (fun k => k = t) ∧ RTpAt w' base t v T.sync.1 := by
 obtain ⟨d, o, f, g, hB⟩ : ∃ d o f g, burnL 1 T.fuse T.down true = ((d, o), (f, g)) := ⟨_, _, _, _, rfl⟩
 have hu := burn_ref _ _ _ (by omega) hB
 have hsy : T.sync = (⟨T.b, if o = true then (T.b.length : Int) else T.sure, f, g⟩, codeL o) := by unfold TapeS.sync; rw [hB]
 rw [hsy]
 have hle := left_says t v T.sure T.fuse 1 T.down w h.blk
 have hus := use_says t v T.sure T.fuse (leftL 1 T.fuse T.down) 1 T.down w h.blk (by omega) hf
 rw [hu] at hus
 simp only at hus
 generalize leftL 1 T.fuse T.down = lf at hle hus
 have hrow := h.row
 have hge := h.ge
 have hne := h.ne
 obtain ⟨Av, cv, ev⟩ := Kd.R_slice h.row
 subst ev
 clear hB hu hsy h
 go_enter Tryz.func96, Tryz.ntmps96
 go_wp2_with fail
 refine hle.mono ?_
 rintro e w1 ⟨rfl, hw1⟩
 have hw1 := hw1.symm
 subst hw1
 go_wp2_with fail
 refine hus.mono ?_
 rintro e w2 ⟨rfl, hk2, hb2⟩
 clear hle hus
 have hr2 := hrow.tur hk2 hne
 cases o with
 | false =>
  have q : decide (codeL false = 0) = false := by decide
  have q1 : (codeL false == 0) = false := by decide
  have q2 : codeL false = 8 := rfl
  rw [q2] at q q1 ⊢
  simp only [Bool.false_eq_true, if_false]
  go_wp2_with fail
  go_ret
  exact ⟨rfl, hk2, ⟨hb2, hr2, hge⟩⟩
 | true =>
  have q2 : codeL true = 0 := rfl
  rw [q2]
  simp only [if_true]
  have c0 := blk_cell hb2 0
  have c1 := blk_cell hb2 1
  have f1 := blk_frozen hb2 1
  have hb3 := blk_put hb2 1 (.int .i64 (T.b.length : Int)) rfl
  have hk3 : Tur w (w2.setCell ⟨t, 1, none⟩ (.int .i64 (T.b.length : Int))) (fun k => k = t) := hk2.setCell (p := ⟨t, 1, none⟩) (S := fun k => k = t) (.inl rfl) _
  have hr3 := BytR.tur hr2 ((Tur.refl w2 (fun k => k = t)).setCell (p := ⟨t, 1, none⟩) (S := fun k => k = t) (.inl rfl) (.int .i64 (T.b.length : Int))) hne
  go_wp2_with fail
  go_ret
  exact ⟨rfl, hk3, ⟨hb3, hr3, hge⟩⟩
/-- All rows as changes. -/
theorem all_ev (rows : List S82) (hl : rows.length ≤ 1000000) : ∀ (d i : Nat) (out : List S69), i + d = rows.length → out.length ≤ i →
  ∃ k, exequaturref10_Rows_All.l0 k rows out (i : Int) = some (out ++ allR (rows.drop i)) := by
 intro d
 induction d with
 | zero =>
  intro i out hi ho
  refine ⟨1, ?_⟩
  simp only [exequaturref10_Rows_All.l0]
  rw [if_neg (by omega), List.drop_of_length_le (by omega)]
  simp [allR]
 | succ d ih =>
  intro i out hi ho
  have hd := drop_cons rows i (by omega) z82
  have ra : rd_T82 rows (i : Int) = rows.getD i z82 := by unfold rd_T82; rw [Int.toNat_natCast]
  have hw : wrap64 ((i : Int) + 1) = ((i + 1 : Nat) : Int) := by rw [w64 (by omega) (by omega)]; rfl
  obtain ⟨k, hk⟩ := ih (i + 1) (out ++ [⟨(rows.getD i z82).f0, (rows.getD i z82).f1, false⟩]) (by omega) (by simp; omega)
  refine ⟨k + 1, ?_⟩
  simp only [exequaturref10_Rows_All.l0]
  rw [if_pos (by omega), if_pos (by omega), if_pos (by omega), ra, hw, hk, hd]
  simp [allR]
theorem rall_says (A : Option Addr) (c : Nat) (rows : List S82) (w : World) (hC : Kd.C k82 w A rows.length rows) (hc : rows.length ≤ c) (hl : rows.length ≤ 1000000) :
  Calls Tryz.prog 93 #[.slice A rows.length c] w fun e w' => ∃ v, e = .returned v ∧ Kd.R k69 69 w' w.heap.size (fun _ => True) v (allR rows) ∧ Below w.heap.size w w' := by
 obtain ⟨k, hk⟩ := all_ev rows hl rows.length 0 [] (by omega) (by simp)
 rw [List.nil_append, List.drop_zero] at hk
 exact exequaturref10_Rows_All.calls k A c rows _ w hC hc hk
theorem rframe_says (A : Option Addr) (c : Nat) (l : List Int) (w : World) (hC : Kd.C (Kd.int .u8) w A l.length l) (hc : l.length ≤ c) (hl : l.length ≤ 100000000) :
  Calls Tryz.prog 94 #[.slice A l.length c] w fun e w' => ∃ v, e = .returned v ∧ BytR w.heap.size 5 w' v (frameL l) ∧ Below w.heap.size w w' :=
 exequaturref10_Frame.calls A c l _ w hC hc (rframe_is l hl)
end Go.Proofs.YtpoblffgclmmlaaGreatDoor.X
end
section
set_option linter.unusedVariables false
set_option linter.unusedSimpArgs false
namespace Go.Proofs.YtpoblffgclmmlaaGreatDoor.X
open Go.RowKit Go.WideMaps Go.Maps Go.Proofs.YtpoblffgclmmlaaGreatDoorW.PrintWords Go.Proofs.YtpoblffgclmmlaaGreatDoorW.PrintLast Go.Proofs.YtpoblffgclmmlaaGreatDoorW.PrintMore Go.Proofs.YtpoblffgclmmlaaGreatDoor.Q

theorem RStAt.below {W W' : World} {b s t : Nat} {vr : Value} {r : List S82} (h : RStAt W b s t vr r) (hb : Below W.heap.size W W') : RStAt W' b s t vr r := ⟨blk_below h.blk hb, h.rows.below hb⟩
theorem RStAt.tur {W W' : World} {b s t : Nat} {vr : Value} {r : List S82} {S : Nat → Prop} (h : RStAt W b s t vr r) (hk : Tur W W' S) (hs : ¬ S s) (hv : ∀ k, vr.ownBlock = some k → ¬ S k) : RStAt W' b s t vr r := ⟨blk_kept h.blk hk.kept hs, rows_tur h.rows hk hv⟩
theorem RStAt.row_ne {W : World} {b s t g : Nat} {vr : Value} {r : List S82} {cs : Array Value} {ty : Nat} (h : RStAt W b s t vr r) (hg : W.heap[g]? = some (.cells cs ty (0, 0))) (hne : ty ≠ 82) : ∀ k, vr.ownBlock = some k → k ≠ g := fun k hk => by
 obtain ⟨cells, hc⟩ := Kd.R_typed h.rows k hk
 exact blk_ne hc hg (fun e => hne e.symm)
theorem burn_fuse {n fuse d f : Int} {down whole o g : Bool} (hn : 0 ≤ n) (hf : -1 ≤ fuse ∧ fuse < 9223372036854775808) (hB : burnL n fuse down whole = ((d, o), (f, g))) : -1 ≤ f ∧ f < 9223372036854775808 := by
 unfold burnL at hB
 split at hB
 ·
  simp only [Prod.mk.injEq] at hB; omega
 ·
  split at hB
  ·
   simp only [Prod.mk.injEq] at hB
   obtain ⟨_, h, _⟩ := hB
   split at h <;> omega
  ·
   simp only [Prod.mk.injEq] at hB; omega
set_option maxHeartbeats 16000000 in
set_option maxRecDepth 100000 in
theorem rdo_append (base s t : Nat) (v vr : Value) (T : TapeS) (r : List S82) (A : Option Addr) (c : Nat) (l : List S69) (w : World) (hT : RTpAt w base t v T) (hS : RStAt w base s t vr r) (hf : -1 ≤ T.fuse ∧ T.fuse < 9223372036854775808) (hC : Kd.C k69 w A l.length l) (hc : l.length ≤ c)
  (hr : Ris r) (hrl : r.length + l.length ≤ 1000000) (hbl : T.b.length ≤ 1000000) (hbase : base ≤ w.heap.size) (h0 : l.length ≠ 0) (h1 : (recL l).length ≤ 32768) (h2 : (frameL (recL l)).length + T.b.length ≤ 65536) :
  Calls Tryz.prog 26 #[.pointer (some ⟨s, 0, none⟩), .slice A l.length c] w fun e w' =>
   e = .returned (.int .i64 (T.append (frameL (recL l))).2) ∧ Tur w w' (fun k => k = t ∨ k = s) ∧ ∃ v' vr', RTpAt w' base t v' (T.append (frameL (recL l))).1 ∧ RStAt w' base s t vr' (if (T.append (frameL (recL l))).2 = 0 then turnR r l else r) ∧ Rowd v v' w.heap.size := by
 have hst : s ≠ t := blk_ne hS.blk hT.blk (by decide)
 have hfl := frameL_len (recL l)
 have hrec := Record_says A c l w hC hc (by omega)
 obtain ⟨Ar, cr, evr, hcr, hCr⟩ := hS.rows.slice
 subst evr
 have htu := fun w' (hb : Below w.heap.size w w') => Turn_says Ar A cr c r l w' (Kd.C_below hCr hb) (Kd.C_below hC hb) hcr hc (by omega) hr
 obtain ⟨Av, cv, ev⟩ := Kd.R_slice hT.row
 subst ev
 obtain ⟨vr, hvr⟩ : ∃ vr, vr = Value.slice Ar r.length cr := ⟨_, rfl⟩
 obtain ⟨v, hv⟩ : ∃ v, v = Value.slice Av T.b.length cv := ⟨_, rfl⟩
 have d0 : ((l.length : Int) == 0) = false := beq_eq_false_iff_ne.2 (by omega)
 have d0' : decide ((l.length : Int) = 0) = false := decide_eq_false (by omega)
 have d0n : (l.length == 0) = false := beq_eq_false_iff_ne.2 h0
 have d1 : decide ((32768 : Int) < ((recL l).length : Int)) = false := decide_eq_false (by omega)
 have d1n : decide (32768 < (recL l).length) = false := decide_eq_false (by omega)
 have e1 : IntKind.i64.wrap ((T.b.length : Int) + ((recL l).length : Int)) = (T.b.length : Int) + ((recL l).length : Int) := IntWalk.i64_in _ (by omega)
 have e2 : IntKind.i64.wrap ((T.b.length : Int) + ((recL l).length : Int) + 8) = (T.b.length : Int) + ((recL l).length : Int) + 8 := IntWalk.i64_in _ (by omega)
 have d2 : decide ((65536 : Int) < (T.b.length : Int) + ((recL l).length : Int) + 8) = false := decide_eq_false (by omega)
 have hRl : (recL l).length ≤ 100000000 := by omega
 have hFl : T.b.length + (frameL (recL l)).length ≤ 100000000 := by omega
 obtain ⟨d, o, f, g, hB⟩ : ∃ d o f g, burnL ((frameL (recL l)).length : Int) T.fuse T.down false = ((d, o), (f, g)) := ⟨_, _, _, _, rfl⟩
 have hf1 : -1 ≤ (⟨T.b ++ (frameL (recL l)).take d.toNat, T.sure, f, g⟩ : TapeS).fuse ∧ (⟨T.b ++ (frameL (recL l)).take d.toNat, T.sure, f, g⟩ : TapeS).fuse < 9223372036854775808 := burn_fuse (by omega) hf hB
 have hwr : T.write (frameL (recL l)) = (⟨T.b ++ (frameL (recL l)).take d.toNat, T.sure, f, g⟩, codeL o) := by unfold TapeS.write; rw [hB]
 have hap : T.append (frameL (recL l)) = if codeL o = 0 then (⟨T.b ++ (frameL (recL l)).take d.toNat, T.sure, f, g⟩ : TapeS).sync else (⟨T.b ++ (frameL (recL l)).take d.toNat, T.sure, f, g⟩, codeL o) := by unfold TapeS.append; rw [hwr]
 rw [hap]
 obtain ⟨TF, E, hTE⟩ : ∃ TF E, (if codeL o = 0 then (⟨T.b ++ (frameL (recL l)).take d.toNat, T.sure, f, g⟩ : TapeS).sync else (⟨T.b ++ (frameL (recL l)).take d.toNat, T.sure, f, g⟩, codeL o)) = (TF, E) := ⟨_, _, rfl⟩
 simp only [hTE]
 obtain ⟨rr, hrr⟩ : ∃ rr, rr = if E = 0 then turnR r l else r := ⟨_, rfl⟩
 simp only [← hrr]
 clear hap
 generalize (⟨T.b ++ (frameL (recL l)).take d.toNat, T.sure, f, g⟩ : TapeS) = T1 at *
 have HTE := Lib.hid hTE
 have HRR := Lib.hid hrr
 clear hTE hrr
 go_enter Tryz.func26, Tryz.ntmps26
 go_wp2_with fail
 refine hrec.mono ?_
 rintro e w1 ⟨v1, rfl, hr1, hb1⟩
 obtain ⟨A1, q1, e1'⟩ := Kd.R_slice hr1
 subst e1'
 have hd1 := Kd.R_reads' hr1
 have hS1 := hS.below hb1
 have hT1 := hT.below hb1
 have c1 : w1.cell? ⟨s, 1, none⟩ = some (.slice Ar r.length cr) := (blk_cell hS1.blk 1).trans rfl
 go_wp2_with fail
 refine (htu w1 hb1).mono ?_
 rintro e w2 ⟨v2, rfl, hr2, hb2⟩
 clear htu hrec c1
 have hB := below_then hb1 hb1.size hb2
 have hSn := hS1.below hb2
 have hTn := hT1.below hb2
 have c0 : w2.cell? ⟨s, 0, none⟩ = some (.pointer (some ⟨t, 0, none⟩)) := (blk_cell hSn.blk 0).trans rfl
 have c1 : w2.cell? ⟨t, 0, none⟩ = some (.slice Av T.b.length cv) := (blk_cell hTn.blk 0).trans rfl
 have hC12 := Kd.C_below hd1.2.2 hb2
 go_upto_region 13 with (fail)
 have hBw := below_drew hB
 have hbw2 := below_drew (Below.refl w2.heap.size w2)
 have hSw := hSn.below (below_drew (Below.refl _ w2))
 have hTw := hTn.below (below_drew (Below.refl _ w2))
 have hCw : Kd.C (Kd.int .u8) w2.drew A1 (recL l).length (recL l) := Kd.C_drew hC12
 refine start_ (n := 8) (S := fun w' => w'.cell? ⟨s, 0, none⟩ = some (.pointer (some ⟨t, 0, none⟩))) (ds := [6]) #[false, false, false, false, false, false, false, false] (by kernel_rfl) rfl rfl ((blk_cell hSw.blk 0).trans rfl) (fun hHeld => ?_)
 generalize w2.drew = w3 at hBw hbw2 hSw hTw hCw hHeld ⊢
 refine pure_ (i := 0) (N := some 49) (v := ?_) (a' := ?_) #[true, false, false, false, false, false, false, false] rfl rfl (by kernel_rfl) (fun _ _ _ h => h) (Or.inl ⟨by rfl, ?_⟩) ?_ ?_
 rotate_left
 ·
  intro w'
  go_simp
  with_reducible rfl
 rotate_left
 ·
  simp only [Act.put, List.setIfInBounds_toArray, List.set_cons_zero, List.set_cons_succ, i64_w, i32_w]
  rfl
 refine pure_ (i := 1) (N := some 50) (v := ?_) (a' := ?_) #[true, true, false, false, false, false, false, false] rfl rfl (by kernel_rfl) (fun _ _ _ h => h) (Or.inl ⟨by rfl, ?_⟩) ?_ ?_
 rotate_left
 ·
  intro w'
  go_simp
  with_reducible rfl
 rotate_left
 ·
  simp only [Act.put, List.setIfInBounds_toArray, List.set_cons_zero, List.set_cons_succ, i64_w, i32_w]
  rfl
 refine pure_ (i := 2) (N := some 51) (v := ?_) (a' := ?_) #[true, true, true, false, false, false, false, false] rfl rfl (by kernel_rfl) (fun _ _ _ h => h) (Or.inl ⟨by rfl, ?_⟩) ?_ ?_
 rotate_left
 ·
  intro w'
  go_simp
  with_reducible rfl
 rotate_left
 ·
  simp only [Act.put, List.setIfInBounds_toArray, List.set_cons_zero, List.set_cons_succ, i64_w, i32_w]
  rfl
 refine pure_ (i := 4) (N := some 53) (v := ?_) (a' := ?_) #[true, true, true, false, true, false, false, false] rfl rfl (by kernel_rfl) (fun _ _ _ h => h) (Or.inl ⟨by rfl, ?_⟩) ?_ ?_
 rotate_left
 ·
  intro w'
  go_simp
  with_reducible rfl
 rotate_left
 ·
  simp only [Act.put, List.setIfInBounds_toArray, List.set_cons_zero, List.set_cons_succ, i64_w, i32_w]
  rfl
 refine take_ (i := 3) (N := some 52) (v := ?_) (a' := ?_) #[true, true, true, true, true, false, false, false] rfl rfl (by kernel_rfl) (fun _ _ _ h => h) (Or.inl ⟨by rfl, ?_⟩) hHeld ?_ ?_
 rotate_left
 ·
  intro w' s0
  go_simp
  with_reducible rfl
 rotate_left
 ·
  simp only [Act.put, List.setIfInBounds_toArray, List.set_cons_zero, List.set_cons_succ, i64_w, i32_w]
  rfl
 refine one_ (i := 5) (N := some 54) #[true, true, true, true, true, true, false, false] rfl rfl (by kernel_rfl) (by decide) (fun K hK => ?_)
 refine goes_ Tryz.func94 (by kernel_rfl) rfl #[.slice A1 (recL l).length q1] (by rfl) rfl rfl (by simp only [List.map_toArray, List.map_cons, List.map_nil]; rfl) ?_
 with_reducible refine (rframe_says A1 q1 (recL l) w3 hCw hd1.2.1 hRl).mono ?_
 rintro e wf ⟨vf, rfl, hrf, hbf⟩
 obtain ⟨Af, cf, ef⟩ := Kd.R_slice hrf
 subst ef
 have hdf := Kd.R_reads' hrf
 have hBf := below_then hBw hBw.size hbf
 have hb2f := below_then hbw2 hbw2.size hbf
 have hSf := hSw.below hbf
 have hTf := hTw.below hbf
 refine ⟨_, rfl, ?_⟩
 refine hK.out _ _ ((blk_cell hSf.blk 0).trans rfl) (fun hHeld => ?_)
 clear hK K
 refine norm_ (a' := ?_) ?_ ?_
 rotate_left
 ·
  show Act.put _ (some 54) _ = _
  simp only [Act.put, List.setIfInBounds_toArray, List.set_cons_zero, List.set_cons_succ, i64_w, i32_w]
  rfl
 refine last_ (i := 6) (N := some 55) #[true, true, true, true, true, true, true, false] rfl rfl (by kernel_rfl) (by decide) (fun K hK => ?_)
 have hwrite := rwrite_says base t (.slice Av T.b.length cv) T (frameL (recL l)) Af cf wf hTf hf hdf.2.2 hdf.2.1 hFl (Nat.le_trans hbase hBf.size)
 rw [hwr] at hwrite
 simp only at hwrite
 refine goes_ Tryz.func95 (by kernel_rfl) rfl #[.pointer (some ⟨t, 0, none⟩), .slice Af (frameL (recL l)).length cf] (by rfl) rfl rfl (by simp only [List.map_toArray, List.map_cons, List.map_nil]; rfl) ?_
 with_reducible refine (hwrite).mono ?_
 rintro e w5 ⟨rfl, hk5, v5, hT5, hn5⟩
 refine ⟨_, rfl, ?_⟩
 refine hK.out _ _ ?_
 clear hK K
 refine norm_ (a' := ?_) ?_ ?_
 rotate_left
 ·
  show Act.put _ (some 55) _ = _
  simp only [Act.put, List.setIfInBounds_toArray, List.set_cons_zero, List.set_cons_succ, i64_w, i32_w]
  rfl
 refine pure_ (i := 7) (N := some 7) (v := ?_) (a' := ?_) #[true, true, true, true, true, true, true, true] rfl rfl (by kernel_rfl) (fun _ _ _ h => h) (Or.inl ⟨by rfl, ?_⟩) ?_ ?_
 rotate_left
 ·
  intro w'
  go_simp
  with_reducible rfl
 rotate_left
 ·
  simp only [Act.put, List.setIfInBounds_toArray, List.set_cons_zero, List.set_cons_succ, i64_w, i32_w]
  rfl
 refine done_ (by kernel_rfl) ?_
 have hS5 := hSf.tur hk5 hst (fun k hk => hSf.row_ne hTf.blk (by decide) k hk)
 have hro : Rowd (.slice Av T.b.length cv) v5 w.heap.size := fun k hk => .inr (Nat.le_trans hBf.size (hn5 k hk))
 have hk05 : Tur w w5 (fun k => k = t ∨ k = s) := (Tur.of_below hBf _).then_ hk5 (fun k h => .inl (.inl h))
 obtain ⟨A2, q2, e2'⟩ := Kd.R_slice hr2
 subst e2'
 have hRf : RowsAt w1.heap.size wf (.slice A2 (turnR r l).length q2) (turnR r l) := RowsAt.below hr2 hb2f
 have hnt : ∀ k, (Value.slice A2 (turnR r l).length q2).ownBlock = some k → k ≠ t ∧ k ≠ s := fun k hk => by
  have h1 := Kd.R_base hr2 k hk
  have h2 := blk_lt hT.blk
  have h3 := blk_lt hS.blk
  have h4 := hb1.size
  omega
 have hR5 := rows_tur hRf hk5 (fun k hk => (hnt k hk).1)
 have hb01 : base ≤ w1.heap.size := Nat.le_trans hbase hb1.size
 cases o with
 | false =>
  have h9 := HTE.out
  rw [if_neg (show ¬ codeL false = 0 by decide)] at h9
  obtain ⟨rfl, rfl⟩ := Prod.mk.inj h9
  have h8 := HRR.out
  rw [if_neg (show ¬ codeL false = 0 by decide)] at h8
  subst h8
  have q3 : decide (codeL false = 0) = false := by decide
  have q4 : codeL false = 8 := rfl
  rw [q4] at q3 ⊢
  clear HTE HRR h9
  go_wp2_with fail
  go_ret
  first | exact ⟨rfl, hk05, _, _, hT5, hS5, hro⟩ | exact ⟨rfl, hk05, _, hT5, ⟨_, hS5⟩, hro⟩ | exact ⟨rfl, hk05, _, ⟨_, hS5⟩, hT5, hro⟩ | exact ⟨rfl, hk05, ⟨_, hT5, hro⟩, _, hS5⟩ | exact ⟨rfl, hk05, ⟨_, hS5⟩, _, hT5, hro⟩
 | true =>
  have q4 : codeL true = 0 := rfl
  have hXY := HTE.out
  rw [if_pos (show codeL true = 0 from rfl)] at hXY
  rw [q4]
  have hsyn := rsync_says base t v5 T1 w5 hT5 hf1
  have hcode : T1.sync.2 = 0 ∨ T1.sync.2 = 8 := by
   unfold TapeS.sync codeL
   simp only
   split
   ·
    exact .inl rfl
   ·
    exact .inr rfl
  rw [hXY] at hsyn hcode
  simp only at hsyn hcode
  have c2 : w5.cell? ⟨s, 0, none⟩ = some (.pointer (some ⟨t, 0, none⟩)) := (blk_cell hS5.blk 0).trans rfl
  clear hXY HTE
  rcases hcode with hy | hy
  ·
   subst hy
   have h8 := HRR.out
   rw [if_pos rfl] at h8
   subst h8
   clear HRR
   go_wp2_with fail
   refine hsyn.mono ?_
   rintro e w6 ⟨rfl, hk6, hT6⟩
   have hS6 := hS5.tur hk6 hst (fun k hk => hS5.row_ne hT5.blk (by decide) k hk)
   have hR6 := rows_tur hR5 hk6 (fun k hk => (hnt k hk).1)
   have f1 := blk_frozen hS6.blk 1
   have c3 := blk_cell hS6.blk 1
   have hb7 := blk_put hS6.blk 1 (.slice A2 (turnR r l).length q2) rfl
   have hk7 : Tur w (w6.setCell ⟨s, 1, none⟩ (.slice A2 (turnR r l).length q2)) (fun k => k = t ∨ k = s) := (hk05.then_ hk6 (fun k h => .inl (.inl h))).setCell (p := ⟨s, 1, none⟩) (S := fun k => k = t ∨ k = s) (.inl (.inr rfl)) _
   have hks : Tur w6 (w6.setCell ⟨s, 1, none⟩ (.slice A2 (turnR r l).length q2)) (fun k => k = s) := (Tur.refl w6 _).setCell (p := ⟨s, 1, none⟩) (S := fun k => k = s) (.inl rfl) _
   have hT7 := hT6.kept hks (fun h => hst h.symm) (fun k hk e => by
    subst e
    obtain ⟨cells, hcc⟩ := Kd.R_typed hT6.row k hk
    rw [hS6.blk] at hcc
    simp at hcc)
   have hR7 := rows_tur hR6 hks (fun k hk => (hnt k hk).2)
   go_wp2_with fail
   go_ret
   first | exact ⟨rfl, hk7, _, _, hT7, ⟨hb7, Kd.R_lower hR7 hb01⟩, hro⟩ | exact ⟨rfl, hk7, _, hT7, ⟨_, ⟨hb7, Kd.R_lower hR7 hb01⟩⟩, hro⟩ | exact ⟨rfl, hk7, _, ⟨_, ⟨hb7, Kd.R_lower hR7 hb01⟩⟩, hT7, hro⟩ | exact ⟨rfl, hk7, ⟨_, hT7, hro⟩, _, ⟨hb7, Kd.R_lower hR7 hb01⟩⟩ | exact ⟨rfl, hk7, ⟨_, ⟨hb7, Kd.R_lower hR7 hb01⟩⟩, _, hT7, hro⟩
  ·
   subst hy
   have h8 := HRR.out
   rw [if_neg (by decide)] at h8
   subst h8
   clear HRR
   go_wp2_with fail
   refine hsyn.mono ?_
   rintro e w6 ⟨rfl, hk6, hT6⟩
   have hS6 := hS5.tur hk6 hst (fun k hk => hS5.row_ne hT5.blk (by decide) k hk)
   go_wp2_with fail
   go_ret
   first | exact ⟨rfl, hk05.then_ hk6 (fun k h => .inl (.inl h)), _, _, hT6, hS6, hro⟩ | exact ⟨rfl, hk05.then_ hk6 (fun k h => .inl (.inl h)), _, hT6, ⟨_, hS6⟩, hro⟩ | exact ⟨rfl, hk05.then_ hk6 (fun k h => .inl (.inl h)), _, ⟨_, hS6⟩, hT6, hro⟩ | exact ⟨rfl, hk05.then_ hk6 (fun k h => .inl (.inl h)), ⟨_, hT6, hro⟩, _, hS6⟩ | exact ⟨rfl, hk05.then_ hk6 (fun k h => .inl (.inl h)), ⟨_, hS6⟩, _, hT6, hro⟩
set_option maxHeartbeats 16000000 in
set_option maxRecDepth 100000 in
theorem rdo_full (base s t : Nat) (v vr : Value) (T : TapeS) (r : List S82) (A : Option Addr) (c : Nat) (l : List S69) (w : World) (hT : RTpAt w base t v T) (hS : RStAt w base s t vr r) (hf : -1 ≤ T.fuse ∧ T.fuse < 9223372036854775808) (hC : Kd.C k69 w A l.length l) (hc : l.length ≤ c)
  (hr : Ris r) (hrl : r.length + l.length ≤ 1000000) (hbl : T.b.length ≤ 1000000) (hbase : base ≤ w.heap.size) (h0 : l.length ≠ 0) (h1 : (recL l).length ≤ 32768) (h2 : 65536 < (frameL (recL l)).length + T.b.length) (hwl : (recL (allR (turnR r l))).length ≤ 100000000) (h3 : 32768 < (recL (allR (turnR r l))).length) :
  Calls Tryz.prog 26 #[.pointer (some ⟨s, 0, none⟩), .slice A l.length c] w fun e w' =>
   e = .returned (.int .i64 7) ∧ Below w.heap.size w w' := by
 have hst : s ≠ t := blk_ne hS.blk hT.blk (by decide)
 have hfl := frameL_len (recL l)
 have hrec := Record_says A c l w hC hc (by omega)
 obtain ⟨Ar, cr, evr, hcr, hCr⟩ := hS.rows.slice
 subst evr
 have htu := fun w' (hb : Below w.heap.size w w') => Turn_says Ar A cr c r l w' (Kd.C_below hCr hb) (Kd.C_below hC hb) hcr hc (by omega) hr
 obtain ⟨Av, cv, ev⟩ := Kd.R_slice hT.row
 subst ev
 obtain ⟨vr, hvr⟩ : ∃ vr, vr = Value.slice Ar r.length cr := ⟨_, rfl⟩
 obtain ⟨v, hv⟩ : ∃ v, v = Value.slice Av T.b.length cv := ⟨_, rfl⟩
 have d0 : ((l.length : Int) == 0) = false := beq_eq_false_iff_ne.2 (by omega)
 have d0' : decide ((l.length : Int) = 0) = false := decide_eq_false (by omega)
 have d0n : (l.length == 0) = false := beq_eq_false_iff_ne.2 h0
 have d1 : decide ((32768 : Int) < ((recL l).length : Int)) = false := decide_eq_false (by omega)
 have d1n : decide (32768 < (recL l).length) = false := decide_eq_false (by omega)
 have e1 : IntKind.i64.wrap ((T.b.length : Int) + ((recL l).length : Int)) = (T.b.length : Int) + ((recL l).length : Int) := IntWalk.i64_in _ (by omega)
 have e2 : IntKind.i64.wrap ((T.b.length : Int) + ((recL l).length : Int) + 8) = (T.b.length : Int) + ((recL l).length : Int) + 8 := IntWalk.i64_in _ (by omega)
 have d2 : decide ((65536 : Int) < (T.b.length : Int) + ((recL l).length : Int) + 8) = true := decide_eq_true (by omega)
 have hRl : (recL l).length ≤ 100000000 := by omega
 have d3 : decide ((32768 : Int) < ((recL (allR (turnR r l))).length : Int)) = true := decide_eq_true (by omega)
 have d3n : decide (32768 < (recL (allR (turnR r l))).length) = true := decide_eq_true h3
 go_enter Tryz.func26, Tryz.ntmps26
 go_wp2_with fail
 refine hrec.mono ?_
 rintro e w1 ⟨v1, rfl, hr1, hb1⟩
 obtain ⟨A1, q1, e1'⟩ := Kd.R_slice hr1
 subst e1'
 have hd1 := Kd.R_reads' hr1
 have hS1 := hS.below hb1
 have hT1 := hT.below hb1
 have c1 : w1.cell? ⟨s, 1, none⟩ = some (.slice Ar r.length cr) := (blk_cell hS1.blk 1).trans rfl
 go_wp2_with fail
 refine (htu w1 hb1).mono ?_
 rintro e w2 ⟨v2, rfl, hr2, hb2⟩
 clear htu hrec c1
 have hB := below_then hb1 hb1.size hb2
 have hSn := hS1.below hb2
 have hTn := hT1.below hb2
 have c0 : w2.cell? ⟨s, 0, none⟩ = some (.pointer (some ⟨t, 0, none⟩)) := (blk_cell hSn.blk 0).trans rfl
 have c1 : w2.cell? ⟨t, 0, none⟩ = some (.slice Av T.b.length cv) := (blk_cell hTn.blk 0).trans rfl
 have hC12 := Kd.C_below hd1.2.2 hb2
 obtain ⟨A2, q2, e2'⟩ := Kd.R_slice hr2
 subst e2'
 have hd2 := Kd.R_reads' hr2
 have htl := turnR_len r l hr
 go_wp2_with fail
 refine (rall_says A2 q2 (turnR r l) w2 hd2.2.2 hd2.2.1 (by omega)).mono ?_
 rintro e w3 ⟨v3, rfl, hr3, hb3⟩
 obtain ⟨A3, q3, e3'⟩ := Kd.R_slice hr3
 subst e3'
 have hd3 := Kd.R_reads' hr3
 clear c0 c1
 go_wp2_with fail
 refine (Record_says A3 q3 (allR (turnR r l)) w3 hd3.2.2 hd3.2.1 (by omega)).mono ?_
 rintro e w4 ⟨v4, rfl, hr4, hb4⟩
 obtain ⟨A4, q4, e4'⟩ := Kd.R_slice hr4
 subst e4'
 have hd4 := Kd.R_reads' hr4
 have hB4 := below_then (below_then hB hB.size hb3) (below_then hB hB.size hb3).size hb4
 have hS4 := (hSn.below hb3).below hb4
 have hT4 := (hTn.below hb3).below hb4
 go_wp2_with fail
 go_ret
 exact ⟨rfl, hB4⟩
set_option maxHeartbeats 16000000 in
set_option maxRecDepth 100000 in
theorem rdo_swap (base s t : Nat) (v vr : Value) (T : TapeS) (r : List S82) (A : Option Addr) (c : Nat) (l : List S69) (w : World) (hT : RTpAt w base t v T) (hS : RStAt w base s t vr r) (hf : -1 ≤ T.fuse ∧ T.fuse < 9223372036854775808) (hC : Kd.C k69 w A l.length l) (hc : l.length ≤ c)
  (hr : Ris r) (hrl : r.length + l.length ≤ 1000000) (hbl : T.b.length ≤ 1000000) (hbase : base ≤ w.heap.size) (h0 : l.length ≠ 0) (h1 : (recL l).length ≤ 32768) (h2 : 65536 < (frameL (recL l)).length + T.b.length) (h3 : (recL (allR (turnR r l))).length ≤ 32768) :
  Calls Tryz.prog 26 #[.pointer (some ⟨s, 0, none⟩), .slice A l.length c] w fun e w' =>
   e = .returned (.int .i64 (T.swap (frameL (recL (allR (turnR r l))))).2) ∧ Tur w w' (fun k => k = t ∨ k = s) ∧ ∃ v' vr', RTpAt w' base t v' (T.swap (frameL (recL (allR (turnR r l))))).1 ∧ RStAt w' base s t vr' (if (T.swap (frameL (recL (allR (turnR r l))))).2 = 0 then turnR r l else r) ∧ Rowd v v' w.heap.size := by
 have hst : s ≠ t := blk_ne hS.blk hT.blk (by decide)
 have hfl := frameL_len (recL l)
 have hrec := Record_says A c l w hC hc (by omega)
 obtain ⟨Ar, cr, evr, hcr, hCr⟩ := hS.rows.slice
 subst evr
 have htu := fun w' (hb : Below w.heap.size w w') => Turn_says Ar A cr c r l w' (Kd.C_below hCr hb) (Kd.C_below hC hb) hcr hc (by omega) hr
 obtain ⟨Av, cv, ev⟩ := Kd.R_slice hT.row
 subst ev
 obtain ⟨vr, hvr⟩ : ∃ vr, vr = Value.slice Ar r.length cr := ⟨_, rfl⟩
 obtain ⟨v, hv⟩ : ∃ v, v = Value.slice Av T.b.length cv := ⟨_, rfl⟩
 have d0 : ((l.length : Int) == 0) = false := beq_eq_false_iff_ne.2 (by omega)
 have d0' : decide ((l.length : Int) = 0) = false := decide_eq_false (by omega)
 have d0n : (l.length == 0) = false := beq_eq_false_iff_ne.2 h0
 have d1 : decide ((32768 : Int) < ((recL l).length : Int)) = false := decide_eq_false (by omega)
 have d1n : decide (32768 < (recL l).length) = false := decide_eq_false (by omega)
 have e1 : IntKind.i64.wrap ((T.b.length : Int) + ((recL l).length : Int)) = (T.b.length : Int) + ((recL l).length : Int) := IntWalk.i64_in _ (by omega)
 have e2 : IntKind.i64.wrap ((T.b.length : Int) + ((recL l).length : Int) + 8) = (T.b.length : Int) + ((recL l).length : Int) + 8 := IntWalk.i64_in _ (by omega)
 have d2 : decide ((65536 : Int) < (T.b.length : Int) + ((recL l).length : Int) + 8) = true := decide_eq_true (by omega)
 have hRl : (recL l).length ≤ 100000000 := by omega
 have hwl : (recL (allR (turnR r l))).length ≤ 100000000 := by omega
 have d3 : decide ((32768 : Int) < ((recL (allR (turnR r l))).length : Int)) = false := decide_eq_false (by omega)
 have d3n : decide (32768 < (recL (allR (turnR r l))).length) = false := decide_eq_false (by omega)
 have hfl2 := frameL_len (recL (allR (turnR r l)))
 have hcode : (T.swap (frameL (recL (allR (turnR r l))))).2 = 0 ∨ (T.swap (frameL (recL (allR (turnR r l))))).2 = 8 := by
  unfold TapeS.swap codeL
  simp only
  split
  ·
   exact .inl rfl
  ·
   exact .inr rfl
 obtain ⟨X, Y, hXY⟩ : ∃ X Y, T.swap (frameL (recL (allR (turnR r l)))) = (X, Y) := ⟨_, _, rfl⟩
 rw [hXY] at hcode ⊢
 simp only at hcode ⊢
 obtain ⟨rr, hrr⟩ : ∃ rr, rr = if Y = 0 then turnR r l else r := ⟨_, rfl⟩
 simp only [← hrr]
 have HRR := Lib.hid hrr
 clear hrr
 go_enter Tryz.func26, Tryz.ntmps26
 go_wp2_with fail
 refine hrec.mono ?_
 rintro e w1 ⟨v1, rfl, hr1, hb1⟩
 obtain ⟨A1, q1, e1'⟩ := Kd.R_slice hr1
 subst e1'
 have hd1 := Kd.R_reads' hr1
 have hS1 := hS.below hb1
 have hT1 := hT.below hb1
 have c1 : w1.cell? ⟨s, 1, none⟩ = some (.slice Ar r.length cr) := (blk_cell hS1.blk 1).trans rfl
 go_wp2_with fail
 refine (htu w1 hb1).mono ?_
 rintro e w2 ⟨v2, rfl, hr2, hb2⟩
 clear htu hrec c1
 have hB := below_then hb1 hb1.size hb2
 have hSn := hS1.below hb2
 have hTn := hT1.below hb2
 have c0 : w2.cell? ⟨s, 0, none⟩ = some (.pointer (some ⟨t, 0, none⟩)) := (blk_cell hSn.blk 0).trans rfl
 have c1 : w2.cell? ⟨t, 0, none⟩ = some (.slice Av T.b.length cv) := (blk_cell hTn.blk 0).trans rfl
 have hC12 := Kd.C_below hd1.2.2 hb2
 obtain ⟨A2, q2, e2'⟩ := Kd.R_slice hr2
 subst e2'
 have hd2 := Kd.R_reads' hr2
 have htl := turnR_len r l hr
 go_wp2_with fail
 refine (rall_says A2 q2 (turnR r l) w2 hd2.2.2 hd2.2.1 (by omega)).mono ?_
 rintro e w3 ⟨v3, rfl, hr3, hb3⟩
 obtain ⟨A3, q3, e3'⟩ := Kd.R_slice hr3
 subst e3'
 have hd3 := Kd.R_reads' hr3
 clear c0 c1
 go_wp2_with fail
 refine (Record_says A3 q3 (allR (turnR r l)) w3 hd3.2.2 hd3.2.1 (by omega)).mono ?_
 rintro e w4 ⟨v4, rfl, hr4, hb4⟩
 obtain ⟨A4, q4, e4'⟩ := Kd.R_slice hr4
 subst e4'
 have hd4 := Kd.R_reads' hr4
 have hB4 := below_then (below_then hB hB.size hb3) (below_then hB hB.size hb3).size hb4
 have hS4 := (hSn.below hb3).below hb4
 have hT4 := (hTn.below hb3).below hb4
 have hB := hB4
 have hSn := hS4
 have hTn := hT4
 have hnt : ∀ k, (Value.slice A2 (turnR r l).length q2).ownBlock = some k → k ≠ t ∧ k ≠ s := fun k hk => by
  have h1 := Kd.R_base hr2 k hk
  have h2 := blk_lt hT.blk
  have h3 := blk_lt hS.blk
  have h4 := hb1.size
  omega
 have hb01 : base ≤ w1.heap.size := Nat.le_trans hbase hb1.size
 have hR4 : RowsAt w1.heap.size w4 (.slice A2 (turnR r l).length q2) (turnR r l) := (RowsAt.below hr2 hb3).below hb4
 go_upto_region 12 with (fail)
 have hBw := below_drew hB
 have hbw2 := below_drew (Below.refl w4.heap.size w4)
 have hSw := hSn.below (below_drew (Below.refl _ w4))
 have hTw := hTn.below (below_drew (Below.refl _ w4))
 have hCw : Kd.C (Kd.int .u8) w4.drew A4 (recL (allR (turnR r l))).length (recL (allR (turnR r l))) := Kd.C_drew hd4.2.2
 refine start_ (n := 8) (S := fun w' => w'.cell? ⟨s, 0, none⟩ = some (.pointer (some ⟨t, 0, none⟩))) (ds := [6]) #[false, false, false, false, false, false, false, false] (by kernel_rfl) rfl rfl ((blk_cell hSw.blk 0).trans rfl) (fun hHeld => ?_)
 generalize w4.drew = w6 at hBw hbw2 hSw hTw hCw hHeld ⊢
 refine pure_ (i := 0) (N := some 42) (v := ?_) (a' := ?_) #[true, false, false, false, false, false, false, false] rfl rfl (by kernel_rfl) (fun _ _ _ h => h) (Or.inl ⟨by rfl, ?_⟩) ?_ ?_
 rotate_left
 ·
  intro w'
  go_simp
  with_reducible rfl
 rotate_left
 ·
  simp only [Act.put, List.setIfInBounds_toArray, List.set_cons_zero, List.set_cons_succ, i64_w, i32_w]
  rfl
 refine pure_ (i := 1) (N := some 43) (v := ?_) (a' := ?_) #[true, true, false, false, false, false, false, false] rfl rfl (by kernel_rfl) (fun _ _ _ h => h) (Or.inl ⟨by rfl, ?_⟩) ?_ ?_
 rotate_left
 ·
  intro w'
  go_simp
  with_reducible rfl
 rotate_left
 ·
  simp only [Act.put, List.setIfInBounds_toArray, List.set_cons_zero, List.set_cons_succ, i64_w, i32_w]
  rfl
 refine pure_ (i := 2) (N := some 44) (v := ?_) (a' := ?_) #[true, true, true, false, false, false, false, false] rfl rfl (by kernel_rfl) (fun _ _ _ h => h) (Or.inl ⟨by rfl, ?_⟩) ?_ ?_
 rotate_left
 ·
  intro w'
  go_simp
  with_reducible rfl
 rotate_left
 ·
  simp only [Act.put, List.setIfInBounds_toArray, List.set_cons_zero, List.set_cons_succ, i64_w, i32_w]
  rfl
 refine pure_ (i := 4) (N := some 46) (v := ?_) (a' := ?_) #[true, true, true, false, true, false, false, false] rfl rfl (by kernel_rfl) (fun _ _ _ h => h) (Or.inl ⟨by rfl, ?_⟩) ?_ ?_
 rotate_left
 ·
  intro w'
  go_simp
  with_reducible rfl
 rotate_left
 ·
  simp only [Act.put, List.setIfInBounds_toArray, List.set_cons_zero, List.set_cons_succ, i64_w, i32_w]
  rfl
 refine take_ (i := 3) (N := some 45) (v := ?_) (a' := ?_) #[true, true, true, true, true, false, false, false] rfl rfl (by kernel_rfl) (fun _ _ _ h => h) (Or.inl ⟨by rfl, ?_⟩) hHeld ?_ ?_
 rotate_left
 ·
  intro w' s0
  go_simp
  with_reducible rfl
 rotate_left
 ·
  simp only [Act.put, List.setIfInBounds_toArray, List.set_cons_zero, List.set_cons_succ, i64_w, i32_w]
  rfl
 refine one_ (i := 5) (N := some 47) #[true, true, true, true, true, true, false, false] rfl rfl (by kernel_rfl) (by decide) (fun K hK => ?_)
 refine goes_ Tryz.func94 (by kernel_rfl) rfl #[.slice A4 (recL (allR (turnR r l))).length q4] (by rfl) rfl rfl (by simp only [List.map_toArray, List.map_cons, List.map_nil]; rfl) ?_
 with_reducible refine (rframe_says A4 q4 (recL (allR (turnR r l))) w6 hCw hd4.2.1 hwl).mono ?_
 rintro e wf ⟨vf, rfl, hrf, hbf⟩
 obtain ⟨Af, cf, ef⟩ := Kd.R_slice hrf
 subst ef
 have hdf := Kd.R_reads' hrf
 have hBf := below_then hBw hBw.size hbf
 have hb2f := below_then hbw2 hbw2.size hbf
 have hSf := hSw.below hbf
 have hTf := hTw.below hbf
 refine ⟨_, rfl, ?_⟩
 refine hK.out _ _ ((blk_cell hSf.blk 0).trans rfl) (fun hHeld => ?_)
 clear hK K
 refine norm_ (a' := ?_) ?_ ?_
 rotate_left
 ·
  show Act.put _ (some 47) _ = _
  simp only [Act.put, List.setIfInBounds_toArray, List.set_cons_zero, List.set_cons_succ, i64_w, i32_w]
  rfl
 refine last_ (i := 6) (N := some 48) #[true, true, true, true, true, true, true, false] rfl rfl (by kernel_rfl) (by decide) (fun K hK => ?_)
 have hnf : ∀ k, (Value.slice Af (frameL (recL (allR (turnR r l)))).length cf).ownBlock = some k → k ≠ t := fun k hk => by
  have h1 := Kd.R_base hrf k hk
  have h2 := blk_lt hTw.blk
  omega
 have hwrite := rswap_says base t (.slice Av T.b.length cv) T (frameL (recL (allR (turnR r l)))) Af cf wf hTf hf (fun w9 h9 => (Kd.R_reads' (BytR.tur hrf h9 hnf)).2.2) (by omega) (Nat.le_trans hbase hBf.size)
 rw [hXY] at hwrite
 simp only at hwrite
 refine goes_ Tryz.func87 (by kernel_rfl) rfl #[.pointer (some ⟨t, 0, none⟩), .slice Af (frameL (recL (allR (turnR r l)))).length cf] (by rfl) rfl rfl (by simp only [List.map_toArray, List.map_cons, List.map_nil]; rfl) ?_
 with_reducible refine (hwrite).mono ?_
 rintro e w5 ⟨rfl, hk5, v5, hT5, hn5⟩
 refine ⟨_, rfl, ?_⟩
 refine hK.out _ _ ?_
 clear hK K
 refine norm_ (a' := ?_) ?_ ?_
 rotate_left
 ·
  show Act.put _ (some 48) _ = _
  simp only [Act.put, List.setIfInBounds_toArray, List.set_cons_zero, List.set_cons_succ, i64_w, i32_w]
  rfl
 refine pure_ (i := 7) (N := some 7) (v := ?_) (a' := ?_) #[true, true, true, true, true, true, true, true] rfl rfl (by kernel_rfl) (fun _ _ _ h => h) (Or.inl ⟨by rfl, ?_⟩) ?_ ?_
 rotate_left
 ·
  intro w'
  go_simp
  with_reducible rfl
 rotate_left
 ·
  simp only [Act.put, List.setIfInBounds_toArray, List.set_cons_zero, List.set_cons_succ, i64_w, i32_w]
  rfl
 refine done_ (by kernel_rfl) ?_
 have hS5 := hSf.tur hk5 hst (fun k hk => hSf.row_ne hTf.blk (by decide) k hk)
 have hro : Rowd (.slice Av T.b.length cv) v5 w.heap.size := fun k hk => by
  rcases hn5 with e5 | h5
  ·
   exact .inl (e5 ▸ hk)
  ·
   exact .inr (Nat.le_trans hBf.size (h5 k hk))
 have hk05 : Tur w w5 (fun k => k = t ∨ k = s) := (Tur.of_below hBf _).then_ hk5 (fun k h => .inl (.inl h))
 have hR5 := rows_tur (hR4.below hb2f) hk5 (fun k hk => (hnt k hk).1)
 rcases hcode with hy | hy
 ·
  subst hy
  have h8 := HRR.out
  rw [if_pos rfl] at h8
  subst h8
  clear HRR hXY
  have f1 := blk_frozen hS5.blk 1
  have c3 := blk_cell hS5.blk 1
  have hb7 := blk_put hS5.blk 1 (.slice A2 (turnR r l).length q2) rfl
  have hk7 : Tur w (w5.setCell ⟨s, 1, none⟩ (.slice A2 (turnR r l).length q2)) (fun k => k = t ∨ k = s) := hk05.setCell (p := ⟨s, 1, none⟩) (S := fun k => k = t ∨ k = s) (.inl (.inr rfl)) _
  have hks : Tur w5 (w5.setCell ⟨s, 1, none⟩ (.slice A2 (turnR r l).length q2)) (fun k => k = s) := (Tur.refl w5 _).setCell (p := ⟨s, 1, none⟩) (S := fun k => k = s) (.inl rfl) _
  have hT7 := hT5.kept hks (fun h => hst h.symm) (fun k hk e => by
   subst e
   obtain ⟨cells, hcc⟩ := Kd.R_typed hT5.row k hk
   rw [hS5.blk] at hcc
   simp at hcc)
  have hR7 := rows_tur hR5 hks (fun k hk => (hnt k hk).2)
  go_wp2_with fail
  go_ret
  first | exact ⟨rfl, hk7, _, _, hT7, ⟨hb7, Kd.R_lower hR7 hb01⟩, hro⟩ | exact ⟨rfl, hk7, _, hT7, ⟨_, ⟨hb7, Kd.R_lower hR7 hb01⟩⟩, hro⟩ | exact ⟨rfl, hk7, _, ⟨_, ⟨hb7, Kd.R_lower hR7 hb01⟩⟩, hT7, hro⟩ | exact ⟨rfl, hk7, ⟨_, hT7, hro⟩, _, ⟨hb7, Kd.R_lower hR7 hb01⟩⟩ | exact ⟨rfl, hk7, ⟨_, ⟨hb7, Kd.R_lower hR7 hb01⟩⟩, _, hT7, hro⟩
 ·
  subst hy
  have h8 := HRR.out
  rw [if_neg (by decide)] at h8
  subst h8
  clear HRR hXY
  go_wp2_with fail
  go_ret
  first | exact ⟨rfl, hk05, _, _, hT5, hS5, hro⟩ | exact ⟨rfl, hk05, _, hT5, ⟨_, hS5⟩, hro⟩ | exact ⟨rfl, hk05, _, ⟨_, hS5⟩, hT5, hro⟩ | exact ⟨rfl, hk05, ⟨_, hT5, hro⟩, _, hS5⟩ | exact ⟨rfl, hk05, ⟨_, hS5⟩, _, hT5, hro⟩
set_option maxHeartbeats 16000000 in
set_option maxRecDepth 100000 in
theorem rdo_none (s : Nat) (A : Option Addr) (c : Nat) (w : World) :
  Calls Tryz.prog 26 #[.pointer (some ⟨s, 0, none⟩), .slice A 0 c] w fun e w' => e = .returned (.int .i64 0) ∧ w' = w := by
 go_enter Tryz.func26, Tryz.ntmps26
 go_wp2_with fail
 go_ret
 exact ⟨rfl, rfl⟩
set_option maxHeartbeats 16000000 in
set_option maxRecDepth 100000 in
theorem rdo_large (s : Nat) (A : Option Addr) (c : Nat) (l : List S69) (w : World) (hC : Kd.C k69 w A l.length l) (hc : l.length ≤ c) (hl : (recL l).length ≤ 1000000000) (h0 : l.length ≠ 0) (h1 : 32768 < (recL l).length) :
  Calls Tryz.prog 26 #[.pointer (some ⟨s, 0, none⟩), .slice A l.length c] w fun e w' => e = .returned (.int .i64 3) ∧ Below w.heap.size w w' := by
 have d0 : ((l.length : Int) == 0) = false := beq_eq_false_iff_ne.2 (by omega)
 have d0' : decide ((l.length : Int) = 0) = false := decide_eq_false (by omega)
 have d0n : (l.length == 0) = false := beq_eq_false_iff_ne.2 h0
 have d1 : decide ((32768 : Int) < ((recL l).length : Int)) = true := decide_eq_true (by omega)
 have d1n : decide (32768 < (recL l).length) = true := decide_eq_true h1
 go_enter Tryz.func26, Tryz.ntmps26
 go_wp2_with fail
 refine (Record_says A c l w hC hc hl).mono ?_
 rintro e w1 ⟨v1, rfl, hr1, hb1⟩
 obtain ⟨A1, q1, e1'⟩ := Kd.R_slice hr1
 subst e1'
 go_wp2_with fail
 go_ret
 exact ⟨rfl, hb1⟩
/-- The reference's Do does to its tape and rows what the program's does. -/
theorem rdo_says (base s t : Nat) (v vr : Value) (T : TapeS) (r : List S82) (A : Option Addr) (c : Nat) (l : List S69) (w : World) (hT : RTpAt w base t v T) (hS : RStAt w base s t vr r) (hf : -1 ≤ T.fuse ∧ T.fuse < 9223372036854775808) (hC : Kd.C k69 w A l.length l) (hc : l.length ≤ c)
  (hr : Ris r) (hrl : r.length + l.length ≤ 1000000) (hbl : T.b.length ≤ 1000000) (hbase : base ≤ w.heap.size) (hrec : (recL l).length ≤ 1000000000) (hwl : (recL (allR (turnR r l))).length ≤ 100000000) :
  Calls Tryz.prog 26 #[.pointer (some ⟨s, 0, none⟩), .slice A l.length c] w fun e w' =>
   e = .returned (.int .i64 (doR T r l).2) ∧ Tur w w' (fun k => k = t ∨ k = s) ∧ ∃ v' vr', RTpAt w' base t v' (doR T r l).1 ∧ RStAt w' base s t vr' (if (doR T r l).2 = 0 then turnR r l else r) ∧ Rowd v v' w.heap.size := by
 unfold doR
 by_cases h0 : l.length = 0
 ·
  rw [if_pos h0]
  have : l = [] := List.length_eq_zero_iff.1 h0
  subst this
  refine (rdo_none s A c w).mono ?_
  rintro e w' ⟨rfl, rfl⟩
  exact ⟨rfl, Tur.refl _ _, _, _, hT, by rw [if_pos rfl]; exact hS, Rowd.refl _ _⟩
 ·
  rw [if_neg h0]
  by_cases h1 : 32768 < (recL l).length
  ·
   rw [if_pos h1]
   refine (rdo_large s A c l w hC hc hrec h0 h1).mono ?_
   rintro e w' ⟨rfl, hb⟩
   exact ⟨rfl, Tur.of_below hb _, _, _, hT.below hb, by rw [if_neg (show ¬ (3 : Int) = 0 by decide)]; exact hS.below hb, Rowd.refl _ _⟩
  ·
   rw [if_neg h1]
   by_cases h2 : 65536 < (frameL (recL l)).length + T.b.length
   ·
    rw [if_pos h2]
    unfold TapeS.renewR
    have hfl := frameL_len (recL (allR (turnR r l)))
    by_cases h3 : 32768 < (recL (allR (turnR r l))).length
    ·
     rw [if_pos (Or.inl h3)]
     refine (rdo_full base s t v vr T r A c l w hT hS hf hC hc hr hrl hbl hbase h0 (by omega) h2 hwl h3).mono ?_
     rintro e w' ⟨rfl, hb⟩
     exact ⟨rfl, Tur.of_below hb _, _, _, hT.below hb, by rw [if_neg (show ¬ (7 : Int) = 0 by decide)]; exact hS.below hb, Rowd.refl _ _⟩
    ·
     rw [if_neg (by omega)]
     exact rdo_swap base s t v vr T r A c l w hT hS hf hC hc hr hrl hbl hbase h0 (by omega) h2 (by omega)
   ·
    rw [if_neg h2]
    exact rdo_append base s t v vr T r A c l w hT hS hf hC hc hr hrl hbl hbase h0 (by omega) (by omega)
end Go.Proofs.YtpoblffgclmmlaaGreatDoor.X
end
