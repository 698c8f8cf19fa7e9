/- A row of bytes in a block of its own that may be appended to; it may be a part of a longer block, then it is full. No program here. -/
import Derived.Test.YtkmokcfnfhabgaaDoorMsg
import Derived.Test.YtkmokcfnfhabgaaDoorWMore
set_option linter.unusedVariables false
set_option linter.unusedSimpArgs false
namespace Go.Proofs.YtkmokcfnfhabgaaDoor.X
open Go.RowKit Go.Proofs.YtkmokcfnfhabgaaDoorW.PrintWords Go.Proofs.YtkmokcfnfhabgaaDoorW.PrintMore

/-- What a call may turn: the blocks of S, and new ones; nothing else of the world. -/
structure Tur (w W : World) (S : Nat → Prop) : Prop where
  kept : Kept w W S
  os : W.os = w.os
  tape : W.tape = w.tape
  output : W.output = w.output
theorem Tur.refl (w : World) (S : Nat → Prop) : Tur w w S := ⟨Kept.refl w S, rfl, rfl, rfl⟩
theorem Tur.mono {w W : World} {S S' : Nat → Prop} (h : Tur w W S) (hs : ∀ k, S k → S' k) : Tur w W S' := ⟨h.kept.mono hs, h.os, h.tape, h.output⟩
theorem Tur.below {w W W2 : World} {S : Nat → Prop} (h : Tur w W S) (hb : Below W.heap.size W W2) : Tur w W2 S := ⟨h.kept.below hb, hb.os.trans h.os, hb.tape.trans h.tape, hb.output.trans h.output⟩
theorem Tur.of_below {w W : World} (hb : Below w.heap.size w W) (S : Nat → Prop) : Tur w W S := ⟨Kept.of_below hb S, hb.os, hb.tape, hb.output⟩
theorem Tur.alloc {w W : World} {S : Nat → Prop} (h : Tur w W S) (o : Obj) : Tur w (W.alloc o) S := h.below (below_alloc (Below.refl _ _) o)
theorem Tur.drew {w W : World} {S : Nat → Prop} (h : Tur w W S) : Tur w W.drew S := ⟨h.kept.drew, h.os, h.tape, h.output⟩
theorem Tur.setCell {w W : World} {S : Nat → Prop} (h : Tur w W S) {p : Addr} (hp : S p.block ∨ w.heap.size ≤ p.block) (u : Value) : Tur w (W.setCell p u) S := by
  have hb : Below 0 W (W.setCell p u) := (Below.refl 0 W).setCell (p := p) (Nat.zero_le _) u
  exact ⟨h.kept.setCell hp u, hb.os.trans h.os, hb.tape.trans h.tape, hb.output.trans h.output⟩
theorem Tur.of_grown {w W W2 : World} {S : Nat → Prop} {row : Option Nat} (hg : W.grownBy W2 row) (h : Tur w W S) (hr : ∀ k, row = some k → S k ∨ w.heap.size ≤ k) : Tur w W2 S := ⟨Kept.of_grown hg h.kept hr, hg.os.trans h.os, hg.tape.trans h.tape, hg.output.trans h.output⟩
theorem Tur.then_ {w W W2 : World} {S S2 : Nat → Prop} (h : Tur w W S) (k : Tur W W2 S2) (hs : ∀ k, S2 k → S k ∨ w.heap.size ≤ k) : Tur w W2 S := ⟨h.kept.then_ k.kept hs, k.os.trans h.os, k.tape.trans h.tape, k.output.trans h.output⟩
theorem Tur.toBelow {w W : World} {S : Nat → Prop} {B : Nat} (h : Tur w W S) (hB : B ≤ w.heap.size) (hS : ∀ k, S k → B ≤ k) : Below B w W := ⟨h.os, h.tape, h.output, h.kept.1, fun k hk => h.kept.2 k (Nat.lt_of_lt_of_le hk hB) (fun hs => Nat.lt_irrefl k (Nat.lt_of_lt_of_le hk (hS k hs)))⟩
/-- The row is a whole block's head, or it is full. -/
def RowB (W : World) (base e : Nat) (v : Value) (xs : List Int) : Prop :=
  Kd.R (Kd.int .u8) e W base (fun _ => True) v xs ∨ ∃ g cur, v = .slice (some ⟨g, 0, none⟩) xs.length xs.length ∧ base ≤ g ∧ W.heap[g]? = some (.cells cur e (0, 0)) ∧ xs.length ≤ cur.size ∧ xs.length ≤ maxLen ∧ cur.toList.take xs.length = nums .u8 xs
theorem RowB.nil (W : World) (base e : Nat) : RowB W base e (.slice none 0 0) [] := .inl (Kd.R_nil _ _ _ _ _)
theorem RowB.slice {W : World} {base e : Nat} {v : Value} {xs : List Int} (h : RowB W base e v xs) : ∃ A c, v = .slice A xs.length c ∧ xs.length ≤ c ∧ Kd.C (Kd.int .u8) W A xs.length xs := by
  rcases h with h | ⟨g, cur, rfl, hb, hg, hl, hm, ht⟩
  · obtain ⟨A, c, rfl⟩ := Kd.R_slice h
    obtain ⟨-, h2, h3⟩ := Kd.R_reads' h
    exact ⟨A, c, rfl, h2, h3⟩
  · refine ⟨_, _, rfl, Nat.le_refl _, rfl, by simp only [maxLen] at hm; omega, fun _ => ⟨⟨g, 0, none⟩, rfl, fun j p hj => ⟨[.int .u8 p], rfl, rfl, fun i u hu => ?_⟩⟩⟩
    have hlt : j < xs.length := (List.getElem?_eq_some_iff.1 hj).1
    match i, hu with
    | 0, hu =>
      simp only [List.getElem?_cons_zero, Option.some.injEq] at hu
      subst hu
      have ha : (⟨g, 0, none⟩ : Addr).add (j * (Kd.int .u8).sz + 0) = ⟨g, j, none⟩ := by
        show (⟨g, 0, none⟩ : Addr).add (j * 1 + 0) = _
        unfold Addr.add
        simp
        intro h; omega
      rw [ha, cell_of_row W g j cur e (0, 0) hg]
      have : (cur.toList.take xs.length)[j]? = (nums .u8 xs)[j]? := by rw [ht]
      rw [List.getElem?_take, if_pos hlt, Array.getElem?_toList] at this
      rw [this]
      simp [nums, hj]
theorem RowB.kept {W W2 : World} {base e : Nat} {v : Value} {xs : List Int} {S : Nat → Prop} (h : RowB W base e v xs) (hk : Tur W W2 S) (hne : ∀ k, v.ownBlock = some k → ¬ S k) : RowB W2 base e v xs := by
  rcases h with h | ⟨g, cur, rfl, hb, hg, r⟩
  · refine .inl ?_
    have h2 : Kd.R (Kd.int .u8) e W base (fun k => v.ownBlock = some k) v xs := by
      obtain ⟨h0, inner, ho, hr⟩ := h
      exact ⟨fun k hk => hk, inner, ho, hr.imp_ (fun _ _ hp => hp)⟩
    exact Kd.R_mono (Kd.R_kept h2 hk.kept hne) (fun _ _ => trivial)
  · exact .inr ⟨g, cur, rfl, hb, blk_kept hg hk.kept (hne g (by simp [Value.ownBlock])), r⟩
theorem RowB.typed {W : World} {base e : Nat} {v : Value} {xs : List Int} (h : RowB W base e v xs) : ∀ k, v.ownBlock = some k → base ≤ k ∧ ∃ cells, W.heap[k]? = some (.cells cells e (0, 0)) := by
  intro k hk
  rcases h with h | ⟨g, cur, rfl, hb, hg, r⟩
  · exact ⟨Kd.R_base h k hk, Kd.R_typed h k hk⟩
  · simp [Value.ownBlock] at hk
    subst hk
    exact ⟨hb, cur, hg⟩
theorem RowB.lower {W : World} {base base' e : Nat} {v : Value} {xs : List Int} (h : RowB W base e v xs) (hb : base' ≤ base) : RowB W base' e v xs := by
  rcases h with h | ⟨g, cur, rfl, hg, r⟩
  · exact .inl (Kd.R_lower h hb)
  · exact .inr ⟨g, cur, rfl, Nat.le_trans hb hg, r⟩
theorem wpList_append_RB {P : Program} {ops : Array Oper} {rest : List Oper} {o : Oper} {a : Act} {Q : Exit → Act → World → Prop} {W : World} (base : Nat) (hgd : o.guard = none) (s x : Operand) (t e : TypeId)
    (ho : o.op = .call { callee := .builtin .append, args := #[s, x], argTypes := #[t, t] })
    (ht : P.underlying t = some (.slice e)) (hinfo : (P.info? e).map (fun i => (i.zero, i.size, i.bytes)) = some (some (.int .u8 0), 1, 1))
    (v : Value) (xs ys : List Int) (A : Option Addr) (c : Nat) (hs : a.eval s = v) (hx : a.eval x = .slice A ys.length c)
    (HO : RowB W base e v xs) (HR : Kd.C (Kd.int .u8) W A ys.length ys) (hbase : base ≤ W.heap.size) (hl : xs.length + ys.length ≤ 140737488355328)
    (h : ∀ v1 w1, RowB w1 base e v1 (xs ++ ys) → W.grownBy w1 v.ownBlock → (v1.ownBlock = v.ownBlock ∨ ∃ b, v1.ownBlock = some b ∧ W.heap.size ≤ b) → wpList P ops Q rest (a.put o.dst v1) w1) :
    wpList P ops Q (o :: rest) a W := by
  rcases HO with HO | ⟨g, cur, rfl, hb, hg, hlc, hm, htake⟩
  · exact Kd.R_append_rows (Kd.int .u8) (w0 := W) base hgd s x t e (.int .u8 0) 1 ho ht hinfo rfl (by decide) (by decide) v xs ys A ys.length c (fun _ => True) (fun _ => False) hs hx HO HR (fun _ _ h => h) (fun _ h => h.elim) (fun _ _ => trivial) (Below.refl _ _) hbase (by omega) (fun v1 w1 h1 _ h3 h4 => h v1 w1 (.inl h1) h3 h4)
  · obtain ⟨i0, hi, hzz⟩ := Option.map_eq_some_iff.1 hinfo
    simp only [Prod.mk.injEq] at hzz
    obtain ⟨hz0, hz1, hz2⟩ := hzz
    by_cases hy : ys = []
    · subst hy
      refine wpList_plain hgd fun K hK2 => ?_
      have hrun : (Builtin.append_ #[t, t] o.type #[.slice (some ⟨g, 0, none⟩) xs.length xs.length, .slice A 0 c]).run P W = .ok (.slice (some ⟨g, 0, none⟩) xs.length xs.length) W := by
        cases A <;> simp [Builtin.append_, run_underlying ht, sizeOf, typeInfo, hi, Builtin.lenOf, Builtin.firstCells, storeCells, loadCells, loadCellsFrom]
      unfold Oper.wp execOp
      simp only [ho, resolve, invoke, builtin, Sem.run_bind, Sem.run_pure, Result.andThen_ok, List.map_toArray, List.map_cons, List.map_nil, hs, hx, List.length_nil, hrun]
      refine hK2 _ _ (h _ W ?_ ⟨rfl, rfl, rfl, Nat.le_refl _, fun _ _ _ => rfl⟩ (.inl rfl))
      rw [List.append_nil]
      exact .inr ⟨g, cur, rfl, hb, hg, hlc, hm, htake⟩
    · have hpos : 0 < ys.length := List.length_pos_iff.2 hy
      obtain ⟨ad, rfl, hcell⟩ := HR.2.2 hpos
      have hnews : ∀ j u, (nums .u8 ys)[j]? = some u → W.cell? (ad.add j) = some u := by
        intro j u hj
        have hjl : j < ys.length := by have := (List.getElem?_eq_some_iff.1 hj).1; simpa [nums] using this
        obtain ⟨cs, _, rfl, hc⟩ := hcell j ys[j] (List.getElem?_eq_getElem hjl)
        have h2 := hc 0 _ rfl
        have e1 : j * (Kd.int .u8).sz + 0 = j := by show j * 1 + 0 = j; omega
        rw [e1] at h2
        rw [h2]
        simp [nums, List.getElem?_eq_getElem hjl] at hj
        rw [← hj]
      have holds : ∀ j u, (nums .u8 xs)[j]? = some u → W.cell? ((⟨g, 0, none⟩ : Addr).add j) = some u := by
        intro j u hj
        have hadd : (⟨g, 0, none⟩ : Addr).add j = ⟨g, j, none⟩ := by unfold Addr.add; split <;> simp_all
        rw [hadd, cell_of_row W g j cur e (0, 0) hg]
        rw [← htake, List.getElem?_take] at hj
        split at hj
        · simpa using hj
        · cases hj
      have hr := run_append_grow (P := P) W t o.type e i0 (.int .u8 0) ht hi hz0 ⟨g, 0, none⟩ xs.length xs.length (nums .u8 xs) (by rw [hz1]; simp [nums]) holds ad ys.length c (nums .u8 ys) (by rw [hz1]; simp [nums]) hnews (by omega) (by omega) (growslice_fits (by omega) (by rw [hz2]; omega))
      have hge := grownCap_ge W (xs.length + ys.length) xs.length e
      have hcm := grownCap_le_maxLen W (xs.length + ys.length) xs.length e (by simp only [maxLen]; omega)
      refine wpList_plain hgd fun K hK2 => ?_
      unfold Oper.wp execOp
      simp only [ho, resolve, invoke, builtin, Sem.run_bind, Sem.run_pure, Result.andThen_ok, List.map_toArray, List.map_cons, List.map_nil, hs, hx, hr]
      refine hK2 _ _ (h _ _ (.inl ?_) ⟨rfl, rfl, rfl, by simp, fun k hk _ => heap_alloc_old W.drew _ hk⟩ (.inr ⟨W.heap.size, rfl, Nat.le_refl _⟩))
      have hln : (xs ++ ys).length = xs.length + ys.length := List.length_append
      refine Kd.R_of_own (enc := fun n => Value.int .u8 n) (h1 := fun _ => rfl) ⟨by simp [encs], .inr ⟨W.heap.size, grownCap W (xs.length + ys.length) xs.length e, _, by rw [hln], hbase, heap_alloc_new W.drew _, by rw [hln]; exact hge, hcm, ?_, ?_⟩⟩ (fun _ _ => trivial)
      · simp only [Array.size_append, List.size_toArray, size_zeroCells]
        simp [nums, Value.cells]
        omega
      · rw [hln]
        simp only [Array.toList_append, List.append_assoc]
        rw [← List.append_assoc]
        refine (List.take_left' ?_).trans ?_
        · simp [nums]
        · simp [nums, encs]
theorem append_RB_step {P : Program} {ops : Array Oper} {o : Oper} {a : Act} {Q : Exit → Act → World → Prop} {Kc : Act → World → Prop} {W : World} (base : Nat) (hw : Region.wanted o (yielded ops a.tmps) = true) (s x : Operand) (t e : TypeId)
    (ho : o.op = .call { callee := .builtin .append, args := #[s, x], argTypes := #[t, t] })
    (ht : P.underlying t = some (.slice e)) (hinfo : (P.info? e).map (fun i => (i.zero, i.size, i.bytes)) = some (some (.int .u8 0), 1, 1))
    (v : Value) (xs ys : List Int) (A : Option Addr) (c : Nat) (hs : a.eval s = v) (hx : a.eval x = .slice A ys.length c)
    (HO : RowB W base e v xs) (HR : Kd.C (Kd.int .u8) W A ys.length ys) (hbase : base ≤ W.heap.size) (hl : xs.length + ys.length ≤ 140737488355328)
    (h : ∀ v1 w1, RowB w1 base e v1 (xs ++ ys) → W.grownBy w1 v.ownBlock → (v1.ownBlock = v.ownBlock ∨ ∃ b, v1.ownBlock = some b ∧ W.heap.size ≤ b) → Kc (a.put o.dst v1) w1) :
    if Region.wanted o (yielded ops a.tmps) = true then Oper.wp P o a W Kc Q else Kc (a.put o.dst undef) W := by
  rcases HO with HO | ⟨g, cur, rfl, hb, hg, hlc, hm, htake⟩
  · exact Kd.R_append_rows_step (Kd.int .u8) (w0 := W) base hw s x t e (.int .u8 0) 1 ho ht hinfo rfl (by decide) (by decide) v xs ys A ys.length c (fun _ => True) (fun _ => False) hs hx HO HR (fun _ _ h => h) (fun _ h => h.elim) (fun _ _ => trivial) (Below.refl _ _) hbase (by omega) (fun v1 w1 h1 _ h3 h4 => h v1 w1 (.inl h1) h3 h4)
  · obtain ⟨i0, hi, hzz⟩ := Option.map_eq_some_iff.1 hinfo
    simp only [Prod.mk.injEq] at hzz
    obtain ⟨hz0, hz1, hz2⟩ := hzz
    by_cases hy : ys = []
    · subst hy
      rw [if_pos hw]
      have hrun : (Builtin.append_ #[t, t] o.type #[.slice (some ⟨g, 0, none⟩) xs.length xs.length, .slice A 0 c]).run P W = .ok (.slice (some ⟨g, 0, none⟩) xs.length xs.length) W := by
        cases A <;> simp [Builtin.append_, run_underlying ht, sizeOf, typeInfo, hi, Builtin.lenOf, Builtin.firstCells, storeCells, loadCells, loadCellsFrom]
      unfold Oper.wp execOp
      simp only [ho, resolve, invoke, builtin, Sem.run_bind, Sem.run_pure, Result.andThen_ok, List.map_toArray, List.map_cons, List.map_nil, hs, hx, List.length_nil, hrun]
      refine (h _ W ?_ ⟨rfl, rfl, rfl, Nat.le_refl _, fun _ _ _ => rfl⟩ (.inl rfl))
      rw [List.append_nil]
      exact .inr ⟨g, cur, rfl, hb, hg, hlc, hm, htake⟩
    · have hpos : 0 < ys.length := List.length_pos_iff.2 hy
      obtain ⟨ad, rfl, hcell⟩ := HR.2.2 hpos
      have hnews : ∀ j u, (nums .u8 ys)[j]? = some u → W.cell? (ad.add j) = some u := by
        intro j u hj
        have hjl : j < ys.length := by have := (List.getElem?_eq_some_iff.1 hj).1; simpa [nums] using this
        obtain ⟨cs, _, rfl, hc⟩ := hcell j ys[j] (List.getElem?_eq_getElem hjl)
        have h2 := hc 0 _ rfl
        have e1 : j * (Kd.int .u8).sz + 0 = j := by show j * 1 + 0 = j; omega
        rw [e1] at h2
        rw [h2]
        simp [nums, List.getElem?_eq_getElem hjl] at hj
        rw [← hj]
      have holds : ∀ j u, (nums .u8 xs)[j]? = some u → W.cell? ((⟨g, 0, none⟩ : Addr).add j) = some u := by
        intro j u hj
        have hadd : (⟨g, 0, none⟩ : Addr).add j = ⟨g, j, none⟩ := by unfold Addr.add; split <;> simp_all
        rw [hadd, cell_of_row W g j cur e (0, 0) hg]
        rw [← htake, List.getElem?_take] at hj
        split at hj
        · simpa using hj
        · cases hj
      have hr := run_append_grow (P := P) W t o.type e i0 (.int .u8 0) ht hi hz0 ⟨g, 0, none⟩ xs.length xs.length (nums .u8 xs) (by rw [hz1]; simp [nums]) holds ad ys.length c (nums .u8 ys) (by rw [hz1]; simp [nums]) hnews (by omega) (by omega) (growslice_fits (by omega) (by rw [hz2]; omega))
      have hge := grownCap_ge W (xs.length + ys.length) xs.length e
      have hcm := grownCap_le_maxLen W (xs.length + ys.length) xs.length e (by simp only [maxLen]; omega)
      rw [if_pos hw]
      unfold Oper.wp execOp
      simp only [ho, resolve, invoke, builtin, Sem.run_bind, Sem.run_pure, Result.andThen_ok, List.map_toArray, List.map_cons, List.map_nil, hs, hx, hr]
      refine (h _ _ (.inl ?_) ⟨rfl, rfl, rfl, by simp, fun k hk _ => heap_alloc_old W.drew _ hk⟩ (.inr ⟨W.heap.size, rfl, Nat.le_refl _⟩))
      have hln : (xs ++ ys).length = xs.length + ys.length := List.length_append
      refine Kd.R_of_own (enc := fun n => Value.int .u8 n) (h1 := fun _ => rfl) ⟨by simp [encs], .inr ⟨W.heap.size, grownCap W (xs.length + ys.length) xs.length e, _, by rw [hln], hbase, heap_alloc_new W.drew _, by rw [hln]; exact hge, hcm, ?_, ?_⟩⟩ (fun _ _ => trivial)
      · simp only [Array.size_append, List.size_toArray, size_zeroCells]
        simp [nums, Value.cells]
        omega
      · rw [hln]
        simp only [Array.toList_append, List.append_assoc]
        rw [← List.append_assoc]
        refine (List.take_left' ?_).trans ?_
        · simp [nums]
        · simp [nums, encs]
/-- x[:j:j]: the row's head, and no room behind it. -/
theorem cut_full {P : Program} (t e : TypeId) (kh km : IntKind) {i : TypeInfo} (ht : P.underlying t = some (.slice e)) (hi : P.info? e = some i) (A : Option Addr) (n c j : Nat) (hc : j ≤ c) (W : World) :
    (Instr.slice t (.slice A n c) none (some (.int kh (j : Int))) (some (.int km (j : Int)))).run P W = .ok (.slice A j j) W := by
  have ha : (A.map fun x => x.add 0) = A := by cases A <;> simp [Addr.add]
  have hc' : (j : Int) ≤ (c : Int) := by omega
  simp [Instr.slice, Instr.sliceBounds, Instr.sliceBound, run_underlying ht, asIntOf, hc', hc, sizeOf, typeInfo, hi, ha, Result.andThen]
theorem RowB.cut {W : World} {base e : Nat} {A : Option Addr} {n c : Nat} {xs : List Int} (h : RowB W base e (.slice A n c) xs) (j : Nat) (hj : j ≤ xs.length) : RowB W base e (.slice A j j) (xs.take j) := by
  have hl : (xs.take j).length = j := by rw [List.length_take]; omega
  rcases h with h | ⟨g, cur, e1, hb, hg, hlc, hm, ht⟩
  · have ho := Kd.own_of_R h
    obtain ⟨h1, h2⟩ := ho
    rcases h2 with ⟨e1, e2⟩ | ⟨g, cap, cur, e1, hb, hg, hn, hm, hcs, ht⟩
    · have hx : xs = [] := List.eq_nil_of_length_eq_zero e2
      subst hx
      cases e1
      obtain rfl : j = 0 := by simpa using hj
      exact RowB.nil _ _ _
    · cases e1
      refine .inr ⟨g, cur, by rw [hl], hb, hg, by omega, by rw [hl]; simp only [maxLen] at hm ⊢; omega, ?_⟩
      rw [hl]
      have h3 : (cur.toList.take (xs.length * 1)).take j = (encs (fun n => Value.int .u8 n) xs).take j := by rw [ht]
      rw [List.take_take, Nat.mul_one, Nat.min_eq_left hj] at h3
      rw [h3]
      simp [nums, encs, List.map_take]
  · cases e1
    refine .inr ⟨g, cur, by rw [hl], hb, hg, by omega, by rw [hl]; omega, ?_⟩
    rw [hl]
    have h3 : (cur.toList.take xs.length).take j = (nums .u8 xs).take j := by rw [ht]
    rw [List.take_take, Nat.min_eq_left hj] at h3
    rw [h3]
    simp [nums, List.map_take]
/-- The bytes of a text appended to a row, in a region that draws. -/
theorem append_str_step {P : Program} {ops : Array Oper} {o : Oper} {a : Act} {Q : Exit → Act → World → Prop} {Kc : Act → World → Prop} {W : World} {ok : Nat → Prop} (base : Nat) (hw : Region.wanted o (yielded ops a.tmps) = true) (s x : Operand) (t u e : TypeId)
    (ho : o.op = .call { callee := .builtin .append, args := #[s, x], argTypes := #[t, u] })
    (ht : P.underlying t = some (.slice e)) (hu : P.underlying u = some .string) (hinfo : (P.info? e).map (fun i => (i.zero, i.size, i.bytes)) = some (some (.int .u8 0), 1, 1))
    (v : Value) (xs : List Int) (y : ByteArray) (hs : a.eval s = v) (hx : a.eval x = .string y)
    (HO : Kd.R (Kd.int .u8) e W base ok v xs) (hbase : base ≤ W.heap.size) (hl : xs.length + y.size ≤ 140737488355328)
    (h : ∀ v1 w1, Kd.R (Kd.int .u8) e w1 base (fun _ => True) v1 (xs ++ bytesOf y) → W.grownBy w1 v.ownBlock → Kc (a.put o.dst v1) w1) :
    if Region.wanted o (yielded ops a.tmps) = true then Oper.wp P o a W Kc Q else Kc (a.put o.dst undef) W := by
  obtain ⟨i0, hi, hzz⟩ := Option.map_eq_some_iff.1 hinfo
  simp only [Prod.mk.injEq] at hzz
  obtain ⟨hz0, hz1, hz2⟩ := hzz
  obtain ⟨v1, w1, hrun, hown, hg, _⟩ := Lib.run_append_own_string (P := P) W base t u o.type e i0 ht hu hi hz0 hz1 hz2 v xs.length _ (Kd.own_of_R HO) y (by simp only [maxLen]; omega) hl hbase
  rw [if_pos hw]
  unfold Oper.wp execOp
  simp only [ho, resolve, invoke, builtin, Sem.run_bind, Sem.run_pure, Result.andThen_ok, List.map_toArray, List.map_cons, List.map_nil, hs, hx, hrun]
  refine h v1 w1 (Kd.R_of_own (enc := fun n => Value.int .u8 n) (h1 := fun _ => rfl) ?_ (fun _ _ => trivial)) hg
  have hl2 : (xs ++ bytesOf y).length = xs.length + y.size := by rw [List.length_append, bytesOf_length]
  have hc : encs (fun n => Value.int .u8 n) (xs ++ bytesOf y) = encs (fun n => Value.int .u8 n) xs ++ Lib.strCells y := by
    simp [encs, bytesOf, Lib.strCells]
  rw [hl2, hc]
  exact hown
/-- What is told of the own block alone. -/
theorem R_own_ok {e : Nat} {W : World} {base : Nat} {ok ok' : Nat → Prop} {v : Value} {xs : List Int} (h : Kd.R (Kd.int .u8) e W base ok v xs) (hok : ∀ k, v.ownBlock = some k → ok' k) : Kd.R (Kd.int .u8) e W base ok' v xs :=
  Kd.R_of_own (Kd.own_of_R h) hok
end Go.Proofs.YtkmokcfnfhabgaaDoor.X
