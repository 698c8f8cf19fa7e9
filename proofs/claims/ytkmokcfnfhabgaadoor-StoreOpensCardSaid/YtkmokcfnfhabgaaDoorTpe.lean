/- A row of bytes in a block of its own that may be appended to; it may be a part of a longer block, then it is full. No program here. The tape: what each of its methods does to it. -/
import Derived.Test.YtkmokcfnfhabgaaDoorMsg
import Derived.Test.YtkmokcfnfhabgaaDoorWMore
import Derived.Test.YtkmokcfnfhabgaaDoorQ0
import Derived.Lib.Hide
import Derived.Lib.SliceRun
set_option linter.unusedVariables false
set_option linter.unusedSimpArgs false
namespace Go.Proofs.YtkmokcfnfhabgaaDoor.X
open Go.RowKit Go.Proofs.YtkmokcfnfhabgaaDoorW.PrintWords Go.Proofs.YtkmokcfnfhabgaaDoorW.PrintMore

/-- What a call may turn: the blocks of S, and new ones; nothing else of the world. -/
structure Tur (w W : World) (S : Nat → Prop) : Prop where
 kept : Kept w W S
 os : W.os = w.os
 tape : W.tape = w.tape
 output : W.output = w.output
theorem Tur.refl (w : World) (S : Nat → Prop) : Tur w w S := ⟨Kept.refl w S, rfl, rfl, rfl⟩
theorem Tur.mono {w W : World} {S S' : Nat → Prop} (h : Tur w W S) (hs : ∀ k, S k → S' k) : Tur w W S' := ⟨h.kept.mono hs, h.os, h.tape, h.output⟩
theorem Tur.below {w W W2 : World} {S : Nat → Prop} (h : Tur w W S) (hb : Below W.heap.size W W2) : Tur w W2 S := ⟨h.kept.below hb, hb.os.trans h.os, hb.tape.trans h.tape, hb.output.trans h.output⟩
theorem Tur.of_below {w W : World} (hb : Below w.heap.size w W) (S : Nat → Prop) : Tur w W S := ⟨Kept.of_below hb S, hb.os, hb.tape, hb.output⟩
theorem Tur.alloc {w W : World} {S : Nat → Prop} (h : Tur w W S) (o : Obj) : Tur w (W.alloc o) S := h.below (below_alloc (Below.refl _ _) o)
theorem Tur.drew {w W : World} {S : Nat → Prop} (h : Tur w W S) : Tur w W.drew S := ⟨h.kept.drew, h.os, h.tape, h.output⟩
theorem Tur.setCell {w W : World} {S : Nat → Prop} (h : Tur w W S) {p : Addr} (hp : S p.block ∨ w.heap.size ≤ p.block) (u : Value) : Tur w (W.setCell p u) S := by
 have hb : Below 0 W (W.setCell p u) := (Below.refl 0 W).setCell (p := p) (Nat.zero_le _) u
 exact ⟨h.kept.setCell hp u, hb.os.trans h.os, hb.tape.trans h.tape, hb.output.trans h.output⟩
theorem Tur.of_grown {w W W2 : World} {S : Nat → Prop} {row : Option Nat} (hg : W.grownBy W2 row) (h : Tur w W S) (hr : ∀ k, row = some k → S k ∨ w.heap.size ≤ k) : Tur w W2 S := ⟨Kept.of_grown hg h.kept hr, hg.os.trans h.os, hg.tape.trans h.tape, hg.output.trans h.output⟩
theorem Tur.then_ {w W W2 : World} {S S2 : Nat → Prop} (h : Tur w W S) (k : Tur W W2 S2) (hs : ∀ k, S2 k → S k ∨ w.heap.size ≤ k) : Tur w W2 S := ⟨h.kept.then_ k.kept hs, k.os.trans h.os, k.tape.trans h.tape, k.output.trans h.output⟩
theorem Tur.toBelow {w W : World} {S : Nat → Prop} {B : Nat} (h : Tur w W S) (hB : B ≤ w.heap.size) (hS : ∀ k, S k → B ≤ k) : Below B w W := ⟨h.os, h.tape, h.output, h.kept.1, fun k hk => h.kept.2 k (Nat.lt_of_lt_of_le hk hB) (fun hs => Nat.lt_irrefl k (Nat.lt_of_lt_of_le hk (hS k hs)))⟩
/-- The row is a whole block's head, or it is full. -/
def RowB (W : World) (base e : Nat) (v : Value) (xs : List Int) : Prop :=
 Kd.R (Kd.int .u8) e W base (fun _ => True) v xs ∨ ∃ g cur, v = .slice (some ⟨g, 0, none⟩) xs.length xs.length ∧ base ≤ g ∧ W.heap[g]? = some (.cells cur e (0, 0)) ∧ xs.length ≤ cur.size ∧ xs.length ≤ maxLen ∧ cur.toList.take xs.length = nums .u8 xs
theorem RowB.nil (W : World) (base e : Nat) : RowB W base e (.slice none 0 0) [] := .inl (Kd.R_nil _ _ _ _ _)
theorem RowB.slice {W : World} {base e : Nat} {v : Value} {xs : List Int} (h : RowB W base e v xs) : ∃ A c, v = .slice A xs.length c ∧ xs.length ≤ c ∧ Kd.C (Kd.int .u8) W A xs.length xs := by
 rcases h with h | ⟨g, cur, rfl, hb, hg, hl, hm, ht⟩
 ·
  obtain ⟨A, c, rfl⟩ := Kd.R_slice h
  obtain ⟨-, h2, h3⟩ := Kd.R_reads' h
  exact ⟨A, c, rfl, h2, h3⟩
 ·
  refine ⟨_, _, rfl, Nat.le_refl _, rfl, by simp only [maxLen] at hm; omega, fun _ => ⟨⟨g, 0, none⟩, rfl, fun j p hj => ⟨[.int .u8 p], rfl, rfl, fun i u hu => ?_⟩⟩⟩
  have hlt : j < xs.length := (List.getElem?_eq_some_iff.1 hj).1
  match i, hu with
  | 0, hu =>
   simp only [List.getElem?_cons_zero, Option.some.injEq] at hu
   subst hu
   have ha : (⟨g, 0, none⟩ : Addr).add (j * (Kd.int .u8).sz + 0) = ⟨g, j, none⟩ := by
    show (⟨g, 0, none⟩ : Addr).add (j * 1 + 0) = _
    unfold Addr.add
    simp
    intro h; omega
   rw [ha, cell_of_row W g j cur e (0, 0) hg]
   have : (cur.toList.take xs.length)[j]? = (nums .u8 xs)[j]? := by rw [ht]
   rw [List.getElem?_take, if_pos hlt, Array.getElem?_toList] at this
   rw [this]
   simp [nums, hj]
theorem RowB.kept {W W2 : World} {base e : Nat} {v : Value} {xs : List Int} {S : Nat → Prop} (h : RowB W base e v xs) (hk : Tur W W2 S) (hne : ∀ k, v.ownBlock = some k → ¬ S k) : RowB W2 base e v xs := by
 rcases h with h | ⟨g, cur, rfl, hb, hg, r⟩
 ·
  refine .inl ?_
  have h2 : Kd.R (Kd.int .u8) e W base (fun k => v.ownBlock = some k) v xs := by
   obtain ⟨h0, inner, ho, hr⟩ := h
   exact ⟨fun k hk => hk, inner, ho, hr.imp_ (fun _ _ hp => hp)⟩
  exact Kd.R_mono (Kd.R_kept h2 hk.kept hne) (fun _ _ => trivial)
 ·
  exact .inr ⟨g, cur, rfl, hb, blk_kept hg hk.kept (hne g (by simp [Value.ownBlock])), r⟩
theorem RowB.typed {W : World} {base e : Nat} {v : Value} {xs : List Int} (h : RowB W base e v xs) : ∀ k, v.ownBlock = some k → base ≤ k ∧ ∃ cells, W.heap[k]? = some (.cells cells e (0, 0)) := by
 intro k hk
 rcases h with h | ⟨g, cur, rfl, hb, hg, r⟩
 ·
  exact ⟨Kd.R_base h k hk, Kd.R_typed h k hk⟩
 ·
  simp [Value.ownBlock] at hk
  subst hk
  exact ⟨hb, cur, hg⟩
theorem RowB.lower {W : World} {base base' e : Nat} {v : Value} {xs : List Int} (h : RowB W base e v xs) (hb : base' ≤ base) : RowB W base' e v xs := by
 rcases h with h | ⟨g, cur, rfl, hg, r⟩
 ·
  exact .inl (Kd.R_lower h hb)
 ·
  exact .inr ⟨g, cur, rfl, Nat.le_trans hb hg, r⟩
theorem append_RB_step {P : Program} {ops : Array Oper} {o : Oper} {a : Act} {Q : Exit → Act → World → Prop} {Kc : Act → World → Prop} {W : World} (base : Nat) (hw : Region.wanted o (yielded ops a.tmps) = true) (s x : Operand) (t e : TypeId)
  (ho : o.op = .call { callee := .builtin .append, args := #[s, x], argTypes := #[t, t] })
  (ht : P.underlying t = some (.slice e)) (hinfo : (P.info? e).map (fun i => (i.zero, i.size, i.bytes)) = some (some (.int .u8 0), 1, 1))
  (v : Value) (xs ys : List Int) (A : Option Addr) (c : Nat) (hs : a.eval s = v) (hx : a.eval x = .slice A ys.length c)
  (HO : RowB W base e v xs) (HR : Kd.C (Kd.int .u8) W A ys.length ys) (hbase : base ≤ W.heap.size) (hl : xs.length + ys.length ≤ 140737488355328)
  (h : ∀ v1 w1, RowB w1 base e v1 (xs ++ ys) → W.grownBy w1 v.ownBlock → (v1.ownBlock = v.ownBlock ∨ ∃ b, v1.ownBlock = some b ∧ W.heap.size ≤ b) → Kc (a.put o.dst v1) w1) :
  if Region.wanted o (yielded ops a.tmps) = true then Oper.wp P o a W Kc Q else Kc (a.put o.dst undef) W := by
 rcases HO with HO | ⟨g, cur, rfl, hb, hg, hlc, hm, htake⟩
 ·
  exact Kd.R_append_rows_step (Kd.int .u8) (w0 := W) base hw s x t e (.int .u8 0) 1 ho ht hinfo rfl (by decide) (by decide) v xs ys A ys.length c (fun _ => True) (fun _ => False) hs hx HO HR (fun _ _ h => h) (fun _ h => h.elim) (fun _ _ => trivial) (Below.refl _ _) hbase (by omega) (fun v1 w1 h1 _ h3 h4 => h v1 w1 (.inl h1) h3 h4)
 ·
  obtain ⟨i0, hi, hzz⟩ := Option.map_eq_some_iff.1 hinfo
  simp only [Prod.mk.injEq] at hzz
  obtain ⟨hz0, hz1, hz2⟩ := hzz
  by_cases hy : ys = []
  ·
   subst hy
   rw [if_pos hw]
   have hrun : (Builtin.append_ #[t, t] o.type #[.slice (some ⟨g, 0, none⟩) xs.length xs.length, .slice A 0 c]).run P W = .ok (.slice (some ⟨g, 0, none⟩) xs.length xs.length) W := by
    cases A <;> simp [Builtin.append_, run_underlying ht, sizeOf, typeInfo, hi, Builtin.lenOf, Builtin.firstCells, storeCells, loadCells, loadCellsFrom]
   unfold Oper.wp execOp
   simp only [ho, resolve, invoke, builtin, Sem.run_bind, Sem.run_pure, Result.andThen_ok, List.map_toArray, List.map_cons, List.map_nil, hs, hx, List.length_nil, hrun]
   refine (h _ W ?_ ⟨rfl, rfl, rfl, Nat.le_refl _, fun _ _ _ => rfl⟩ (.inl rfl))
   rw [List.append_nil]
   exact .inr ⟨g, cur, rfl, hb, hg, hlc, hm, htake⟩
  ·
   have hpos : 0 < ys.length := List.length_pos_iff.2 hy
   obtain ⟨ad, rfl, hcell⟩ := HR.2.2 hpos
   have hnews : ∀ j u, (nums .u8 ys)[j]? = some u → W.cell? (ad.add j) = some u := by
    intro j u hj
    have hjl : j < ys.length := by have := (List.getElem?_eq_some_iff.1 hj).1; simpa [nums] using this
    obtain ⟨cs, _, rfl, hc⟩ := hcell j ys[j] (List.getElem?_eq_getElem hjl)
    have h2 := hc 0 _ rfl
    have e1 : j * (Kd.int .u8).sz + 0 = j := by show j * 1 + 0 = j; omega
    rw [e1] at h2
    rw [h2]
    simp [nums, List.getElem?_eq_getElem hjl] at hj
    rw [← hj]
   have holds : ∀ j u, (nums .u8 xs)[j]? = some u → W.cell? ((⟨g, 0, none⟩ : Addr).add j) = some u := by
    intro j u hj
    have hadd : (⟨g, 0, none⟩ : Addr).add j = ⟨g, j, none⟩ := by unfold Addr.add; split <;> simp_all
    rw [hadd, cell_of_row W g j cur e (0, 0) hg]
    rw [← htake, List.getElem?_take] at hj
    split at hj
    ·
     simpa using hj
    ·
     cases hj
   have hr := run_append_grow (P := P) W t o.type e i0 (.int .u8 0) ht hi hz0 ⟨g, 0, none⟩ xs.length xs.length (nums .u8 xs) (by rw [hz1]; simp [nums]) holds ad ys.length c (nums .u8 ys) (by rw [hz1]; simp [nums]) hnews (by omega) (by omega) (growslice_fits (by omega) (by rw [hz2]; omega))
   have hge := grownCap_ge W (xs.length + ys.length) xs.length e
   have hcm := grownCap_le_maxLen W (xs.length + ys.length) xs.length e (by simp only [maxLen]; omega)
   rw [if_pos hw]
   unfold Oper.wp execOp
   simp only [ho, resolve, invoke, builtin, Sem.run_bind, Sem.run_pure, Result.andThen_ok, List.map_toArray, List.map_cons, List.map_nil, hs, hx, hr]
   refine (h _ _ (.inl ?_) ⟨rfl, rfl, rfl, by simp, fun k hk _ => heap_alloc_old W.drew _ hk⟩ (.inr ⟨W.heap.size, rfl, Nat.le_refl _⟩))
   have hln : (xs ++ ys).length = xs.length + ys.length := List.length_append
   refine Kd.R_of_own (enc := fun n => Value.int .u8 n) (h1 := fun _ => rfl) ⟨by simp [encs], .inr ⟨W.heap.size, grownCap W (xs.length + ys.length) xs.length e, _, by rw [hln], hbase, heap_alloc_new W.drew _, by rw [hln]; exact hge, hcm, ?_, ?_⟩⟩ (fun _ _ => trivial)
   ·
    simp only [Array.size_append, List.size_toArray, size_zeroCells]
    simp [nums, Value.cells]
    omega
   ·
    rw [hln]
    simp only [Array.toList_append, List.append_assoc]
    rw [← List.append_assoc]
    refine (List.take_left' ?_).trans ?_
    ·
     simp [nums]
    ·
     simp [nums, encs]
/-- x[:j:j]: the row's head, and no room behind it. -/
theorem cut_full {P : Program} (t e : TypeId) (kh km : IntKind) {i : TypeInfo} (ht : P.underlying t = some (.slice e)) (hi : P.info? e = some i) (A : Option Addr) (n c j : Nat) (hc : j ≤ c) (W : World) :
  (Instr.slice t (.slice A n c) none (some (.int kh (j : Int))) (some (.int km (j : Int)))).run P W = .ok (.slice A j j) W := by
 have ha : (A.map fun x => x.add 0) = A := by cases A <;> simp [Addr.add]
 have hc' : (j : Int) ≤ (c : Int) := by omega
 simp [Instr.slice, Instr.sliceBounds, Instr.sliceBound, run_underlying ht, asIntOf, hc', hc, sizeOf, typeInfo, hi, ha, Result.andThen]
theorem RowB.cut {W : World} {base e : Nat} {A : Option Addr} {n c : Nat} {xs : List Int} (h : RowB W base e (.slice A n c) xs) (j : Nat) (hj : j ≤ xs.length) : RowB W base e (.slice A j j) (xs.take j) := by
 have hl : (xs.take j).length = j := by rw [List.length_take]; omega
 rcases h with h | ⟨g, cur, e1, hb, hg, hlc, hm, ht⟩
 ·
  have ho := Kd.own_of_R h
  obtain ⟨h1, h2⟩ := ho
  rcases h2 with ⟨e1, e2⟩ | ⟨g, cap, cur, e1, hb, hg, hn, hm, hcs, ht⟩
  ·
   have hx : xs = [] := List.eq_nil_of_length_eq_zero e2
   subst hx
   cases e1
   obtain rfl : j = 0 := by simpa using hj
   exact RowB.nil _ _ _
  ·
   cases e1
   refine .inr ⟨g, cur, by rw [hl], hb, hg, by omega, by rw [hl]; simp only [maxLen] at hm ⊢; omega, ?_⟩
   rw [hl]
   have h3 : (cur.toList.take (xs.length * 1)).take j = (encs (fun n => Value.int .u8 n) xs).take j := by rw [ht]
   rw [List.take_take, Nat.mul_one, Nat.min_eq_left hj] at h3
   rw [h3]
   simp [nums, encs, List.map_take]
 ·
  cases e1
  refine .inr ⟨g, cur, by rw [hl], hb, hg, by omega, by rw [hl]; omega, ?_⟩
  rw [hl]
  have h3 : (cur.toList.take xs.length).take j = (nums .u8 xs).take j := by rw [ht]
  rw [List.take_take, Nat.min_eq_left hj] at h3
  rw [h3]
  simp [nums, List.map_take]
/-- The bytes of a text appended to a row, in a region that draws. -/
theorem append_str_step {P : Program} {ops : Array Oper} {o : Oper} {a : Act} {Q : Exit → Act → World → Prop} {Kc : Act → World → Prop} {W : World} {ok : Nat → Prop} (base : Nat) (hw : Region.wanted o (yielded ops a.tmps) = true) (s x : Operand) (t u e : TypeId)
  (ho : o.op = .call { callee := .builtin .append, args := #[s, x], argTypes := #[t, u] })
  (ht : P.underlying t = some (.slice e)) (hu : P.underlying u = some .string) (hinfo : (P.info? e).map (fun i => (i.zero, i.size, i.bytes)) = some (some (.int .u8 0), 1, 1))
  (v : Value) (xs : List Int) (y : ByteArray) (hs : a.eval s = v) (hx : a.eval x = .string y)
  (HO : Kd.R (Kd.int .u8) e W base ok v xs) (hbase : base ≤ W.heap.size) (hl : xs.length + y.size ≤ 140737488355328)
  (h : ∀ v1 w1, Kd.R (Kd.int .u8) e w1 base (fun _ => True) v1 (xs ++ bytesOf y) → W.grownBy w1 v.ownBlock → Kc (a.put o.dst v1) w1) :
  if Region.wanted o (yielded ops a.tmps) = true then Oper.wp P o a W Kc Q else Kc (a.put o.dst undef) W := by
 obtain ⟨i0, hi, hzz⟩ := Option.map_eq_some_iff.1 hinfo
 simp only [Prod.mk.injEq] at hzz
 obtain ⟨hz0, hz1, hz2⟩ := hzz
 obtain ⟨v1, w1, hrun, hown, hg, _⟩ := Lib.run_append_own_string (P := P) W base t u o.type e i0 ht hu hi hz0 hz1 hz2 v xs.length _ (Kd.own_of_R HO) y (by simp only [maxLen]; omega) hl hbase
 rw [if_pos hw]
 unfold Oper.wp execOp
 simp only [ho, resolve, invoke, builtin, Sem.run_bind, Sem.run_pure, Result.andThen_ok, List.map_toArray, List.map_cons, List.map_nil, hs, hx, hrun]
 refine h v1 w1 (Kd.R_of_own (enc := fun n => Value.int .u8 n) (h1 := fun _ => rfl) ?_ (fun _ _ => trivial)) hg
 have hl2 : (xs ++ bytesOf y).length = xs.length + y.size := by rw [List.length_append, bytesOf_length]
 have hc : encs (fun n => Value.int .u8 n) (xs ++ bytesOf y) = encs (fun n => Value.int .u8 n) xs ++ Lib.strCells y := by
  simp [encs, bytesOf, Lib.strCells]
 rw [hl2, hc]
 exact hown
/-- What is told of the own block alone. -/
theorem R_own_ok {e : Nat} {W : World} {base : Nat} {ok ok' : Nat → Prop} {v : Value} {xs : List Int} (h : Kd.R (Kd.int .u8) e W base ok v xs) (hok : ∀ k, v.ownBlock = some k → ok' k) : Kd.R (Kd.int .u8) e W base ok' v xs :=
 Kd.R_of_own (Kd.own_of_R h) hok
end Go.Proofs.YtkmokcfnfhabgaaDoor.X
namespace Go.Proofs.YtkmokcfnfhabgaaDoor.X
open Go.RowKit Go.Proofs.YtkmokcfnfhabgaaDoorW.PrintWords Go.Proofs.YtkmokcfnfhabgaaDoorW.PrintLast Go.Proofs.YtkmokcfnfhabgaaDoorW.PrintMore Go.Proofs.YtkmokcfnfhabgaaDoor.Q

/-- A tape in memory: its four fields, and its bytes in a row that nothing else has. -/
structure TapeAt (W : World) (base t : Nat) (v : Value) (xs : List Int) (sure fuse : Int) (down : Bool) : Prop where
 blk : W.heap[t]? = some (.cells #[v, .int .i64 sure, .int .i64 fuse, .bool down] 63 (0, 0))
 row : RowB W base 5 v xs
 ge : base ≤ t
theorem TapeAt.kept {W W2 : World} {base t : Nat} {v : Value} {xs : List Int} {sure fuse : Int} {down : Bool} {S : Nat → Prop} (h : TapeAt W base t v xs sure fuse down) (hk : Tur W W2 S) (ht : ¬ S t) (hv : ∀ k, v.ownBlock = some k → ¬ S k) : TapeAt W2 base t v xs sure fuse down :=
 ⟨blk_kept h.blk hk.kept ht, h.row.kept hk hv, h.ge⟩
theorem TapeAt.ne {W : World} {base t : Nat} {v : Value} {xs : List Int} {sure fuse : Int} {down : Bool} (h : TapeAt W base t v xs sure fuse down) : ∀ k, v.ownBlock = some k → k ≠ t := fun k hk => by
 obtain ⟨cells, hc⟩ := (h.row.typed k hk).2
 exact blk_ne hc h.blk (by decide)
/-- How many of some bytes are done, and what becomes of the fuse. -/
def burnL (n fuse : Int) (down whole : Bool) : (Int × Bool) × (Int × Bool) :=
 if down = true then ((0, false), (fuse, true))
 else if fuse < 0 ∨ n ≤ fuse then ((n, true), (if 0 ≤ fuse then fuse - n else fuse, false))
 else ((if whole = true then 0 else fuse, false), (0, true))
set_option maxHeartbeats 4000000 in
set_option maxRecDepth 100000 in
theorem burn_says (t : Nat) (v : Value) (sure fuse n : Int) (down whole : Bool) (w : World) (hb : w.heap[t]? = some (.cells #[v, .int .i64 sure, .int .i64 fuse, .bool down] 63 (0, 0))) (hn : 0 ≤ n ∧ n < 4611686018427387904) (hf : -9223372036854775808 ≤ fuse ∧ fuse < 9223372036854775808) :
  Calls Tryd.prog 26 #[.pointer (some ⟨t, 0, none⟩), .int .i64 n, .bool whole] w fun e w' => e = .returned (.tuple #[.int .i64 (burnL n fuse down whole).1.1, .bool (burnL n fuse down whole).1.2]) ∧ w'.heap[t]? = some (.cells #[v, .int .i64 sure, .int .i64 (burnL n fuse down whole).2.1, .bool (burnL n fuse down whole).2.2] 63 (0, 0)) ∧ Tur w w' (fun k => k = t) ∧ w'.heap.size = w.heap.size := by
 have c2 := blk_cell hb 2
 have c3 := blk_cell hb 3
 have f2 := blk_frozen hb 2
 have f3 := blk_frozen hb 3
 go_enter Tryd.func26, Tryd.ntmps26
 cases down with
 | true =>
  go_wp2_with fail
  go_ret2
  exact ⟨rfl, hb, Tur.refl _ _, rfl⟩
 | false =>
  have hk2 : ∀ u, Tur w (w.setCell ⟨t, 2, none⟩ u) (fun k => k = t) := fun u => (Tur.refl w (fun k => k = t)).setCell (p := ⟨t, 2, none⟩) (.inl rfl) u
  have hb2 : ∀ u, (w.setCell ⟨t, 2, none⟩ u).heap[t]? = some (.cells #[v, .int .i64 sure, u, .bool false] 63 (0, 0)) := fun u => blk_put hb 2 u rfl
  by_cases h1 : fuse < 0
  ·
   have d1 : decide (fuse < 0) = true := decide_eq_true h1
   have d2 : decide (fuse ≥ 0) = false := decide_eq_false (by omega)
   have e : burnL n fuse false whole = ((n, true), (fuse, false)) := by
    unfold burnL
    rw [if_neg (by decide), if_pos (.inl h1), if_neg (by omega)]
   rw [e]
   clear e
   go_wp2_with fail
   go_ret2
   exact ⟨rfl, hb, Tur.refl _ _, rfl⟩
  ·
   have d1 : decide (fuse < 0) = false := decide_eq_false h1
   have d2 : decide (fuse ≥ 0) = true := decide_eq_true (by omega)
   by_cases h2 : n ≤ fuse
   ·
    have d3 : decide (fuse ≥ n) = true := decide_eq_true h2
    have e : burnL n fuse false whole = ((n, true), (fuse - n, false)) := by
     unfold burnL
     rw [if_neg (by decide), if_pos (.inr h2), if_pos (by omega)]
    have e2 : IntKind.i64.wrap (fuse - n) = fuse - n := IntWalk.i64_in _ (by omega)
    rw [e]
    clear e
    go_wp2_with fail
    go_ret2
    exact ⟨rfl, hb2 _, hk2 _, by simp⟩
   ·
    have d3 : decide (fuse ≥ n) = false := decide_eq_false (by omega)
    have e : burnL n fuse false whole = ((if whole = true then 0 else fuse, false), (0, true)) := by
     unfold burnL
     rw [if_neg (by decide), if_neg (by omega)]
    have c3' := blk_cell (hb2 (.int .i64 0)) 3
    have f3' := blk_frozen (hb2 (.int .i64 0)) 3
    have hk3 := (hk2 (.int .i64 0)).setCell (p := ⟨t, 3, none⟩) (.inl rfl) (.bool true)
    have hb3 := blk_put (hb2 (.int .i64 0)) 3 (.bool true) rfl
    rw [e]
    clear e
    cases whole with
    | true =>
     go_wp2_with fail
     go_ret2
     exact ⟨rfl, hb3, hk3, by simp⟩
    | false =>
     go_wp2_with fail
     go_ret2
     exact ⟨rfl, hb3, hk3, by simp⟩
set_option maxHeartbeats 4000000 in
set_option maxRecDepth 100000 in
theorem new_says (w : World) : Calls Tryd.prog 9 #[] w fun e w' => ∃ t, e = .returned (.pointer (some ⟨t, 0, none⟩)) ∧ TapeAt w' w.heap.size t (.slice none 0 0) [] 0 (-1) false ∧ Below w.heap.size w w' := by
 go_enter Tryd.func9, Tryd.ntmps9
 go_wp2_with fail
 go_ret
 exact ⟨_, rfl, ⟨heap_alloc_new w _, RowB.nil _ _ _, Nat.le_refl _⟩, (Below.refl _ w).alloc (Nat.le_refl _) _⟩
/-- A literal row without a byte. -/
theorem empty_R (w : World) (e : Nat) : Kd.R (Kd.int .u8) e (w.alloc (.cells #[] e)) w.heap.size (fun _ => True) (.slice (some ⟨w.heap.size, 0, none⟩) 0 0) [] :=
 Kd.R_of_own (enc := fun n => Value.int .u8 n) (h1 := fun _ => rfl) ⟨rfl, .inr ⟨w.heap.size, 0, #[], rfl, Nat.le_refl _, heap_alloc_new w _, Nat.le_refl _, Nat.zero_le _, rfl, rfl⟩⟩ (fun _ _ => trivial)
set_option maxHeartbeats 4000000 in
set_option maxRecDepth 100000 in
theorem bclone_says (A : Option Addr) (c : Nat) (xs : List Int) (w : World) (hC : Kd.C (Kd.int .u8) w A xs.length xs) (hl : xs.length ≤ 70368744177664) :
  Calls Tryd.prog 27 #[.slice A xs.length c] w fun e w' => ∃ v, e = .returned v ∧ Kd.R (Kd.int .u8) 5 w' w.heap.size (fun _ => True) v xs ∧ Below w.heap.size w w' := by
 have q22 := fun (w : World) (a : Option Addr) (n c n' c' : Nat) => Lib.run_eql_slice_nil (P := Tryd.prog) w _ _ a n c n' c' Tryd.underlying22
 go_enter Tryd.func27, Tryd.ntmps27
 cases A with
 | none =>
  have hx : xs = [] := by
   cases xs with
   | nil => rfl
   | cons x r => obtain ⟨ad, e, _⟩ := hC.2.2 (by simp); cases e
  subst hx
  clear hC
  go_wp2_with fail
  go_ret
  exact ⟨_, rfl, Kd.R_nil _ _ _ _ _, Below.refl _ _⟩
 | some ad =>
  have LA := Lib.hid (show (([] : List Int).length + xs.length) * 1 ≤ 140737488355328 by rw [List.length_nil]; omega)
  have hE := empty_R w 5
  have hC1 := Kd.C_alloc hC (.cells #[] 5)
  have hb1 : Below w.heap.size w (w.alloc (.cells #[] 5)) := (Below.refl _ w).alloc (Nat.le_refl _) _
  have hs1 : w.heap.size ≤ (w.alloc (.cells #[] 5)).heap.size := by simp
  clear hl hC
  go_wp2_with ((with_reducible refine gate_builtin (b := .append) (xs := #[.tmp 5, .tmp 6]) rfl ?_); at_builtin; refine Kd.R_append_rows (Kd.int .u8) (w0 := w) w.heap.size rfl (.tmp 5) (.tmp 6) 22 5 (.int .u8 0) 1 rfl Tryd.underlying22 rfl rfl (by decide) (by omega) (.slice (some ⟨w.heap.size, 0, none⟩) 0 0) [] xs _ _ _ (fun _ => True) (fun _ => False) rfl rfl hE hC1 (fun _ _ h => h) (fun _ h => h.elim) (fun _ _ => trivial) hb1 hs1 LA ?_; intro v1 w1 ho1 hb2 hg1 hat1; clear hg1 hat1)
  rw [List.nil_append] at ho1
  go_ret
  exact ⟨_, rfl, ho1, hb2⟩
set_option maxHeartbeats 4000000 in
set_option maxRecDepth 100000 in
theorem bytes_says (base t : Nat) (v : Value) (xs : List Int) (sure fuse : Int) (down : Bool) (w : World) (h : TapeAt w base t v xs sure fuse down) (hl : xs.length ≤ 70368744177664) :
  Calls Tryd.prog 16 #[.pointer (some ⟨t, 0, none⟩)] w fun e w' => ∃ v, e = .returned v ∧ Kd.R (Kd.int .u8) 5 w' w.heap.size (fun _ => True) v xs ∧ Below w.heap.size w w' := by
 have c0 := blk_cell h.blk 0
 obtain ⟨A, c, rfl, hc, hC⟩ := h.row.slice
 go_enter Tryd.func16, Tryd.ntmps16
 go_wp2_with fail
 refine (bclone_says A c xs w hC hl).mono ?_
 rintro e w' ⟨v, rfl, hr, hb⟩
 go_wp2_with fail
 go_ret
 exact ⟨v, rfl, hr, hb⟩
/-- A row of bytes that may be read does not lie in a tape's own block. -/
theorem tape_off {W : World} {t : Nat} {v : Value} {sure fuse : Int} {down : Bool} (hb : W.heap[t]? = some (.cells #[v, .int .i64 sure, .int .i64 fuse, .bool down] 63 (0, 0))) (hv : ∃ a n c, v = .slice a n c) {A : Option Addr} {n : Nat} {xs : List Int} (hC : Kd.C (Kd.int .u8) W A n xs) : ∀ ad, A = some ad → 0 < n → ad.block ≠ t := by
 intro ad hA hn he
 obtain ⟨ad', e, hc⟩ := hC.2.2 hn
 obtain rfl : ad = ad' := Option.some.inj (hA.symm.trans e)
 have hl : 0 < xs.length := by have := hC.1; omega
 obtain ⟨c, hcl, hK, hcell⟩ := hc 0 xs[0] (List.getElem?_eq_getElem hl)
 obtain rfl : c = [.int .u8 xs[0]] := hK
 have h0 := hcell 0 _ rfl
 obtain ⟨a, m, cc, rfl⟩ := hv
 simp only [Nat.zero_mul, Nat.add_zero] at h0
 rw [Addr.add_zero'] at h0
 unfold World.cell? at h0
 rw [he, hb] at h0
 simp only at h0
 match ho : ad.off, h0 with
 | 0, h0 => simp at h0
 | 1, h0 => simp at h0
 | 2, h0 => simp at h0
 | 3, h0 => simp at h0
 | k + 4, h0 => simp at h0
/-- What is read stays, where a tape's own block alone is another one. -/
theorem C_tape {W W2 : World} {t : Nat} {v : Value} {sure fuse : Int} {down : Bool} (hb : W.heap[t]? = some (.cells #[v, .int .i64 sure, .int .i64 fuse, .bool down] 63 (0, 0))) (hv : ∃ a n c, v = .slice a n c) {A : Option Addr} {n : Nat} {xs : List Int} (hC : Kd.C (Kd.int .u8) W A n xs) (hk : Tur W W2 (fun k => k = t)) : Kd.C (Kd.int .u8) W2 A n xs :=
 Kd.C_keep (0 : Int) hC ⟨hk.kept.1, fun i hi hne _ => hk.kept.2 i hi hne⟩ (tape_off hb hv hC)
set_option maxHeartbeats 4000000 in
set_option maxRecDepth 100000 in
/-- Swap: all other bytes, and sure; or nothing. -/
theorem swap_says (base t : Nat) (v : Value) (xs ys : List Int) (sure fuse : Int) (down : Bool) (A : Option Addr) (c : Nat) (w : World) (h : TapeAt w base t v xs sure fuse down) (hC : Kd.C (Kd.int .u8) w A ys.length ys) (hl : ys.length ≤ 1000000000) (hbase : base ≤ w.heap.size) (hf : -9223372036854775808 ≤ fuse ∧ fuse < 9223372036854775808)
  (done fuse1 : Int) (ok down1 : Bool) (hB : burnL ((ys.length : Int) + 1) fuse down true = ((done, ok), (fuse1, down1))) :
  Calls Tryd.prog 11 #[.pointer (some ⟨t, 0, none⟩), .slice A ys.length c] w fun e w' =>
   e = .returned (.int .i64 (if ok = true then 0 else 8)) ∧ Tur w w' (fun k => k = t) ∧
   ∃ v', TapeAt w' base t v' (if ok = true then ys else xs) (if ok = true then (ys.length : Int) else sure) fuse1 down1 ∧ (v' = v ∨ ∀ k, v'.ownBlock = some k → w.heap.size ≤ k) := by
 have hge := h.ge
 obtain ⟨Av, cv, rfl, hcv, hCv⟩ := h.row.slice
 have e1 : IntKind.i64.wrap ((ys.length : Int) + 1) = (ys.length : Int) + 1 := IntWalk.i64_in _ (by omega)
 have hBu := (burn_says t _ sure fuse ((ys.length : Int) + 1) down true w h.blk (by omega) hf)
 rw [hB] at hBu
 cases ok with
 | false =>
  go_enter Tryd.func11, Tryd.ntmps11
  go_wp2_with fail
  refine hBu.mono ?_
  rintro e w1 ⟨rfl, hb1, hk1, hs1⟩
  have hr1 := h.row.kept hk1 h.ne
  go_wp2_with fail
  go_ret
  exact ⟨rfl, hk1, _, ⟨hb1, hr1, hge⟩, .inl rfl⟩
 | true =>
  go_enter Tryd.func11, Tryd.ntmps11
  go_wp2_with fail
  refine hBu.mono ?_
  rintro e w1 ⟨rfl, hb1, hk1, hs1⟩
  have hC1 := C_tape h.blk ⟨_, _, _, rfl⟩ hC hk1
  have c0 := blk_cell hb1 0
  go_wp2_with fail
  refine (bclone_says A c ys w1 hC1 (by omega)).mono ?_
  rintro e w2 ⟨v2, rfl, hr2, hb2⟩
  have hbk2 := blk_below hb1 hb2
  have hk2 := hk1.below hb2
  have c0 := blk_cell hbk2 0
  have f0 := blk_frozen hbk2 0
  have hbk3 := blk_put hbk2 0 v2 rfl
  have hk3 := hk2.setCell (p := ⟨t, 0, none⟩) (.inl rfl) v2
  have c1 := blk_cell hbk3 1
  have f1 := blk_frozen hbk3 1
  have hbk4 := blk_put hbk3 1 (.int .i64 (ys.length : Int)) rfl
  have hk4 := hk3.setCell (p := ⟨t, 1, none⟩) (.inl rfl) (.int .i64 (ys.length : Int))
  have hk24 : Tur w2 ((w2.setCell ⟨t, 0, none⟩ v2).setCell ⟨t, 1, none⟩ (.int .i64 (ys.length : Int))) (fun k => k = t) := ((Tur.refl w2 _).setCell (p := ⟨t, 0, none⟩) (S := fun k => k = t) (.inl rfl) v2).setCell (p := ⟨t, 1, none⟩) (.inl rfl) (.int .i64 (ys.length : Int))
  have hts : t < w1.heap.size := blk_lt hb1
  have hgr : ∀ k, v2.ownBlock = some k → w.heap.size ≤ k := fun k hk => by have := Kd.R_base hr2 k hk; omega
  have hr4 : RowB ((w2.setCell ⟨t, 0, none⟩ v2).setCell ⟨t, 1, none⟩ (.int .i64 (ys.length : Int))) base 5 v2 ys :=
   (RowB.lower (.inl hr2) (by omega)).kept hk24 (fun k hk => by have := Kd.R_base hr2 k hk; omega)
  obtain ⟨A2, c2, ev2⟩ := Kd.R_slice hr2
  subst ev2
  clear hk3 hk2 hk24 hr2 hb2
  go_wp2_with fail
  go_ret
  exact ⟨rfl, hk4, _, ⟨hbk4, hr4, hge⟩, .inr hgr⟩
set_option maxHeartbeats 4000000 in
set_option maxRecDepth 100000 in
/-- Sync: all is sure; or nothing. -/
theorem sync_says (base t : Nat) (v : Value) (xs : List Int) (sure fuse : Int) (down : Bool) (w : World) (h : TapeAt w base t v xs sure fuse down) (hf : -9223372036854775808 ≤ fuse ∧ fuse < 9223372036854775808)
  (done fuse1 : Int) (ok down1 : Bool) (hB : burnL 1 fuse down true = ((done, ok), (fuse1, down1))) :
  Calls Tryd.prog 55 #[.pointer (some ⟨t, 0, none⟩)] w fun e w' =>
   e = .returned (.int .i64 (if ok = true then 0 else 8)) ∧ Tur w w' (fun k => k = t) ∧ TapeAt w' base t v xs (if ok = true then (xs.length : Int) else sure) fuse1 down1 := by
 have hge := h.ge
 obtain ⟨Av, cv, rfl, hcv, hCv⟩ := h.row.slice
 have hBu := (burn_says t _ sure fuse 1 down true w h.blk (by omega) hf)
 rw [hB] at hBu
 cases ok with
 | false =>
  go_enter Tryd.func55, Tryd.ntmps55
  go_wp2_with fail
  refine hBu.mono ?_
  rintro e w1 ⟨rfl, hb1, hk1, hs1⟩
  have hr1 := h.row.kept hk1 h.ne
  go_wp2_with fail
  go_ret
  exact ⟨rfl, hk1, ⟨hb1, hr1, hge⟩⟩
 | true =>
  go_enter Tryd.func55, Tryd.ntmps55
  go_wp2_with fail
  refine hBu.mono ?_
  rintro e w1 ⟨rfl, hb1, hk1, hs1⟩
  have hr1 := h.row.kept hk1 h.ne
  have hne := h.ne
  have c0 := blk_cell hb1 0
  have c1 := blk_cell hb1 1
  have f1 := blk_frozen hb1 1
  have hbk4 := blk_put hb1 1 (.int .i64 (xs.length : Int)) rfl
  have hk4 := hk1.setCell (p := ⟨t, 1, none⟩) (.inl rfl) (.int .i64 (xs.length : Int))
  have hr4 := hr1.kept ((Tur.refl w1 (fun k => k = t)).setCell (p := ⟨t, 1, none⟩) (.inl rfl) (.int .i64 (xs.length : Int))) hne
  go_wp2_with fail
  go_ret
  exact ⟨rfl, hk4, ⟨hbk4, hr4, hge⟩⟩
/-- A cut of a row of bytes up to a place. -/
theorem take_row {w : World} {A : Option Addr} {l : List Int} {c : Nat} (h : Kd.C (Kd.int .u8) w A l.length l) (hc : l.length ≤ c) (n : Nat) (hn : n ≤ l.length) :
  ∃ Ad cd, (∀ W, Sem.run Tryd.prog (Instr.slice 22 (.slice A l.length c) none (some (.int .i64 (n : Int))) none) W = .ok (.slice Ad n cd) W) ∧ Kd.C (Kd.int .u8) w Ad n (l.take n) ∧ n ≤ cd := by
 obtain ⟨i05, hi05, _, hsz5, _⟩ := info_parts (show (Tryd.prog.info? 5).map (fun i => (i.zero, i.size, i.bytes)) = some (some (.int .u8 0), 1, 1) by kernel_rfl)
 have hcut := cut_to (P := Tryd.prog) 22 5 .i64 Tryd.underlying22 hi05 A l.length c (n : Int) (by omega) (by omega) hc
 simp only [Int.toNat_natCast] at hcut
 have hC := Kd.C_take h hn
 rw [show (l.take n).length = n by rw [List.length_take]; omega] at hC
 exact ⟨_, _, hcut, hC, by omega⟩
set_option maxHeartbeats 4000000 in
set_option maxRecDepth 100000 in
/-- Write: bytes come behind, as many as the fuse lets. -/
theorem write_says (base t : Nat) (v : Value) (xs ys : List Int) (sure fuse : Int) (down : Bool) (A : Option Addr) (c : Nat) (w : World) (h : TapeAt w base t v xs sure fuse down) (hC : Kd.C (Kd.int .u8) w A ys.length ys) (hcy : ys.length ≤ c) (hl : xs.length + ys.length ≤ 1000000000) (hbase : base ≤ w.heap.size) (hf : -9223372036854775808 ≤ fuse ∧ fuse < 9223372036854775808)
  (done : Nat) (fuse1 : Int) (ok down1 : Bool) (hB : burnL (ys.length : Int) fuse down false = (((done : Int), ok), (fuse1, down1))) (hd : done ≤ ys.length) :
  Calls Tryd.prog 54 #[.pointer (some ⟨t, 0, none⟩), .slice A ys.length c] w fun e w' =>
   e = .returned (.int .i64 (if ok = true then 0 else 8)) ∧ Tur w w' (fun k => k = t ∨ v.ownBlock = some k) ∧
   ∃ v', TapeAt w' base t v' (xs ++ ys.take done) sure fuse1 down1 ∧ (v'.ownBlock = v.ownBlock ∨ ∀ k, v'.ownBlock = some k → w.heap.size ≤ k) := by
 have hge := h.ge
 obtain ⟨Av, cv, rfl, hcv, hCv⟩ := h.row.slice
 have hBu := (burn_says t _ sure fuse (ys.length : Int) down false w h.blk (by omega) hf)
 rw [hB] at hBu
 cases ok
 all_goals
  go_enter Tryd.func54, Tryd.ntmps54
  go_wp2_with fail
  refine hBu.mono ?_
  rintro e w1 ⟨rfl, hb1, hk1, hs1⟩
  have hr1 := h.row.kept hk1 h.ne
  have hC1 := C_tape h.blk ⟨_, _, _, rfl⟩ hC hk1
  have hne := h.ne
  obtain ⟨Ad, cd, hcut, hCd, hcd⟩ := take_row hC1 hcy done hd
  have hdl : (ys.take done).length = done := by rw [List.length_take]; omega
  obtain ⟨zs, hz⟩ : ∃ zs, zs = ys.take done := ⟨_, rfl⟩
  rw [← hz] at hCd hdl
  have Hz := Lib.hid hz
  clear hz
  subst hdl
  have LL := Lib.hid (show xs.length + zs.length ≤ 140737488355328 by omega)
  have hsz1 : w.heap.size ≤ w1.heap.size := hk1.kept.1
  clear hd hl hcy hcd hC1 hCv hC
  go_wp2_with fail
  have hb1 : w1.drew.heap[t]? = _ := hb1
  have hk1 : Tur w w1.drew (fun k => k = t) := hk1.drew
  have hr1 : RowB w1.drew base 5 (.slice Av xs.length cv) xs := hr1.kept (Tur.drew (Tur.refl w1 (fun _ => False))) (fun _ _ h => h)
  have hCd : Kd.C (Kd.int .u8) w1.drew Ad zs.length zs := Kd.C_drew hCd
  have hsz1 : w.heap.size ≤ w1.drew.heap.size := hsz1
  have LB := Lib.hid (show base ≤ w1.drew.heap.size by omega)
  have c0 := blk_cell hb1 0
  -- [W
  refine start_ (n := 12) (S := fun w' => w'.cell? ⟨t, 0, none⟩ = some (.slice Av xs.length cv)) (ds := [8, 11]) #[false, false, false, false, false, false, false, false, false, false, false, false] (by kernel_rfl) rfl rfl (c0) (fun hHeld => ?_)
  generalize w1.drew = w1 at hb1 hk1 hr1 hCd hsz1 LB hHeld ⊢
  refine pure_ (i := 0) (N := some 16) (v := ?_) (a' := ?_) #[true, false, false, false, false, false, false, false, false, false, false, false] rfl rfl (by kernel_rfl) (fun _ _ _ h => h) (Or.inl ⟨by rfl, ?_⟩) ?_ ?_
  rotate_left
  ·
   intro w'
   go_simp
   with_reducible rfl
  rotate_left
  ·
   simp only [Act.put, List.setIfInBounds_toArray, List.set_cons_zero, List.set_cons_succ, i64_w, i32_w]
   rfl
  refine pure_ (i := 1) (N := some 17) (v := ?_) (a' := ?_) #[true, true, false, false, false, false, false, false, false, false, false, false] rfl rfl (by kernel_rfl) (fun _ _ _ h => h) (Or.inl ⟨by rfl, ?_⟩) ?_ ?_
  rotate_left
  ·
   intro w'
   go_simp
   with_reducible rfl
  rotate_left
  ·
   simp only [Act.put, List.setIfInBounds_toArray, List.set_cons_zero, List.set_cons_succ, i64_w, i32_w]
   rfl
  refine pure_ (i := 2) (N := some 18) (v := ?_) (a' := ?_) #[true, true, true, false, false, false, false, false, false, false, false, false] rfl rfl (by kernel_rfl) (fun _ _ _ h => h) (Or.inl ⟨by rfl, ?_⟩) ?_ ?_
  rotate_left
  ·
   intro w'
   go_simp
   with_reducible rfl
  rotate_left
  ·
   simp only [Act.put, List.setIfInBounds_toArray, List.set_cons_zero, List.set_cons_succ, i64_w, i32_w]
   rfl
  refine pure_ (i := 3) (N := some 19) (v := ?_) (a' := ?_) #[true, true, true, true, false, false, false, false, false, false, false, false] rfl rfl (by kernel_rfl) (fun _ _ _ h => h) (Or.inl ⟨by rfl, ?_⟩) ?_ ?_
  rotate_left
  ·
   intro w'
   go_simp
   with_reducible rfl
  rotate_left
  ·
   simp only [Act.put, List.setIfInBounds_toArray, List.set_cons_zero, List.set_cons_succ, i64_w, i32_w]
   rfl
  refine pure_ (i := 5) (N := some 21) (v := ?_) (a' := ?_) #[true, true, true, true, false, true, false, false, false, false, false, false] rfl rfl (by kernel_rfl) (fun _ _ _ h => h) (Or.inl ⟨by rfl, ?_⟩) ?_ ?_
  rotate_left
  ·
   intro w'
   go_simp
   with_reducible rfl
  rotate_left
  ·
   simp only [Act.put, List.setIfInBounds_toArray, List.set_cons_zero, List.set_cons_succ, i64_w, i32_w]
   rfl
  refine pure_ (i := 6) (N := some 22) (v := ?_) (a' := ?_) #[true, true, true, true, false, true, true, false, false, false, false, false] rfl rfl (by kernel_rfl) (fun _ _ _ h => h) (Or.inl ⟨by rfl, ?_⟩) ?_ ?_
  rotate_left
  ·
   intro w'
   go_simp
   with_reducible rfl
  rotate_left
  ·
   simp only [Act.put, List.setIfInBounds_toArray, List.set_cons_zero, List.set_cons_succ, i64_w, i32_w]
   rfl
  refine pure_ (i := 7) (N := some 23) (v := ?_) (a' := ?_) #[true, true, true, true, false, true, true, true, false, false, false, false] rfl rfl (by kernel_rfl) (fun _ _ _ h => h) (Or.inl ⟨by rfl, ?_⟩) ?_ ?_
  rotate_left
  ·
   intro w'
   go_simp
   with_reducible rfl
  rotate_left
  ·
   simp only [Act.put, List.setIfInBounds_toArray, List.set_cons_zero, List.set_cons_succ, i64_w, i32_w]
   rfl
  refine take_ (i := 4) (N := some 20) (v := ?_) (a' := ?_) #[true, true, true, true, true, true, true, true, false, false, false, false] rfl rfl (by kernel_rfl) (fun _ _ _ h => h) (Or.inl ⟨by rfl, ?_⟩) hHeld ?_ ?_
  rotate_left
  ·
   intro w' s0
   go_simp
   with_reducible rfl
  rotate_left
  ·
   simp only [Act.put, List.setIfInBounds_toArray, List.set_cons_zero, List.set_cons_succ, i64_w, i32_w]
   rfl
  refine last_ (i := 8) (N := some 24) #[true, true, true, true, true, true, true, true, true, false, false, false] rfl rfl (by kernel_rfl) (by decide) (fun K hK => ?_)
  refine append_RB_step (W := w1) base ?hw (.tmp 20) (.tmp 23) 22 5 rfl Tryd.underlying22 (show (Tryd.prog.info? 5).map (fun i => (i.zero, i.size, i.bytes)) = some (some (.int .u8 0), 1, 1) by kernel_rfl) (.slice Av xs.length cv) xs zs Ad cd rfl rfl hr1 hCd LB LL ?_
  (case hw => rfl)
  intro v2 w2 ho2 hg2 hat2
  obtain ⟨A2, c2, ev2, hc2, hC2⟩ := ho2.slice
  subst ev2
  simp only [List.length_append] at ho2 hat2
  clear hc2 hC2
  have hb2 := blk_grown hb1 hg2 (fun e => absurd rfl (hne t e.symm))
  have c0 := blk_cell hb2 0
  have f0 := blk_frozen hb2 0
  refine hK.out _ _ ?_
  clear hK K
  refine norm_ (a' := ?_) ?_ ?_
  rotate_left
  ·
   show Act.put _ (some 24) _ = _
   simp only [Act.put, List.setIfInBounds_toArray, List.set_cons_zero, List.set_cons_succ, i64_w, i32_w]
   rfl
  refine pure_ (i := 9) (N := some 25) (v := ?_) (a' := ?_) #[true, true, true, true, true, true, true, true, true, true, false, false] rfl rfl (by kernel_rfl) (fun _ _ _ h => h) (Or.inl ⟨by rfl, ?_⟩) ?_ ?_
  rotate_left
  ·
   intro w'
   go_simp
   with_reducible rfl
  rotate_left
  ·
   simp only [Act.put, List.setIfInBounds_toArray, List.set_cons_zero, List.set_cons_succ, i64_w, i32_w]
   rfl
  refine pure_ (i := 10) (N := some 26) (v := ?_) (a' := ?_) #[true, true, true, true, true, true, true, true, true, true, true, false] rfl rfl (by kernel_rfl) (fun _ _ _ h => h) (Or.inl ⟨by rfl, ?_⟩) ?_ ?_
  rotate_left
  ·
   intro w'
   go_simp
   with_reducible rfl
  rotate_left
  ·
   simp only [Act.put, List.setIfInBounds_toArray, List.set_cons_zero, List.set_cons_succ, i64_w, i32_w]
   rfl
  refine last_ (i := 11) (N := none) #[true, true, true, true, true, true, true, true, true, true, true, true] rfl rfl (by kernel_rfl) (by decide) (fun K hK => ?_)
  refine skip_ (w1 := ?_) (by rfl) rfl ?_ ?_
  rotate_left
  ·
   go_simp
   rfl
  refine hK.out _ _ ?_
  clear hK K
  refine done_ (by kernel_rfl) ?_
  -- W]
  go_wp2_with fail
  go_ret
  have hk2 : Tur w w2 (fun k => k = t ∨ (Value.slice Av xs.length cv).ownBlock = some k) := Tur.of_grown hg2 (hk1.mono (fun _ h => .inl h)) (fun k hk => .inl (.inr hk))
  have hne2 : ∀ k, (Value.slice A2 (xs.length + zs.length) c2).ownBlock = some k → k ≠ t := fun k hk => by
   obtain ⟨cells, hc⟩ := (ho2.typed k hk).2
   exact blk_ne hc hb2 (by decide)
  have ho3 := ho2.kept ((Tur.refl w2 (fun k => k = t)).setCell (p := ⟨t, 0, none⟩) (.inl rfl) (.slice A2 (xs.length + zs.length) c2)) hne2
  refine ⟨rfl, hk2.setCell (p := ⟨t, 0, none⟩) (.inl (.inl rfl)) _, _, ⟨blk_put hb2 0 _ rfl, ?_, hge⟩, ?_⟩
  ·
   rw [← (show zs = ys.take zs.length from Hz)]; exact ho3
  ·
   rcases hat2 with h | ⟨b, h, hb⟩
   ·
    exact .inl h
   ·
    exact .inr (fun k hk => by rw [h] at hk; cases hk; omega)
/-- Crash: so many bytes are left. -/
def keepL (n sure keep : Int) : Int := sure + min (max keep 0) (n - sure)
set_option maxHeartbeats 4000000 in
set_option maxRecDepth 100000 in
theorem crash_says (base t : Nat) (v : Value) (xs : List Int) (sure keep fuse : Int) (down : Bool) (w : World) (h : TapeAt w base t v xs sure fuse down) (hl : xs.length ≤ 1000000000) (hs : 0 ≤ sure ∧ sure ≤ xs.length) (hk : -9223372036854775808 ≤ keep ∧ keep < 9223372036854775808)
  (j : Nat) (hj : keepL xs.length sure keep = (j : Int)) (hjl : j ≤ xs.length) :
  Calls Tryd.prog 20 #[.pointer (some ⟨t, 0, none⟩), .int .i64 keep] w fun e w' =>
   e = .returned (.tuple #[]) ∧ Tur w w' (fun k => k = t) ∧ ∃ v', TapeAt w' base t v' (xs.take j) (j : Int) (-1) false ∧ (v'.ownBlock = v.ownBlock ∨ v'.ownBlock = none) := by
 have hge := h.ge
 have hb := h.blk
 have hne := h.ne
 obtain ⟨Av, cv, rfl, hcv, hCv⟩ := h.row.slice
 have c0 := blk_cell hb 0
 have c1 := blk_cell hb 1
 have f1 := blk_frozen hb 1
 have e1 : IntKind.i64.wrap ((xs.length : Int) - sure) = (xs.length : Int) - sure := IntWalk.i64_in _ (by omega)
 go_enter Tryd.func20, Tryd.ntmps20
 have e2 : IntKind.i64.wrap (sure + min (max keep 0) ((xs.length : Int) - sure)) = (j : Int) := by
  have h9 := hj; unfold keepL at h9; rw [IntWalk.i64_in _ (by omega)]; exact h9
 have hk1 : Tur w w.drew (fun k => k = t) := Tur.drew (Tur.refl w _)
 have hr1 := h.row.kept hk1 hne
 go_wp2_with fail
 go_still (by kernel_rfl)
 change Exit.then _ _ _ _ w.drew
 have hb1 : w.drew.heap[t]? = _ := hb
 clear c0 c1 f1 hb
 generalize w.drew = w1 at hb1 hk1 hr1 ⊢
 have c1 := blk_cell hb1 1
 have f1 := blk_frozen hb1 1
 have hb2 := blk_put hb1 1 (.int .i64 (j : Int)) rfl
 have hk2 := hk1.setCell (p := ⟨t, 1, none⟩) (.inl rfl) (.int .i64 (j : Int))
 have hr2 := hr1.kept ((Tur.refl w1 (fun k => k = t)).setCell (p := ⟨t, 1, none⟩) (.inl rfl) (.int .i64 (j : Int))) hne
 go_wp2_with fail
 clear c1 f1
 have hb3 : (w1.setCell ⟨t, 1, none⟩ (.int .i64 (j : Int))).drew.heap[t]? = _ := hb2
 have hk3 := Tur.drew hk2
 have hr3 : RowB (w1.setCell ⟨t, 1, none⟩ (.int .i64 (j : Int))).drew base 5 (.slice Av xs.length cv) xs := hr2.kept (Tur.drew (Tur.refl _ (fun _ => False))) (fun _ _ h => h)
 have c0 := blk_cell hb3 0
 have c1 := blk_cell hb3 1
 obtain ⟨i05, hi05, _, hsz5, _⟩ := info_parts (show (Tryd.prog.info? 5).map (fun i => (i.zero, i.size, i.bytes)) = some (some (.int .u8 0), 1, 1) by kernel_rfl)
 have hcut := cut_full (P := Tryd.prog) 22 5 .i64 .i64 Tryd.underlying22 hi05 Av xs.length cv j (by omega)
 clear hi05 hsz5
 refine wp_region_still_tail 16 (by kernel_rfl) (by kernel_rfl) ?_
 simp only [List.take_succ_cons, List.take_zero, List.drop_succ_cons, List.drop_zero]
 change wpStill _ _ (w1.setCell ⟨t, 1, none⟩ (.int .i64 (j : Int))).drew _ _ _
 repeat still_step
 refine wpStill_nil ?_
 change wpList _ _ _ _ _ (w1.setCell ⟨t, 1, none⟩ (.int .i64 (j : Int))).drew
 clear c0 c1 hb2 hk2 hr2 hcut
 generalize (w1.setCell ⟨t, 1, none⟩ (.int .i64 (j : Int))).drew = w3 at hb3 hk3 hr3 ⊢
 have c0 := blk_cell hb3 0
 have f0 := blk_frozen hb3 0
 have hr4 := RowB.cut hr3 j hjl
 have hb4 := blk_put hb3 0 (.slice Av j j) rfl
 have hk4 := hk3.setCell (p := ⟨t, 0, none⟩) (.inl rfl) (.slice Av j j)
 have hne4 : ∀ k, (Value.slice Av j j).ownBlock = some k → k ≠ t := fun k hk => by
  obtain ⟨cells, hc⟩ := (hr4.typed k hk).2
  exact blk_ne hc hb3 (by decide)
 have hr5 := hr4.kept ((Tur.refl w3 (fun k => k = t)).setCell (p := ⟨t, 0, none⟩) (.inl rfl) (.slice Av j j)) hne4
 have c2 := blk_cell hb4 2
 have f2 := blk_frozen hb4 2
 have hb5 := blk_put hb4 2 (.int .i64 (-1)) rfl
 have hk5 := hk4.setCell (p := ⟨t, 2, none⟩) (.inl rfl) (.int .i64 (-1))
 have hr6 := hr5.kept ((Tur.refl _ (fun k => k = t)).setCell (p := ⟨t, 2, none⟩) (.inl rfl) (.int .i64 (-1))) hne4
 have c3 := blk_cell hb5 3
 have f3 := blk_frozen hb5 3
 have hb6 := blk_put hb5 3 (.bool false) rfl
 have hk6 := hk5.setCell (p := ⟨t, 3, none⟩) (.inl rfl) (.bool false)
 have hr7 := hr6.kept ((Tur.refl _ (fun k => k = t)).setCell (p := ⟨t, 3, none⟩) (.inl rfl) (.bool false)) hne4
 have hown : (Value.slice Av j j).ownBlock = (Value.slice Av xs.length cv).ownBlock ∨ (Value.slice Av j j).ownBlock = none := .inl (by cases Av <;> rfl)
 clear hk4 hk5 hr4 hr5 hr6 hr3 hk3
 go_wp2_with fail
 go_end0
 exact ⟨rfl, hk6, _, ⟨hb6, hr7, hge⟩, hown⟩
end Go.Proofs.YtkmokcfnfhabgaaDoor.X
