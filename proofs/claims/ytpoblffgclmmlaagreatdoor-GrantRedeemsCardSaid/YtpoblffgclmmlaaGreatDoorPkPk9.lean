/- A part of the proof of a card: what some functions of the program come to, each under the conditions that its theorem names. -/
import Derived.Maps.AppendAt
import Derived.Lib.ConvBytes
import Derived.Lib.BufferWrite
import Derived.Great.BuildSlice
import Derived.Laws.Cover3
import Derived.Laws.StructEq
import Derived.Deep.Cut
import Derived.KernelRfl
import Derived.Test.YtpoblffgclmmlaaGreatDoorPkPk7
section
set_option linter.unusedVariables false
set_option linter.unusedSimpArgs false
namespace Go.Proofs.YtpoblffgclmmlaaGreatDoor.X
open Go.RowKit Go.Proofs.YtpoblffgclmmlaaGreatDoorW.PrintWords Go.Proofs.YtpoblffgclmmlaaGreatDoorW.PrintMore

def OwnM (w : World) (base e : Nat) (v : Value) (xs : List Int) : Prop :=
 ∃ g cap cur fz, v = .slice (some ⟨g, 0, none⟩) xs.length cap ∧ base ≤ g ∧ w.heap[g]? = some (.cells cur e fz) ∧ (fz = (0, 0) ∨ cur.size ≤ fz.1) ∧ xs.length ≤ cap ∧ cap ≤ maxLen ∧ cur.size = cap ∧ cur.toList.take xs.length = nums .u8 xs

theorem OwnM.of_bytes (w : World) (e base : Nat) (hb : base ≤ w.heap.size) (s : ByteArray) (hs : s.size ≤ maxLen) : OwnM (Lib.bytesWorld w e s) base e (.slice (some ⟨w.heap.size, 0, none⟩) s.size (grownCap w s.size 0 e)) (bytesOf s) := by
 refine ⟨w.heap.size, grownCap w s.size 0 e, Lib.bytesCells w e s, _, by rw [bytesOf_length], hb, Lib.bytesWorld_at_new w e s, .inr (Nat.le_refl _), by rw [bytesOf_length]; exact grownCap_ge w _ 0 e, grownCap_le_maxLen w _ 0 e hs, ?_, ?_⟩
 ·
  have := grownCap_ge w s.size 0 e
  simp only [Lib.bytesCells, Array.size_append, Array.size_map, Array.size_replicate]
  show s.size + _ = _
  omega
 ·
  rw [bytesOf_length]
  simp only [Lib.bytesCells, Array.toList_append, Array.toList_map]
  rw [List.take_left' (by rw [List.length_map]; exact data_length s)]
  simp [nums, bytesOf]

theorem OwnM.lt {w : World} {base e : Nat} {v : Value} {xs : List Int} (h : OwnM w base e v xs) : ∀ k, v.ownBlock = some k → base ≤ k ∧ k < w.heap.size := by
 obtain ⟨g, cap, cur, fz, rfl, hb, hg, _⟩ := h
 intro k hk
 simp [Value.ownBlock] at hk
 subst hk
 exact ⟨hb, (Array.getElem?_eq_some_iff.1 hg).1⟩
theorem OwnM.kept {w w1 : World} {base e : Nat} {v : Value} {xs : List Int} (h : OwnM w base e v xs) (hk : ∀ k, v.ownBlock = some k → w1.heap[k]? = w.heap[k]?) : OwnM w1 base e v xs := by
 obtain ⟨g, cap, cur, fz, rfl, hb, hg, rest⟩ := h
 exact ⟨g, cap, cur, fz, rfl, hb, (hk g (by simp [Value.ownBlock])).trans hg, rest⟩
theorem OwnM.cell {w : World} {base e : Nat} {v : Value} {xs : List Int} (h : OwnM w base e v xs) : ∃ g cap, v = .slice (some ⟨g, 0, none⟩) xs.length cap ∧ base ≤ g ∧ ∀ i, i < xs.length → w.cell? ⟨g, i, none⟩ = some (.int .u8 (rd xs (i : Int))) := by
 obtain ⟨g, cap, cur, fz, rfl, hb, hg, hf, hl, hm, hc, ht⟩ := h
 refine ⟨g, cap, rfl, hb, fun i hi => ?_⟩
 rw [cell_of_row w g i cur e fz hg]
 have : (cur.toList.take xs.length)[i]? = (nums .u8 xs)[i]? := by rw [ht]
 rw [List.getElem?_take, if_pos hi, Array.getElem?_toList] at this
 rw [this]
 simp [nums, rd, List.getD_eq_getElem?_getD, List.getElem?_eq_getElem hi]
theorem OwnM.alloc {w : World} {base e : Nat} {v : Value} {xs : List Int} (h : OwnM w base e v xs) (o : Obj) : OwnM (w.alloc o) base e v xs :=
 h.kept fun k hk => heap_alloc_old w o (h.lt k hk).2

section
variable {P : Program}
theorem run_append_M (w : World) (base t ty e : Nat) (i : TypeInfo) (ht : P.underlying t = some (.slice e)) (hi : P.info? e = some i) (hz : i.zero = some (.int .u8 0)) (hs : i.size = 1) (hby : i.bytes = 1)
  (v : Value) (xs : List Int) (h : OwnM w base e v xs) (a : Addr) (c : Nat) (x : Int) (hx : w.cell? a = some (.int .u8 x)) (ha : a.add 0 = a) (hl : xs.length + 1 ≤ 140737488355328) (hbase : base ≤ w.heap.size) :
  ∃ v' w', (Builtin.append_ #[t, t] ty #[v, .slice (some a) 1 c]).run P w = .ok v' w' ∧ OwnM w' base e v' (xs ++ [x]) ∧ w.grownBy w' v.ownBlock := by
 obtain ⟨g, cap, cur, fz, rfl, hbg, hg, hf, hn, hcm, hcs, htake⟩ := h
 have hnews : ∀ j u, [Value.int IntKind.u8 x][j]? = some u → w.cell? (a.add j) = some u := by
  intro j u hj
  match j, hj with
  | 0, hj => simp at hj; subst hj; rw [ha]; exact hx
 have h1 : ∀ u ∈ [Value.int IntKind.u8 x], u.oneCell' = true := by intro u hu; simp at hu; subst hu; rfl
 by_cases hroom : xs.length + 1 ≤ cap
 ·
  have hlt : xs.length < cur.size := by omega
  have hcell : w.cell? ⟨g, xs.length, none⟩ = some cur[xs.length] := by simp [World.cell?, hg, hlt]
  have hfro : w.frozen? ⟨g, xs.length, none⟩ = false := by
   obtain ⟨lo, hi'⟩ := fz
   simp only [World.frozen?, hg, Bool.and_eq_false_iff, decide_eq_false_iff_not]
   rcases hf with hf | hf
   ·
    simp at hf; right; omega
   ·
    left; simp only at hf; omega
  have hst : (store ⟨g, xs.length, none⟩ (.int .u8 x)).run P w = .ok () (w.setRow g (cur.setIfInBounds xs.length (.int .u8 x))) := by
   rw [run_store P w _ _ _ rfl, hcell]
   simp [hfro, setCell_eq_setRow w g xs.length cur e fz _ hg]
  have hfc := run_firstCells_some (P := P) w 1 1 a 1 c [.int .u8 x] rfl hnews
  have hst2 : (storeCells ⟨g, xs.length, none⟩ [.int .u8 x] 0).run P w = .ok () (w.setRow g (cur.setIfInBounds xs.length (.int .u8 x))) := by
   have hadd : (⟨g, xs.length, none⟩ : Addr).add 0 = ⟨g, xs.length, none⟩ := by unfold Addr.add; split <;> simp_all
   simp only [storeCells, Sem.run_bind, hadd, hst, Result.andThen_ok]
   rfl
  refine ⟨.slice (some ⟨g, 0, none⟩) (xs.length + 1) cap, w.setRow g (cur.setIfInBounds xs.length (.int .u8 x)), ?_, ?_, ⟨rfl, rfl, rfl, by simp, fun k _ hk => setRow_other w g k _ (fun e => hk (by simp [Value.ownBlock, e]))⟩⟩
  ·
   simp [Builtin.append_, run_underlying ht, sizeOf, typeInfo, hi, Builtin.lenOf, hroom, hs, hfc, Addr.add_lit, hst2]
  ·
   refine ⟨g, cap, _, fz, by rw [List.length_append]; rfl, hbg, setRow_heap w g cur _ e _ hg, ?_, by rw [List.length_append]; exact hroom, hcm, by simpa using hcs, ?_⟩
   ·
    rcases hf with hf | hf
    ·
     exact .inl hf
    ·
     exact .inr (by simpa using hf)
   ·
    rw [List.length_append, Array.toList_setIfInBounds]
    show ((cur.toList.set xs.length _).take (xs.length + 1)) = _
    rw [List.take_add_one, List.take_set_of_le (Nat.le_refl _), htake, List.getElem?_set_self (by simpa using hlt)]
    simp [nums]
 ·
  have hown : (nums .u8 xs).length = xs.length * i.size := by rw [hs]; simp [nums]
  have holds : ∀ j u, (nums .u8 xs)[j]? = some u → w.cell? ((⟨g, 0, none⟩ : Addr).add j) = some u := by
   intro j u hj
   have hadd : (⟨g, 0, none⟩ : Addr).add j = ⟨g, j, none⟩ := by unfold Addr.add; split <;> simp_all
   rw [hadd, cell_of_row w g j cur e fz hg]
   rw [← htake, List.getElem?_take] at hj
   split at hj
   ·
    simpa using hj
   ·
    cases hj
  have hr := run_append_grow (P := P) w t ty e i (.int .u8 0) ht hi hz ⟨g, 0, none⟩ xs.length cap (nums .u8 xs) hown holds a 1 c [.int .u8 x] (by rw [hs]; rfl) hnews (by simp only [maxLen] at hcm; omega) (by omega) (growslice_fits (by omega) (by rw [hby]; omega))
  have hge := grownCap_ge w (xs.length + 1) cap e
  have hcm2 : grownCap w (xs.length + 1) cap e ≤ maxLen := grownCap_le_maxLen w (xs.length + 1) cap e (by simp only [maxLen]; omega)
  refine ⟨_, _, hr, ⟨w.heap.size, _, _, (0, 0), by rw [List.length_append]; rfl, hbase, heap_alloc_new w.drew _, .inl rfl, by rw [List.length_append]; exact hge, hcm2, ?_, ?_⟩, ⟨rfl, rfl, rfl, by simp, fun k hk _ => heap_alloc_old w.drew _ hk⟩⟩
  ·
   simp only [Array.size_append, List.size_toArray, size_zeroCells]
   simp [nums, Value.cells]
   omega
  ·
   simp only [Array.toList_append, List.append_assoc]
   rw [← List.append_assoc]
   refine (List.take_left' ?_).trans ?_
   ·
    simp [nums]
   ·
    simp [nums]
theorem below_grown {base : Nat} {w0 w w1 : World} {row : Option Nat} (h : Below base w0 w) (hg : w.grownBy w1 row) (hb : base ≤ w.heap.size) (hr : ∀ k, row = some k → base ≤ k) : Below base w0 w1 :=
 h.grown hg hb hr
theorem wpList_append_M {ops : Array Oper} {rest : List Oper} {o : Oper} {a : Act} {Q : Exit → Act → World → Prop} {w0 W : World} {base t e : Nat} {i : TypeInfo} (hgd : o.guard = none) (s x : Operand)
  (ho : o.op = .call { callee := .builtin .append, args := #[s, x], argTypes := #[t, t] }) (ht : P.underlying t = some (.slice e)) (hi : P.info? e = some i) (hz : i.zero = some (.int .u8 0)) (hsz : i.size = 1) (hby : i.bytes = 1)
  (v : Value) (xs : List Int) (xv : Int) (hs : a.eval s = v) (hx : a.eval x = .slice (some ⟨W.heap.size, 0, none⟩) 1 1) (h : OwnM W base e v xs) (HB : Below base w0 W) (hbase : base ≤ W.heap.size) (hl : xs.length + 1 ≤ 140737488355328)
  (hK : ∀ v1 w1, OwnM w1 base e v1 (xs ++ [xv]) → Below base w0 w1 → base ≤ w1.heap.size → wpList P ops Q rest (a.put o.dst v1) w1) : wpList P ops Q (o :: rest) a (W.alloc (.cells #[.int .u8 xv] e)) := by
 obtain ⟨v', w', hr, h2, h3⟩ := run_append_M (P := P) (W.alloc (.cells #[.int .u8 xv] e)) base t o.type e i ht hi hz hsz hby v xs (h.alloc _) ⟨W.heap.size, 0, none⟩ 1 xv
  (by rw [cell_of_row _ W.heap.size 0 #[.int .u8 xv] e (0, 0) (heap_alloc_new W _)]; rfl) rfl hl (by simp; omega)
 refine wpList_plain hgd fun K hK2 => ?_
 unfold Oper.wp execOp
 simp only [ho, resolve, invoke, builtin, Sem.run_bind, Sem.run_pure, Result.andThen_ok, List.map_toArray, List.map_cons, List.map_nil, hs, hx, hr]
 have hb2 : base ≤ (W.alloc (.cells #[.int .u8 xv] e)).heap.size := by simp; omega
 exact hK2 _ _ (hK v' w' h2 (below_grown (HB.alloc hbase _) h3 hb2 (fun k hk => (h.lt k hk).1)) (Nat.le_trans hb2 h3.size))
end
/-- The mark of a text. -/
def markL (s : ByteArray) : List Int := (bytesOf (sumS s.data.toList)).take 4
theorem strOfNums_size (xs : List Int) : (strOfNums xs).size = xs.length := by simp [strOfNums, ByteArray.size]
theorem sumS_size (l : List UInt8) : (sumS l).size = 32 := by unfold sumS; rw [strOfNums_size, fourTo_length]
theorem all_range_eqI : ∀ (xs ys : List Int), xs.length = ys.length → (List.range xs.length).all (fun i => xs.getD i 0 == ys.getD i 0) = (xs == ys)
 | [], [], _ => rfl
 | x :: xs, y :: ys, h => by
  have ih := all_range_eqI xs ys (by simpa using h)
  rw [List.length_cons, List.range_succ_eq_map, List.all_cons, List.all_map]
  simp only [List.getD_cons_zero, Function.comp_def, List.getD_cons_succ, ih]
  simp [List.cons_beq_cons]
 | [], _ :: _, h => by simp at h
 | _ :: _, [], h => by simp at h
/-- Two arrays of numbers held against one another. -/
theorem run_equalIn_nums {P : Program} (w : World) (d : Nat) (t e : TypeId) (n : Nat) {k : IntKind} (ht : P.underlying t = some (.array n e)) (he : P.underlying e = some (.int k)) (hsz : ∀ w, (sizeOf e).run P w = .ok 1 w)
  (xs ys : List Int) (hx : xs.length = n) (hy : ys.length = n) :
  (Op.equalIn (d + 2) t (.agg (nums k xs).toArray) (.agg (nums k ys).toArray)).run P w = .ok (xs == ys) w := by
 rw [← all_range_eqI xs ys (hx.trans hy.symm), hx, List.range_eq_range', Op.equalIn]
 simp only [Sem.run_bind, run_underlying ht, Result.andThen_ok, hsz, Std.Legacy.Range.forIn_eq_forIn_range', Std.Legacy.Range.size, Nat.sub_zero, Nat.add_sub_cancel, Nat.div_one]
 have hl : ∀ i ∈ List.range' 0 n 1, i < n := fun i hi => by simpa using (List.mem_range'_1.1 hi).2
 generalize List.range' 0 n 1 = l at hl ⊢
 induction l with
 | nil => simp
 | cons i l ih =>
  have hi : i < n := hl i (by simp)
  have px : (part e (nums k xs).toArray (i * 1)).run P w = .ok (.int k (xs.getD i 0)) w := by
   simp [part, isAgg, run_underlying he, nums, List.getD, List.getElem?_eq_getElem (show i < xs.length by omega)]
  have py : (part e (nums k ys).toArray (i * 1)).run P w = .ok (.int k (ys.getD i 0)) w := by
   simp [part, isAgg, run_underlying he, nums, List.getD, List.getElem?_eq_getElem (show i < ys.length by omega)]
  have pe : (Op.equalIn (d + 1) e (.int k (xs.getD i 0)) (.int k (ys.getD i 0))).run P w = .ok (xs.getD i 0 == ys.getD i 0) w := by
   rw [run_equalIn_int w d e k k _ _ he]; try simp
  simp only [List.forIn_cons, Sem.run_bind, px, py, pe, Result.andThen_ok, List.all_cons]
  cases hb : (xs.getD i 0 == ys.getD i 0)
  ·
   simp
  ·
   simp only [Bool.not_true, Bool.false_eq_true, if_false, Sem.run_pure, Result.andThen_ok, Bool.true_and]
   exact ih fun j hj => hl j (by simp [hj])
end Go.Proofs.YtpoblffgclmmlaaGreatDoor.X
end
section
set_option linter.unusedVariables false
set_option linter.unusedSimpArgs false
namespace Go.Proofs.YtpoblffgclmmlaaGreatDoor.X
open Go.RowKit Go.Proofs.YtpoblffgclmmlaaGreatDoorW.PrintWords Go.Proofs.YtpoblffgclmmlaaGreatDoorW.PrintMore
set_option maxRecDepth 100000 in
theorem sum_nil : (bt (sumS []) 0, bt (sumS []) 1, bt (sumS []) 2, bt (sumS []) 3) = (227, 176, 196, 66) := by kernel_rfl

end Go.Proofs.YtpoblffgclmmlaaGreatDoor.X
end
