/- A part of the proof of a card: what some functions of the program come to, each under the conditions that its theorem names. -/
import Derived.Maps.AppendAt
import Derived.Lib.ConvBytes
import Derived.Lib.BufferWrite
import Derived.Great.BuildSlice
import Derived.Laws.Cover3
import Derived.Laws.StructEq
import Derived.Deep.Cut
import Derived.KernelRfl
import Derived.Test.YtpoblffgclmmlaaGreatDoorPkPk5
section
set_option linter.unusedVariables false
set_option linter.unusedSimpArgs false
namespace Go.Proofs.YtpoblffgclmmlaaGreatDoor.X
open Go.RowKit Go.Proofs.YtpoblffgclmmlaaGreatDoorW.PrintWords Go.Proofs.YtpoblffgclmmlaaGreatDoorW.PrintMore

def OwnM (w : World) (base e : Nat) (v : Value) (xs : List Int) : Prop :=
 ∃ g cap cur fz, v = .slice (some ⟨g, 0, none⟩) xs.length cap ∧ base ≤ g ∧ w.heap[g]? = some (.cells cur e fz) ∧ (fz = (0, 0) ∨ cur.size ≤ fz.1) ∧ xs.length ≤ cap ∧ cap ≤ maxLen ∧ cur.size = cap ∧ cur.toList.take xs.length = nums .u8 xs

theorem OwnM.of_bytes (w : World) (e base : Nat) (hb : base ≤ w.heap.size) (s : ByteArray) (hs : s.size ≤ maxLen) : OwnM (Lib.bytesWorld w e s) base e (.slice (some ⟨w.heap.size, 0, none⟩) s.size (grownCap w s.size 0 e)) (bytesOf s) := by
 refine ⟨w.heap.size, grownCap w s.size 0 e, Lib.bytesCells w e s, _, by rw [bytesOf_length], hb, Lib.bytesWorld_at_new w e s, .inr (Nat.le_refl _), by rw [bytesOf_length]; exact grownCap_ge w _ 0 e, grownCap_le_maxLen w _ 0 e hs, ?_, ?_⟩
 ·
  have := grownCap_ge w s.size 0 e
  simp only [Lib.bytesCells, Array.size_append, Array.size_map, Array.size_replicate]
  show s.size + _ = _
  omega
 ·
  rw [bytesOf_length]
  simp only [Lib.bytesCells, Array.toList_append, Array.toList_map]
  rw [List.take_left' (by rw [List.length_map]; exact data_length s)]
  simp [nums, bytesOf]

theorem OwnM.lt {w : World} {base e : Nat} {v : Value} {xs : List Int} (h : OwnM w base e v xs) : ∀ k, v.ownBlock = some k → base ≤ k ∧ k < w.heap.size := by
 obtain ⟨g, cap, cur, fz, rfl, hb, hg, _⟩ := h
 intro k hk
 simp [Value.ownBlock] at hk
 subst hk
 exact ⟨hb, (Array.getElem?_eq_some_iff.1 hg).1⟩
theorem OwnM.kept {w w1 : World} {base e : Nat} {v : Value} {xs : List Int} (h : OwnM w base e v xs) (hk : ∀ k, v.ownBlock = some k → w1.heap[k]? = w.heap[k]?) : OwnM w1 base e v xs := by
 obtain ⟨g, cap, cur, fz, rfl, hb, hg, rest⟩ := h
 exact ⟨g, cap, cur, fz, rfl, hb, (hk g (by simp [Value.ownBlock])).trans hg, rest⟩
theorem OwnM.cell {w : World} {base e : Nat} {v : Value} {xs : List Int} (h : OwnM w base e v xs) : ∃ g cap, v = .slice (some ⟨g, 0, none⟩) xs.length cap ∧ base ≤ g ∧ ∀ i, i < xs.length → w.cell? ⟨g, i, none⟩ = some (.int .u8 (rd xs (i : Int))) := by
 obtain ⟨g, cap, cur, fz, rfl, hb, hg, hf, hl, hm, hc, ht⟩ := h
 refine ⟨g, cap, rfl, hb, fun i hi => ?_⟩
 rw [cell_of_row w g i cur e fz hg]
 have : (cur.toList.take xs.length)[i]? = (nums .u8 xs)[i]? := by rw [ht]
 rw [List.getElem?_take, if_pos hi, Array.getElem?_toList] at this
 rw [this]
 simp [nums, rd, List.getD_eq_getElem?_getD, List.getElem?_eq_getElem hi]
theorem OwnM.alloc {w : World} {base e : Nat} {v : Value} {xs : List Int} (h : OwnM w base e v xs) (o : Obj) : OwnM (w.alloc o) base e v xs :=
 h.kept fun k hk => heap_alloc_old w o (h.lt k hk).2

section
variable {P : Program}
end
/-- The mark of a text. -/
def markL (s : ByteArray) : List Int := (bytesOf (sumS s.data.toList)).take 4
theorem strOfNums_size (xs : List Int) : (strOfNums xs).size = xs.length := by simp [strOfNums, ByteArray.size]
theorem sumS_size (l : List UInt8) : (sumS l).size = 32 := by unfold sumS; rw [strOfNums_size, fourTo_length]
theorem all_range_eqI : ∀ (xs ys : List Int), xs.length = ys.length → (List.range xs.length).all (fun i => xs.getD i 0 == ys.getD i 0) = (xs == ys)
 | [], [], _ => rfl
 | x :: xs, y :: ys, h => by
  have ih := all_range_eqI xs ys (by simpa using h)
  rw [List.length_cons, List.range_succ_eq_map, List.all_cons, List.all_map]
  simp only [List.getD_cons_zero, Function.comp_def, List.getD_cons_succ, ih]
  simp [List.cons_beq_cons]
 | [], _ :: _, h => by simp at h
 | _ :: _, [], h => by simp at h
/-- Two arrays of numbers held against one another. -/
theorem run_equalIn_nums {P : Program} (w : World) (d : Nat) (t e : TypeId) (n : Nat) {k : IntKind} (ht : P.underlying t = some (.array n e)) (he : P.underlying e = some (.int k)) (hsz : ∀ w, (sizeOf e).run P w = .ok 1 w)
  (xs ys : List Int) (hx : xs.length = n) (hy : ys.length = n) :
  (Op.equalIn (d + 2) t (.agg (nums k xs).toArray) (.agg (nums k ys).toArray)).run P w = .ok (xs == ys) w := by
 rw [← all_range_eqI xs ys (hx.trans hy.symm), hx, List.range_eq_range', Op.equalIn]
 simp only [Sem.run_bind, run_underlying ht, Result.andThen_ok, hsz, Std.Legacy.Range.forIn_eq_forIn_range', Std.Legacy.Range.size, Nat.sub_zero, Nat.add_sub_cancel, Nat.div_one]
 have hl : ∀ i ∈ List.range' 0 n 1, i < n := fun i hi => by simpa using (List.mem_range'_1.1 hi).2
 generalize List.range' 0 n 1 = l at hl ⊢
 induction l with
 | nil => simp
 | cons i l ih =>
  have hi : i < n := hl i (by simp)
  have px : (part e (nums k xs).toArray (i * 1)).run P w = .ok (.int k (xs.getD i 0)) w := by
   simp [part, isAgg, run_underlying he, nums, List.getD, List.getElem?_eq_getElem (show i < xs.length by omega)]
  have py : (part e (nums k ys).toArray (i * 1)).run P w = .ok (.int k (ys.getD i 0)) w := by
   simp [part, isAgg, run_underlying he, nums, List.getD, List.getElem?_eq_getElem (show i < ys.length by omega)]
  have pe : (Op.equalIn (d + 1) e (.int k (xs.getD i 0)) (.int k (ys.getD i 0))).run P w = .ok (xs.getD i 0 == ys.getD i 0) w := by
   rw [run_equalIn_int w d e k k _ _ he]; try simp
  simp only [List.forIn_cons, Sem.run_bind, px, py, pe, Result.andThen_ok, List.all_cons]
  cases hb : (xs.getD i 0 == ys.getD i 0)
  ·
   simp
  ·
   simp only [Bool.not_true, Bool.false_eq_true, if_false, Sem.run_pure, Result.andThen_ok, Bool.true_and]
   exact ih fun j hj => hl j (by simp [hj])
/-- A conversion to a text of a row that may be shared. -/
theorem V_string {P : Program} {W : World} {src dst e e' base n c : Nat} {ok : Nat → Prop} {A : Option Addr} {xs : List Int} (hs : P.underlying src = some (.slice e)) (he : P.underlying e = some (.int .u8)) (hd : P.underlying dst = some .string)
  (h : Kd.V (Kd.int .u8) e' W base ok (.slice A n c) xs) : (convert src dst (.slice A n c)).run P W = .ok (.string (strOfNums xs)) W := by
 obtain ⟨rfl, -, hC⟩ := Kd.V_reads' h
 exact Kd.C_string (P := P) (A := A) (c := c) hs he hd hC
end Go.Proofs.YtpoblffgclmmlaaGreatDoor.X
end
section
set_option linter.unusedVariables false
set_option linter.unusedSimpArgs false
namespace Go.Proofs.YtpoblffgclmmlaaGreatDoor.X
open Go.RowKit Go.Proofs.YtpoblffgclmmlaaGreatDoorW.PrintWords Go.Proofs.YtpoblffgclmmlaaGreatDoorW.PrintMore
set_option maxRecDepth 100000 in
theorem sum_nil : (bt (sumS []) 0, bt (sumS []) 1, bt (sumS []) 2, bt (sumS []) 3) = (227, 176, 196, 66) := by kernel_rfl

end Go.Proofs.YtpoblffgclmmlaaGreatDoor.X
end
