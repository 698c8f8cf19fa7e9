/- A part of the proof of a card: what some functions of the program come to, each under the conditions that its theorem names. -/
import Derived.Lib.Hide
import Derived.Laws.Rows
import Derived.Laws.Tables
import Derived.Laws.CopyOwn
import Derived.Deep.WholeRow
import Derived.Shelf.Abstract
import Derived.ChangeKeysEq
import Derived.StillTailTactics
import Derived.Test.YtpoblffgclmmlaaGreatDoorPkPk1
import Derived.Test.YtpoblffgclmmlaaGreatDoorPkPk3
import Derived.Test.YtpoblffgclmmlaaGreatDoorPkPk4
import Derived.Test.YtpoblffgclmmlaaGreatDoorPkPk6
section
set_option linter.unusedVariables false
set_option linter.unusedSimpArgs false
namespace Go.Proofs.YtpoblffgclmmlaaGreatDoor.X
open Go.RowKit Go.Proofs.YtpoblffgclmmlaaGreatDoorW.PrintWords Go.Proofs.YtpoblffgclmmlaaGreatDoorW.PrintMore

def ArrK (k : IntKind) (w : World) (b T : Nat) (xs : List Int) : Prop := w.heap[b]? = some (.cells (nums k xs).toArray T (0, 0))
section
variable {k : IntKind} {w w1 : World} {b T : Nat} {xs : List Int}
theorem arr_cell (h : ArrK k w b T xs) (i : Nat) (hi : i < xs.length) : w.cell? ⟨b, i, none⟩ = some (.int k (rd xs (i : Int))) := by
 rw [blk_cell h i]
 simp [nums, rd, List.getD_eq_getElem?_getD, List.getElem?_eq_getElem hi]
theorem arr_frozen (h : ArrK k w b T xs) (i : Nat) : w.frozen? ⟨b, i, none⟩ = false := blk_frozen h i
theorem arr_lt (h : ArrK k w b T xs) : b < w.heap.size := blk_lt h
theorem arr_set (h : ArrK k w b T xs) (i : Nat) (x : Int) : ArrK k (w.setCell ⟨b, i, none⟩ (.int k x)) b T (xs.set i x) := by
 have := blk_set h i (.int k x)
 unfold ArrK
 rw [this]
 simp [nums, List.map_set]
theorem arr_far (h : ArrK k w b T xs) {p : Addr} (hp : b ≠ p.block) (u : Value) : ArrK k (w.setCell p u) b T xs := blk_far h hp u
theorem arr_below (h : ArrK k w b T xs) (hb : Below w.heap.size w w1) : ArrK k w1 b T xs := (hb.block b (arr_lt h)).trans h
theorem arr_alloc (h : ArrK k w b T xs) (o : Obj) : ArrK k (w.alloc o) b T xs := arr_below h (below_alloc (Below.refl _ _) o)
theorem nums_one (k : IntKind) (xs : List Int) : (nums k xs).toArray.all (·.oneCell') = true := by
 rw [Array.all_eq_true_iff_forall_mem]
 intro v hv
 simp only [nums, List.mem_toArray, List.mem_map] at hv
 obtain ⟨x, _, rfl⟩ := hv
 rfl
theorem arr_setRow (h : ArrK k w b T xs) (ys : List Int) : ArrK k (w.setRow b (nums k ys).toArray) b T ys := setRow_heap w b _ _ T (0, 0) h
theorem arr_setRow_far (h : ArrK k w b T xs) {g : Nat} (hg : b ≠ g) (cs : Array Value) : ArrK k (w.setRow g cs) b T xs := (setRow_other w g b cs hg).trans h
theorem arr_load {P : Program} {ops : Array Oper} {rest : List Oper} {o : Oper} {a : Act} {Q : Exit → Act → World → Prop} (h : ArrK k w b T xs) (ty : TypeId) (x : Operand) (ho : o.op = .load ty x) (hgd : o.guard = none)
  (hx : a.eval x = .pointer (some ⟨b, 0, none⟩)) {n : Nat} {e : TypeId} (hu : P.underlying ty = some (.array n e)) (hi : (P.info? ty).map (·.size) = some xs.length)
  (hK : wpList P ops Q rest (a.put o.dst (.agg (nums k xs).toArray)) w) : wpList P ops Q (o :: rest) a w :=
 wpList_load_row hgd ty x ho b hx T _ (0, 0) _ h hu rfl (by rw [hi]; simp [nums]) hK
theorem arr_result {P : Program} {fn : Func} {p : Tmp} {ty : TypeId} (h : ArrK k w b T xs) (hr : fn.results = #[.cell p ty]) (tmps : Array Value) (hp : tmps.getD p undef = .pointer (some ⟨b, 0, none⟩))
  {n : Nat} {e : TypeId} (hu : P.underlying ty = some (.array n e)) (hi : (P.info? ty).map (·.size) = some xs.length) : (results fn tmps).run P w = .ok (.agg (nums k xs).toArray) w :=
 results_cell_row hr tmps w b T _ (0, 0) _ hp h hu rfl (by rw [hi]; simp [nums])
theorem arr_store {P : Program} {ops : Array Oper} {rest : List Oper} {o : Oper} {a : Act} {Q : Exit → Act → World → Prop} (h : ArrK k w b T xs) (ys : List Int) (hl : xs.length = ys.length) (ty : TypeId) (x y : Operand) (ho : o.op = .store ty x y) (hgd : o.guard = none)
  (hx : a.eval x = .pointer (some ⟨b, 0, none⟩)) (hy : a.eval y = .agg (nums k ys).toArray) (hi : (P.info? ty).map (·.size) = some ys.length)
  (hK : wpList P ops Q rest (a.put o.dst undef) (w.setRow b (nums k ys).toArray)) : wpList P ops Q (o :: rest) a w :=
 wpList_store_row hgd ty x y ho b _ hx hy T _ h (by rw [hi]; simp [nums]) (by simp [nums, hl]) (nums_one k ys) hK
theorem arr_new (w : World) (T : Nat) (xs : List Int) {b : Nat} (hb : b = w.heap.size) : ArrK k (w.alloc (.cells (nums k xs).toArray T)) b T xs := by subst hb; exact heap_alloc_new w _
end
theorem wp_world {P : Program} {c : Code} {Q : Exit → Act → World → Prop} {a : Act} {w : World} (h : ∀ w', w' = w → c.wp P Q a w') : c.wp P Q a w := h w rfl
theorem arr_still_load {P : Program} {k : IntKind} {w : World} {b T : Nat} {xs : List Int} {ops : Array Oper} {rest : List Oper} {o : Oper} {a : Act} {Q : Act → Prop} (h : ArrK k w b T xs) (ty : TypeId) (x : Operand) (ho : o.op = .load ty x) (hgd : o.guard = none)
  (hx : a.eval x = .pointer (some ⟨b, 0, none⟩)) {n : Nat} {e : TypeId} (hu : P.underlying ty = some (.array n e)) (hi : (P.info? ty).map (·.size) = some xs.length)
  (hK : wpStill P ops w Q rest (a.put o.dst (.agg (nums k xs).toArray))) : wpStill P ops w Q (o :: rest) a := by
 have hw : Region.wanted o (yielded ops a.tmps) = true := by simp [Region.wanted, hgd]
 unfold wpStill
 rw [if_pos hw]
 unfold Oper.still execOp
 simp only [ho, hx, Instr.loadAt, Instr.sureAddr, Sem.run_bind, Sem.run_pure, Result.andThen_ok, run_loadVar_row w b T ty _ (0, 0) _ h hu rfl (show (P.info? ty).map (·.size) = some (nums k xs).toArray.size by rw [hi]; simp [nums])]
 exact ⟨rfl, hK⟩
theorem run_index_num {P : Program} {k : IntKind} {xs : List Int} {T e n : Nat} {d : TypeDesc} {ti : TypeInfo} (hu : P.underlying T = some (.array n e)) (hd : P.underlying e = some d) (hd2 : (match d with | .struct _ | .array _ _ => true | _ => false) = false)
  (ht : P.info? e = some ti) (hs : P.cellsOf e = 1) (hn : xs.length = n) (i : Nat) (hi : i < n) (w : World) : (Instr.index T (.agg (nums k xs).toArray) (.int .i64 (i : Int))).run P w = .ok (.int k (rd xs (i : Int))) w := by
 have h2 : (nums k xs).toArray[i * 1]? = some (.int k (rd xs (i : Int))) := by
  rw [Nat.mul_one]
  simp [nums, rd, List.getD_eq_getElem?_getD, List.getElem?_eq_getElem (show i < xs.length by omega)]
 have h3 : (0 : Int) ≤ (i : Int) ∧ (i : Int) < n := by omega
 have hA := run_isAgg_plain hd hd2 w
 have hS : (sizeOf e).run P w = .ok 1 w := (run_sizeOf _ ht).trans (by rw [hs])
 have hP : (part e (nums k xs).toArray (i * 1)).run P w = .ok (.int k (rd xs (i : Int))) w := by
  unfold part
  rw [Sem.run_bind, hA]
  simp only [Result.andThen_ok, h2]
  simp
 unfold Instr.index
 simp only [asIntOf, Sem.run_bind, Sem.run_pure, Result.andThen_ok, run_underlying hu, h3, and_self, if_true, hS, Int.toNat_natCast, hP]
/-- The program's two tables. -/
def GL (w : World) : Prop := ∃ T T', ArrK .u32 w 0 T beginL ∧ ArrK .u32 w 1 T' roundsL
theorem GL.below {w w1 : World} (h : GL w) (hb : Below w.heap.size w w1) : GL w1 := by
 obtain ⟨T, T', h1, h2⟩ := h
 exact ⟨T, T', arr_below h1 hb, arr_below h2 hb⟩

end Go.Proofs.YtpoblffgclmmlaaGreatDoor.X
end
