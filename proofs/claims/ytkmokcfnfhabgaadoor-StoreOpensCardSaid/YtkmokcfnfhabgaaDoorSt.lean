/- Texts, Rows.Keys, small: what the printed functions come to; a slice of changes that comes in, opened. The store, said of rows alone: Open, Do, Get, Keys. -/
import Derived.Test.YtkmokcfnfhabgaaDoorAws
import Derived.Test.YtkmokcfnfhabgaaDoorMir
import Derived.Test.YtkmokcfnfhabgaaDoorQE
import Derived.Deep.Slices
import Derived.Deep.Fields
import Derived.ChangeSame
import Derived.Test.YtkmokcfnfhabgaaDoorTrn
set_option linter.unusedVariables false
set_option linter.unusedSimpArgs false
namespace Go.Proofs.YtkmokcfnfhabgaaDoor.X
open Go.RowKit Go.WideMaps Go.Maps Go.Proofs.YtkmokcfnfhabgaaDoorW.PrintWords Go.Proofs.YtkmokcfnfhabgaaDoorW.PrintLast Go.Proofs.YtkmokcfnfhabgaaDoorW.PrintMore Go.Proofs.YtkmokcfnfhabgaaDoor.Q

theorem drop_cons {α : Type} (l : List α) (i : Nat) (h : i < l.length) (z : α) : l.drop i = l.getD i z :: l.drop (i + 1) := by
 rw [List.drop_eq_getElem_cons h]
 simp [List.getD_eq_getElem?_getD, List.getElem?_eq_getElem h]
theorem texts_ev (a b : List ByteArray) (hl : a.length ≤ 4000000000000) (e : a.length = b.length) : ∀ d i : Nat, i + d = a.length → Ev (fun k => exequaturref10_Texts.l0 k a b (i : Int)) (decide (a.drop i = b.drop i)) := by
 intro d
 induction d with
 | zero =>
  intro i hi
  refine Ev.step (fun k => ?_) (evNow (r' := true) ?_)
  ·
   show exequaturref10_Texts.l0 (k + 1) a b (i : Int) = some true
   simp only [exequaturref10_Texts.l0]
   rw [if_neg (by omega)]
  ·
   rw [List.drop_of_length_le (by omega), List.drop_of_length_le (by omega)]; rfl
 | succ d ih =>
  intro i hi
  have h := ih (i + 1) (by omega)
  have hw : wrap64 ((i : Int) + 1) = ((i + 1 : Nat) : Int) := by rw [w64 (by omega) (by omega)]; rfl
  have ra : rdOf ByteArray.empty a (i : Int) = a.getD i ByteArray.empty := by unfold rdOf; rw [Int.toNat_natCast]
  have rb : rdOf ByteArray.empty b (i : Int) = b.getD i ByteArray.empty := by unfold rdOf; rw [Int.toNat_natCast]
  rw [drop_cons a i (by omega) ByteArray.empty, drop_cons b i (by omega) ByteArray.empty]
  by_cases hc : a.getD i ByteArray.empty = b.getD i ByteArray.empty
  ·
   refine Ev.step (f := fun k => exequaturref10_Texts.l0 k a b ((i + 1 : Nat) : Int)) (fun k => ?_) (evEq h ?_)
   ·
    show exequaturref10_Texts.l0 (k + 1) a b (i : Int) = _
    simp only [exequaturref10_Texts.l0]
    rw [if_pos (by omega), if_pos (by omega), if_pos (by omega), ra, rb, if_pos (by rw [hc]), hw]
   ·
    rw [hc]
    by_cases h2 : a.drop (i + 1) = b.drop (i + 1)
    ·
     rw [h2]; simp
    ·
     rw [decide_eq_false h2, decide_eq_false (fun h => h2 (List.cons.inj h).2)]
  ·
   refine Ev.step (f := fun k => some false) (fun k => ?_) (evNow ?_)
   ·
    show exequaturref10_Texts.l0 (k + 1) a b (i : Int) = _
    simp only [exequaturref10_Texts.l0]
    rw [if_pos (by omega), if_pos (by omega), if_pos (by omega), ra, rb, if_neg (fun h => hc (kl_inj (bytes_list.1 h)))]
   ·
    rw [decide_eq_false (fun h => hc (List.cons.inj h).1)]
theorem texts_f (a b : List ByteArray) (hl : a.length ≤ 4000000000000) : ∃ k, exequaturref10_Texts.f k a b = some (decide (a = b)) := by
 by_cases e : a.length = b.length
 ·
  obtain ⟨k, h⟩ := texts_ev a b hl e a.length 0 (by omega)
  refine ⟨k, ?_⟩
  unfold exequaturref10_Texts.f
  rw [if_pos (by omega)]
  exact h k (Nat.le_refl _)
 ·
  refine ⟨0, ?_⟩
  unfold exequaturref10_Texts.f
  rw [if_neg (by omega), decide_eq_false (fun h => e (by rw [h]))]
theorem texts_says (A0 A1 : Option Addr) (c0 c1 : Nat) (a b : List ByteArray) (w : World) (h0 : Kd.C Kd.string w A0 a.length a) (hc0 : a.length ≤ c0) (h1 : Kd.C Kd.string w A1 b.length b) (hc1 : b.length ≤ c1) (hl : a.length ≤ 4000000000000) :
  Calls Tryd.prog 21 #[.slice A0 a.length c0, .slice A1 b.length c1] w fun e w' => e = .returned (.bool (decide (a = b))) ∧ Below w.heap.size w w' := by
 obtain ⟨k, hk⟩ := texts_f a b hl
 refine (exequaturref10_Texts.calls k A0 c0 a A1 c1 b _ w h0 hc0 h1 hc1 hk).mono ?_
 rintro e w' ⟨h, hd⟩
 exact ⟨h, hd.below⟩
theorem preB_iff (s p : ByteArray) : preB s p = (decide (p.size ≤ s.size) && decide ((s.extract 0 p.size).toList = p.toList)) := by
 have h1 : (s.extract 0 p.size).data.toList = s.data.toList.take p.size := by simp
 rw [show decide ((s.extract 0 p.size).toList = p.toList) = decide (s.data.toList.take p.size = p.data.toList) by rw [decide_eq_decide, bytes_list, h1]]
 have hp : p.data.toList.length = p.size := by simp
 have hs : s.data.toList.length = s.size := by simp
 unfold preB Lib.hasPrefix
 rw [Bool.eq_iff_iff, Bool.and_eq_true, decide_eq_true_eq, decide_eq_true_eq, List.isPrefixOf_iff_prefix, List.prefix_iff_eq_take, hp]
 constructor
 ·
  intro h
  refine ⟨?_, h.symm⟩
  have := congrArg List.length h
  rw [List.length_take, hp, hs] at this
  omega
 ·
  intro h; exact h.2.symm
theorem rkeys_ev (rows : List S79) (key : ByteArray) (hl : rows.length ≤ 1000000000) : ∀ (d i : Nat) (out : List ByteArray), i + d = rows.length → out.length ≤ i →
  Ev (fun k => exequaturref10_Rows_Keys.l0 k rows key out (i : Int)) (out ++ ((rows.drop i).map fun x => x.f0).filter fun k => preB k key) := by
 intro d
 induction d with
 | zero =>
  intro i out hi ho
  refine Ev.step (fun k => ?_) (evNow (r' := out) ?_)
  ·
   show exequaturref10_Rows_Keys.l0 (k + 1) rows key out (i : Int) = some out
   simp only [exequaturref10_Rows_Keys.l0]
   rw [if_neg (by omega)]
  ·
   rw [List.drop_of_length_le (by omega)]; simp
 | succ d ih =>
  intro i out hi ho
  have hw : wrap64 ((i : Int) + 1) = ((i + 1 : Nat) : Int) := by rw [w64 (by omega) (by omega)]; rfl
  have ra : rd_T79 rows (i : Int) = rows.getD i z79 := by unfold rd_T79; rw [Int.toNat_natCast]
  rw [drop_cons rows i (by omega) z79, List.map_cons, List.filter_cons]
  generalize rows.getD i z79 = x at ra ⊢
  have hp := preB_iff x.f0 key
  by_cases h1 : key.size ≤ x.f0.size
  ·
   by_cases h2 : (x.f0.extract 0 key.size).toList = key.toList
   ·
    have h := ih (i + 1) (out ++ [x.f0]) (by omega) (by simp; omega)
    rw [show preB x.f0 key = true by rw [hp, decide_eq_true h1, decide_eq_true h2]; rfl, if_pos rfl]
    refine Ev.step (f := fun k => exequaturref10_Rows_Keys.l0 k rows key (out ++ [x.f0]) ((i + 1 : Nat) : Int)) (fun k => ?_) (evEq h (List.append_assoc _ [x.f0] _))
    show exequaturref10_Rows_Keys.l0 (k + 1) rows key out (i : Int) = _
    simp only [exequaturref10_Rows_Keys.l0]
    rw [if_pos (by omega), if_pos (by omega), ra, if_pos (by omega), if_pos (by omega), if_pos (by omega), if_pos h2, if_pos (by omega), hw]
   ·
    have h := ih (i + 1) out (by omega) (by omega)
    rw [show preB x.f0 key = false by rw [hp, decide_eq_true h1, decide_eq_false h2]; rfl, if_neg (by decide)]
    refine Ev.step (f := fun k => exequaturref10_Rows_Keys.l0 k rows key out ((i + 1 : Nat) : Int)) (fun k => ?_) h
    show exequaturref10_Rows_Keys.l0 (k + 1) rows key out (i : Int) = _
    simp only [exequaturref10_Rows_Keys.l0]
    rw [if_pos (by omega), if_pos (by omega), ra, if_pos (by omega), if_pos (by omega), if_pos (by omega), if_neg h2, hw]
  ·
   have h := ih (i + 1) out (by omega) (by omega)
   rw [show preB x.f0 key = false by rw [hp, decide_eq_false h1]; rfl, if_neg (by decide)]
   refine Ev.step (f := fun k => exequaturref10_Rows_Keys.l0 k rows key out ((i + 1 : Nat) : Int)) (fun k => ?_) h
   show exequaturref10_Rows_Keys.l0 (k + 1) rows key out (i : Int) = _
   simp only [exequaturref10_Rows_Keys.l0]
   rw [if_pos (by omega), if_pos (by omega), ra, if_neg (by omega), hw]
theorem rkeys_says (A0 : Option Addr) (c0 : Nat) (rows : List S79) (key : ByteArray) (w : World) (h0 : Kd.C k79 w A0 rows.length rows) (hc0 : rows.length ≤ c0) (hl : rows.length ≤ 1000000000) :
  Calls Tryd.prog 24 #[.slice A0 rows.length c0, .string key] w fun e w' => ∃ v, e = .returned v ∧ Kd.R Kd.string 9 w' w.heap.size (fun _ => True) v ((rows.map fun x => x.f0).filter fun k => preB k key) ∧ Below w.heap.size w w' := by
 obtain ⟨k, h⟩ := rkeys_ev rows key hl rows.length 0 [] (by omega) (by simp)
 exact exequaturref10_Rows_Keys.calls k A0 c0 rows key _ w h0 hc0 (h k (Nat.le_refl _))
end Go.Proofs.YtkmokcfnfhabgaaDoor.X
namespace Go.Proofs.YtkmokcfnfhabgaaDoor.X
open Go.RowKit Go.WideMaps Go.Maps Go.Proofs.YtkmokcfnfhabgaaDoorW.PrintWords Go.Proofs.YtkmokcfnfhabgaaDoorW.PrintLast Go.Proofs.YtkmokcfnfhabgaaDoorW.PrintMore Go.Proofs.YtkmokcfnfhabgaaDoor.Q

/-- What a call may turn: blocks behind base, of a tape, a store, or bytes. -/
def TurO (base : Nat) (w w' : World) : Prop := ∃ S : Nat → Prop, Tur w w' S ∧ ∀ k, S k → base ≤ k ∧ ((∃ cs, w.heap[k]? = some (.cells cs 63 (0, 0))) ∨ (∃ cs, w.heap[k]? = some (.cells cs 74 (0, 0))) ∨ (∃ cs, w.heap[k]? = some (.cells cs 5 (0, 0))))
theorem TurO.below {base : Nat} {w w' : World} (h : TurO base w w') (hb : base ≤ w.heap.size) : Below base w w' := by
 obtain ⟨S, hS, hk⟩ := h
 exact hS.toBelow hb (fun k h => (hk k h).1)
theorem TurO.of_below {base : Nat} {w w' : World} (h : Below w.heap.size w w') : TurO base w w' := ⟨fun _ => False, Tur.of_below h _, fun _ h => h.elim⟩
theorem TurO.size {base : Nat} {w w' : World} (h : TurO base w w') : w.heap.size ≤ w'.heap.size := by
 obtain ⟨S, hS, _⟩ := h
 exact hS.kept.1
/-- A row of another type stays. -/
theorem R_turO {α : Type} {d : Kd α} {e base b : Nat} {w w' : World} {v : Value} {xs : List α} (h : TurO base w w') (hr : Kd.R d e w b (fun _ => True) v xs) (hE : ∀ x cs, d.M w b (fun _ => False) x cs ∨ True) (h1 : e ≠ 63) (h2 : e ≠ 74) (h3 : e ≠ 5)
  (hm : ∀ ok, Kd.R d e w b ok v xs → Kd.R d e w b (fun k => v.ownBlock = some k) v xs) : Kd.R d e w' b (fun _ => True) v xs := by
 obtain ⟨S, hS, hk⟩ := h
 refine Kd.R_mono (Kd.R_kept (hm _ hr) hS.kept ?_) (fun _ _ => trivial)
 intro k hv hs
 obtain ⟨cells, hc⟩ := Kd.R_typed hr k hv
 rcases (hk k hs).2 with ⟨cs, h⟩ | ⟨cs, h⟩ | ⟨cs, h⟩ <;> rw [hc] at h <;> simp only [Option.some.injEq, Obj.cells.injEq] at h
 ·
  exact h1 h.2.1
 ·
  exact h2 h.2.1
 ·
  exact h3 h.2.1
theorem R_own79 {e : Nat} {W : World} {base : Nat} {ok : Nat → Prop} {v : Value} {xs : List S79} (h : Kd.R k79 e W base ok v xs) : Kd.R k79 e W base (fun k => v.ownBlock = some k) v xs := by
 obtain ⟨h0, inner, ho, hr⟩ := h
 exact ⟨fun k hk => hk, inner, ho, hr.imp_ (fun x cs hp => by rw [k79_openM hp]; exact k79_mkM _ _ _ x)⟩
theorem rows_turO {base b : Nat} {w w' : World} {v : Value} {xs : List S79} (h : TurO base w w') (hr : Kd.R k79 79 w b (fun _ => True) v xs) : Kd.R k79 79 w' b (fun _ => True) v xs :=
 R_turO h hr (fun _ _ => .inr trivial) (by decide) (by decide) (by decide) (fun _ h => R_own79 h)
/-- A store and its tape: rows, and what stands on the tape. -/
def Sto (base : Nat) (w : World) (s t : Nat) (T : TapeS) (r : List S79) (N : Nat) : Prop :=
 ∃ m n D v, StoreAt w base s t m n D ∧ TpAt w base t v T ∧ Mir D r ∧ n ≤ N
theorem Sto.below {base s t N : Nat} {w w' : World} {T : TapeS} {r : List S79} (h : Sto base w s t T r N) (hb : Below w.heap.size w w') : Sto base w' s t T r N := by
 obtain ⟨m, n, D, v, h1, h2, h3, h4⟩ := h
 exact ⟨m, n, D, v, h1.kept (Tur.of_below hb (fun _ => False)) (fun h => h) (fun h => h), TapeAt.kept h2 (Tur.of_below hb (fun _ => False)) (fun h => h) (fun _ _ h => h), h3, h4⟩
theorem Sto.mono {base s t N N' : Nat} {w : World} {T : TapeS} {r : List S79} (h : Sto base w s t T r N) (hN : N ≤ N') : Sto base w s t T r N' := by
 obtain ⟨m, n, D, v, h1, h2, h3, h4⟩ := h
 exact ⟨m, n, D, v, h1, h2, h3, Nat.le_trans h4 hN⟩
theorem Sto.ge {base s t N : Nat} {w : World} {T : TapeS} {r : List S79} (h : Sto base w s t T r N) : base ≤ s ∧ base ≤ t := by
 obtain ⟨m, n, D, v, h1, h2, h3, h4⟩ := h
 exact ⟨h1.ge, h2.ge⟩
/-- What a text has as its row. -/
def getR (r : List S79) (key : ByteArray) : Option ByteArray := (r.find? fun x => decide (x.f0 = key)).map fun x => x.f1
theorem getR_has {D : DataW Unit} {r : List S79} (h : Mir D r) (key : ByteArray) : hasS D key = (getR r key).isSome := by
 unfold getR
 rw [Bool.eq_iff_iff, h.has key, Option.isSome_map, List.find?_isSome]
 simp
theorem getR_val {D : DataW Unit} {r : List S79} (h : Mir D r) (key : ByteArray) (v : ByteArray) (hv : getR r key = some v) : valS D key = v := by
 unfold getR at hv
 rw [Option.map_eq_some_iff] at hv
 obtain ⟨x, hx, rfl⟩ := hv
 have h1 := List.mem_of_find?_eq_some hx
 have h2 := List.find?_some hx
 simp only [decide_eq_true_eq] at h2
 rw [← h2]; exact h.val x h1
theorem getR_none {D : DataW Unit} {r : List S79} (h : Mir D r) (key : ByteArray) (hv : getR r key = none) : valS D key = ⟨#[]⟩ := by
 have h1 := getR_has h key
 rw [hv] at h1
 obtain ⟨es, hes, _⟩ := h.tidy
 subst hes
 unfold hasS at h1
 unfold valS
 have : (DataW.map es).atKey (kb key) (.lit (.string [])) = .lit (.string []) := by
  unfold Maps.has at h1
  unfold DataW.atKey
  simp only [Option.isSome_none] at h1
  cases hf : es.find? (fun p => p.1.sameKey (kb key)) with
  | none => simp [hf]
  | some p =>
   exfalso
   have hp := List.mem_of_find?_eq_some hf
   have hp2 := List.find?_some hf
   have : es.any (fun p => p.1.sameKey (kb key)) = true := List.any_eq_true.2 ⟨p, hp, hp2⟩
   simp_all
 rw [this]
theorem sget_says (base s t N : Nat) (T : TapeS) (r : List S79) (key : ByteArray) (hk : key.size ≤ maxLen) (w : World) (h : Sto base w s t T r N) :
  Calls Tryd.prog 17 #[.pointer (some ⟨s, 0, none⟩), .string key] w fun e w' => e = .returned (.tuple #[.string ((getR r key).getD ⟨#[]⟩), .bool (getR r key).isSome]) ∧ w' = w := by
 obtain ⟨m, n, D, v, h1, h2, h3, h4⟩ := h
 have hg := get_says base s t m n D key hk w h1
 rw [getR_has h3 key] at hg
 cases hv : getR r key with
 | none => rw [hv, getR_none h3 key hv] at hg; exact hg
 | some x => rw [hv, getR_val h3 key x hv] at hg; exact hg
theorem skeys_says (base s t N : Nat) (T : TapeS) (r : List S79) (key : ByteArray) (w : World) (h : Sto base w s t T r N) (hN : N ≤ 3400000000000) :
  Calls Tryd.prog 19 #[.pointer (some ⟨s, 0, none⟩), .string key] w fun e w' => ∃ v, e = .returned v ∧ Kd.R Kd.string 9 w' w.heap.size (fun _ => True) v ((r.map fun x => x.f0).filter fun k => preB k key) ∧ Below w.heap.size w w' := by
 obtain ⟨m, n, D, v, h1, h2, h3, h4⟩ := h
 have hg := keys_says base s t m n D key w h1 (by omega)
 rw [h3.keys] at hg
 exact hg
/-- A tape that has whole records, and something that is none behind them. -/
structure Lay (T : TapeS) (ls : List (List S49)) (junk : List Int) : Prop where
 b : T.b = fr (ls.map recL) ++ junk
 none : (oneL junk).2 = false
 sm : ∀ l ∈ ls, (recL l).length ≤ 32768
theorem recs_len {l : List S49} : 4 + 12 * l.length ≤ (recL l).length := by
 unfold recL
 rw [List.length_append, four_len]
 have : 12 * l.length ≤ (l.flatMap chgL).length := by
  induction l with
  | nil => simp
  | cons y l ih => rw [List.flatMap_cons, List.length_append, chgL_len, List.length_cons]; omega
 omega
theorem Lay.split {T : TapeS} {ls : List (List S49)} {junk : List Int} (h : Lay T ls junk) : splitL T.b = (ls.map recL, (fr (ls.map recL)).length) := by
 rw [h.b]
 exact splitL_frames _ _ (by intro a ha; obtain ⟨l, hl, rfl⟩ := List.mem_map.1 ha; exact h.sm l hl) h.none
theorem Lay.opened {T : TapeS} {ls : List (List S49)} {junk : List Int} (h : Lay T ls junk) : T.opened = ⟨fr (ls.map recL), if junk = [] then T.sure else ((fr (ls.map recL)).length : Int), -1, false⟩ := by
 have hs := h.split
 unfold TapeS.opened
 rw [hs]
 simp only
 rw [show T.b.take (fr (ls.map recL)).length = fr (ls.map recL) by rw [h.b]; exact List.take_left]
 congr 1
 have hl : T.b.length = (fr (ls.map recL)).length + junk.length := by rw [h.b, List.length_append]
 by_cases hj : junk = []
 ·
  rw [if_pos hj, if_neg (by rw [hl, hj]; simp)]
 ·
  have := List.length_pos_iff.2 hj
  rw [if_neg hj, if_pos (by omega)]
theorem Lay.new : Lay TapeS.new [] [] := ⟨rfl, oneL_nil, by simp⟩
end Go.Proofs.YtkmokcfnfhabgaaDoor.X
