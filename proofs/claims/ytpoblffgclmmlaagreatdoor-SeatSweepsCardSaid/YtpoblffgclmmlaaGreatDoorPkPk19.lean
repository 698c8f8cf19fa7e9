/- A part of the proof of a card: what some functions of the program come to, each under the conditions that its theorem names. -/
import Derived.Deep.Slices
import Derived.Deep.Fields
import Derived.ChangeSame
import Derived.Deep.RegionHeld3
import Derived.Deep.QuietTactic
import Derived.BigQuiet
import Derived.Test.YtpoblffgclmmlaaGreatDoorPkPk11
import Derived.Test.YtpoblffgclmmlaaGreatDoorPkPk15
import Derived.Test.YtpoblffgclmmlaaGreatDoorPkPk16
import Derived.Test.YtpoblffgclmmlaaGreatDoorPkPk17
import Derived.Test.YtpoblffgclmmlaaGreatDoorPkPk18
section
set_option linter.unusedVariables false
set_option linter.unusedSimpArgs false
namespace Go.Proofs.YtpoblffgclmmlaaGreatDoor.X
open Go.RowKit Go.WideMaps Go.Maps Go.Proofs.YtpoblffgclmmlaaGreatDoorW.PrintWords Go.Proofs.YtpoblffgclmmlaaGreatDoorW.PrintLast Go.Proofs.YtpoblffgclmmlaaGreatDoorW.PrintMore Go.Proofs.YtpoblffgclmmlaaGreatDoor.Q

theorem drop_cons {α : Type} (l : List α) (i : Nat) (h : i < l.length) (z : α) : l.drop i = l.getD i z :: l.drop (i + 1) := by
 rw [List.drop_eq_getElem_cons h]
 simp [List.getD_eq_getElem?_getD, List.getElem?_eq_getElem h]
theorem preB_iff (s p : ByteArray) : preB s p = (decide (p.size ≤ s.size) && decide ((s.extract 0 p.size).toList = p.toList)) := by
 have h1 : (s.extract 0 p.size).data.toList = s.data.toList.take p.size := by simp
 rw [show decide ((s.extract 0 p.size).toList = p.toList) = decide (s.data.toList.take p.size = p.data.toList) by rw [decide_eq_decide, bytes_list, h1]]
 have hp : p.data.toList.length = p.size := by simp
 have hs : s.data.toList.length = s.size := by simp
 unfold preB Lib.hasPrefix
 rw [Bool.eq_iff_iff, Bool.and_eq_true, decide_eq_true_eq, decide_eq_true_eq, List.isPrefixOf_iff_prefix, List.prefix_iff_eq_take, hp]
 constructor
 ·
  intro h
  refine ⟨?_, h.symm⟩
  have := congrArg List.length h
  rw [List.length_take, hp, hs] at this
  omega
 ·
  intro h; exact h.2.symm
theorem rkeys_ev (rows : List S82) (key : ByteArray) (hl : rows.length ≤ 1000000000) : ∀ (d i : Nat) (out : List ByteArray), i + d = rows.length → out.length ≤ i →
  Ev (fun k => exequaturref10_Rows_Keys.l0 k rows key out (i : Int)) (out ++ ((rows.drop i).map fun x => x.f0).filter fun k => preB k key) := by
 intro d
 induction d with
 | zero =>
  intro i out hi ho
  refine Ev.step (fun k => ?_) (evNow (r' := out) ?_)
  ·
   show exequaturref10_Rows_Keys.l0 (k + 1) rows key out (i : Int) = some out
   simp only [exequaturref10_Rows_Keys.l0]
   rw [if_neg (by omega)]
  ·
   rw [List.drop_of_length_le (by omega)]; simp
 | succ d ih =>
  intro i out hi ho
  have hw : wrap64 ((i : Int) + 1) = ((i + 1 : Nat) : Int) := by rw [w64 (by omega) (by omega)]; rfl
  have ra : rd_T82 rows (i : Int) = rows.getD i z82 := by unfold rd_T82; rw [Int.toNat_natCast]
  rw [drop_cons rows i (by omega) z82, List.map_cons, List.filter_cons]
  generalize rows.getD i z82 = x at ra ⊢
  have hp := preB_iff x.f0 key
  by_cases h1 : key.size ≤ x.f0.size
  ·
   by_cases h2 : (x.f0.extract 0 key.size).toList = key.toList
   ·
    have h := ih (i + 1) (out ++ [x.f0]) (by omega) (by simp; omega)
    rw [show preB x.f0 key = true by rw [hp, decide_eq_true h1, decide_eq_true h2]; rfl, if_pos rfl]
    refine Ev.step (f := fun k => exequaturref10_Rows_Keys.l0 k rows key (out ++ [x.f0]) ((i + 1 : Nat) : Int)) (fun k => ?_) (evEq h (List.append_assoc _ [x.f0] _))
    show exequaturref10_Rows_Keys.l0 (k + 1) rows key out (i : Int) = _
    simp only [exequaturref10_Rows_Keys.l0]
    rw [if_pos (by omega), if_pos (by omega), ra, if_pos (by omega), if_pos (by omega), if_pos (by omega), if_pos h2, if_pos (by omega), hw]
   ·
    have h := ih (i + 1) out (by omega) (by omega)
    rw [show preB x.f0 key = false by rw [hp, decide_eq_true h1, decide_eq_false h2]; rfl, if_neg (by decide)]
    refine Ev.step (f := fun k => exequaturref10_Rows_Keys.l0 k rows key out ((i + 1 : Nat) : Int)) (fun k => ?_) h
    show exequaturref10_Rows_Keys.l0 (k + 1) rows key out (i : Int) = _
    simp only [exequaturref10_Rows_Keys.l0]
    rw [if_pos (by omega), if_pos (by omega), ra, if_pos (by omega), if_pos (by omega), if_pos (by omega), if_neg h2, hw]
  ·
   have h := ih (i + 1) out (by omega) (by omega)
   rw [show preB x.f0 key = false by rw [hp, decide_eq_false h1]; rfl, if_neg (by decide)]
   refine Ev.step (f := fun k => exequaturref10_Rows_Keys.l0 k rows key out ((i + 1 : Nat) : Int)) (fun k => ?_) h
   show exequaturref10_Rows_Keys.l0 (k + 1) rows key out (i : Int) = _
   simp only [exequaturref10_Rows_Keys.l0]
   rw [if_pos (by omega), if_pos (by omega), ra, if_neg (by omega), hw]
theorem rkeys_says (A0 : Option Addr) (c0 : Nat) (rows : List S82) (key : ByteArray) (w : World) (h0 : Kd.C k82 w A0 rows.length rows) (hc0 : rows.length ≤ c0) (hl : rows.length ≤ 1000000000) :
  Calls Tryz.prog 52 #[.slice A0 rows.length c0, .string key] w fun e w' => ∃ v, e = .returned v ∧ Kd.R Kd.string 9 w' w.heap.size (fun _ => True) v ((rows.map fun x => x.f0).filter fun k => preB k key) ∧ Below w.heap.size w w' := by
 obtain ⟨k, h⟩ := rkeys_ev rows key hl rows.length 0 [] (by omega) (by simp)
 exact exequaturref10_Rows_Keys.calls k A0 c0 rows key _ w h0 hc0 (h k (Nat.le_refl _))
/-- How long the texts of changes are. -/
def wgtS (l : List S69) : Nat := (l.map fun x => x.f0.size + x.f1.size).sum
/-- Small changes make a small record. -/
theorem recL_small (l : List S69) : (recL l).length ≤ 4 + 12 * l.length + wgtS l := by
 unfold recL wgtS
 rw [List.length_append, four_len]
 have : (l.flatMap chgL).length ≤ 12 * l.length + (l.map fun x => x.f0.size + x.f1.size).sum := by
  induction l with
  | nil => simp
  | cons c l ih =>
   rw [List.flatMap_cons, List.length_append, chgL_len]
   simp only [List.length_cons, List.map_cons, List.sum_cons]
   split <;> omega
 omega
theorem wgtC_small (l : List S69) : wgtC l = 12 * l.length + wgtS l := by
 unfold wgtC wgtS
 induction l with
 | nil => rfl
 | cons c l ih => simp only [List.length_cons, List.map_cons, List.sum_cons]; omega
end Go.Proofs.YtpoblffgclmmlaaGreatDoor.X
namespace Go.Proofs.YtpoblffgclmmlaaGreatDoor.X
open Go.RowKit Go.WideMaps Go.Maps Go.Proofs.YtpoblffgclmmlaaGreatDoorW.PrintWords Go.Proofs.YtpoblffgclmmlaaGreatDoorW.PrintLast Go.Proofs.YtpoblffgclmmlaaGreatDoorW.PrintMore Go.Proofs.YtpoblffgclmmlaaGreatDoor.Q

def allR (r : List S82) : List S69 := r.map fun x => (⟨x.f0, x.f1, false⟩ : S69)
def TapeS.renewR (T : TapeS) (r : List S82) : TapeS × Int :=
 if 32768 < (recL (allR r)).length ∨ 65536 < (frameL (recL (allR r))).length then (T, 7) else T.swap (frameL (recL (allR r)))
/-- What Do does to the tape, and what it answers. -/
def doR (T : TapeS) (r : List S82) (l : List S69) : TapeS × Int :=
 if l.length = 0 then (T, 0) else if 32768 < (recL l).length then (T, 3) else
 if 65536 < (frameL (recL l)).length + T.b.length then T.renewR (turnR r l) else T.append (frameL (recL l))
theorem doR_eq {D : DataW Unit} {r : List S82} (h : Mir D r) (T : TapeS) (l : List S69) : doT T D l = doR T r l := by
 unfold doT doR TapeS.renew TapeS.renewR allR
 rw [(h.turn l).all]
theorem recAll_len (r : List S82) : (recL (allR r)).length = 4 + wgt r := by
 unfold recL wgt allR
 rw [List.length_append, four_len, List.flatMap_map]
 congr 1
 induction r with
 | nil => rfl
 | cons x r ih =>
  rw [List.flatMap_cons, List.length_append, ih, chgL_len]
  simp
/-- What a call may turn: blocks behind base, of a tape, a store, or bytes. -/
def TurO (base : Nat) (w w' : World) : Prop := ∃ S : Nat → Prop, Tur w w' S ∧ ∀ k, S k → base ≤ k ∧ ((∃ cs, w.heap[k]? = some (.cells cs 119 (0, 0))) ∨ (∃ cs, w.heap[k]? = some (.cells cs 125 (0, 0))) ∨ (∃ cs, w.heap[k]? = some (.cells cs 5 (0, 0))))
theorem TurO.below {base : Nat} {w w' : World} (h : TurO base w w') (hb : base ≤ w.heap.size) : Below base w w' := by
 obtain ⟨S, hS, hk⟩ := h
 exact hS.toBelow hb (fun k h => (hk k h).1)
theorem TurO.of_below {base : Nat} {w w' : World} (h : Below w.heap.size w w') : TurO base w w' := ⟨fun _ => False, Tur.of_below h _, fun _ h => h.elim⟩
theorem TurO.size {base : Nat} {w w' : World} (h : TurO base w w') : w.heap.size ≤ w'.heap.size := by
 obtain ⟨S, hS, _⟩ := h
 exact hS.kept.1
/-- A row of another type stays. -/
theorem R_turO {α : Type} {d : Kd α} {e base b : Nat} {w w' : World} {v : Value} {xs : List α} (h : TurO base w w') (hr : Kd.R d e w b (fun _ => True) v xs) (hE : ∀ x cs, d.M w b (fun _ => False) x cs ∨ True) (h1 : e ≠ 119) (h2 : e ≠ 125) (h3 : e ≠ 5)
  (hm : ∀ ok, Kd.R d e w b ok v xs → Kd.R d e w b (fun k => v.ownBlock = some k) v xs) : Kd.R d e w' b (fun _ => True) v xs := by
 obtain ⟨S, hS, hk⟩ := h
 refine Kd.R_mono (Kd.R_kept (hm _ hr) hS.kept ?_) (fun _ _ => trivial)
 intro k hv hs
 obtain ⟨cells, hc⟩ := Kd.R_typed hr k hv
 rcases (hk k hs).2 with ⟨cs, h⟩ | ⟨cs, h⟩ | ⟨cs, h⟩ <;> rw [hc] at h <;> simp only [Option.some.injEq, Obj.cells.injEq] at h
 ·
  exact h1 h.2.1
 ·
  exact h2 h.2.1
 ·
  exact h3 h.2.1
theorem R_own79 {e : Nat} {W : World} {base : Nat} {ok : Nat → Prop} {v : Value} {xs : List S82} (h : Kd.R k82 e W base ok v xs) : Kd.R k82 e W base (fun k => v.ownBlock = some k) v xs := by
 obtain ⟨h0, inner, ho, hr⟩ := h
 exact ⟨fun k hk => hk, inner, ho, hr.imp_ (fun x cs hp => by rw [k82_openM hp]; exact k82_mkM _ _ _ x)⟩
theorem rows_turO {base b : Nat} {w w' : World} {v : Value} {xs : List S82} (h : TurO base w w') (hr : Kd.R k82 82 w b (fun _ => True) v xs) : Kd.R k82 82 w' b (fun _ => True) v xs :=
 R_turO h hr (fun _ _ => .inr trivial) (by decide) (by decide) (by decide) (fun _ h => R_own79 h)
/-- A store and its tape: rows, and what stands on the tape. -/
def Sto (base : Nat) (w : World) (s t : Nat) (T : TapeS) (r : List S82) (N : Nat) : Prop :=
 ∃ m n D v, StoreAt w base s t m n D ∧ TpAt w base t v T ∧ Mir D r ∧ n ≤ N
theorem Sto.below {base s t N : Nat} {w w' : World} {T : TapeS} {r : List S82} (h : Sto base w s t T r N) (hb : Below w.heap.size w w') : Sto base w' s t T r N := by
 obtain ⟨m, n, D, v, h1, h2, h3, h4⟩ := h
 exact ⟨m, n, D, v, h1.kept (Tur.of_below hb (fun _ => False)) (fun h => h) (fun h => h), TapeAt.kept h2 (Tur.of_below hb (fun _ => False)) (fun h => h) (fun _ _ h => h), h3, h4⟩
theorem Sto.mono {base s t N N' : Nat} {w : World} {T : TapeS} {r : List S82} (h : Sto base w s t T r N) (hN : N ≤ N') : Sto base w s t T r N' := by
 obtain ⟨m, n, D, v, h1, h2, h3, h4⟩ := h
 exact ⟨m, n, D, v, h1, h2, h3, Nat.le_trans h4 hN⟩
theorem Sto.ge {base s t N : Nat} {w : World} {T : TapeS} {r : List S82} (h : Sto base w s t T r N) : base ≤ s ∧ base ≤ t := by
 obtain ⟨m, n, D, v, h1, h2, h3, h4⟩ := h
 exact ⟨h1.ge, h2.ge⟩
/-- What a text has as its row. -/
def getR (r : List S82) (key : ByteArray) : Option ByteArray := (r.find? fun x => decide (x.f0 = key)).map fun x => x.f1
theorem getR_has {D : DataW Unit} {r : List S82} (h : Mir D r) (key : ByteArray) : hasS D key = (getR r key).isSome := by
 unfold getR
 rw [Bool.eq_iff_iff, h.has key, Option.isSome_map, List.find?_isSome]
 simp
theorem getR_val {D : DataW Unit} {r : List S82} (h : Mir D r) (key : ByteArray) (v : ByteArray) (hv : getR r key = some v) : valS D key = v := by
 unfold getR at hv
 rw [Option.map_eq_some_iff] at hv
 obtain ⟨x, hx, rfl⟩ := hv
 have h1 := List.mem_of_find?_eq_some hx
 have h2 := List.find?_some hx
 simp only [decide_eq_true_eq] at h2
 rw [← h2]; exact h.val x h1
theorem getR_none {D : DataW Unit} {r : List S82} (h : Mir D r) (key : ByteArray) (hv : getR r key = none) : valS D key = ⟨#[]⟩ := by
 have h1 := getR_has h key
 rw [hv] at h1
 obtain ⟨es, hes, _⟩ := h.tidy
 subst hes
 unfold hasS at h1
 unfold valS
 have : (DataW.map es).atKey (kb key) (.lit (.string [])) = .lit (.string []) := by
  unfold Maps.has at h1
  unfold DataW.atKey
  simp only [Option.isSome_none] at h1
  cases hf : es.find? (fun p => p.1.sameKey (kb key)) with
  | none => simp [hf]
  | some p =>
   exfalso
   have hp := List.mem_of_find?_eq_some hf
   have hp2 := List.find?_some hf
   have : es.any (fun p => p.1.sameKey (kb key)) = true := List.any_eq_true.2 ⟨p, hp, hp2⟩
   simp_all
 rw [this]
theorem sget_says (base s t N : Nat) (T : TapeS) (r : List S82) (key : ByteArray) (hk : key.size ≤ maxLen) (w : World) (h : Sto base w s t T r N) :
  Calls Tryz.prog 79 #[.pointer (some ⟨s, 0, none⟩), .string key] w fun e w' => e = .returned (.tuple #[.string ((getR r key).getD ⟨#[]⟩), .bool (getR r key).isSome]) ∧ w' = w := by
 obtain ⟨m, n, D, v, h1, h2, h3, h4⟩ := h
 have hg := get_says base s t m n D key hk w h1
 rw [getR_has h3 key] at hg
 cases hv : getR r key with
 | none => rw [hv, getR_none h3 key hv] at hg; exact hg
 | some x => rw [hv, getR_val h3 key x hv] at hg; exact hg
theorem skeys_says (base s t N : Nat) (T : TapeS) (r : List S82) (key : ByteArray) (w : World) (h : Sto base w s t T r N) (hN : N ≤ 3400000000000) :
  Calls Tryz.prog 53 #[.pointer (some ⟨s, 0, none⟩), .string key] w fun e w' => ∃ v, e = .returned v ∧ Kd.R Kd.string 9 w' w.heap.size (fun _ => True) v ((r.map fun x => x.f0).filter fun k => preB k key) ∧ Below w.heap.size w w' := by
 obtain ⟨m, n, D, v, h1, h2, h3, h4⟩ := h
 have hg := keys_says base s t m n D key w h1 (by omega)
 rw [h3.keys] at hg
 exact hg
theorem sdo_says (s t N : Nat) (T : TapeS) (r : List S82) (A : Option Addr) (c : Nat) (l : List S69) (w0 w : World) (hGL : GL w0) (hB : Below w0.heap.size w0 w) (h : Sto w0.heap.size w s t T r N) (hG : T.Good) (hC : Kd.C k69 w A l.length l) (hcl : l.length ≤ c)
  (hn : N + l.length ≤ 3400000000000) (hl : 4 + wgt r + wgtC l ≤ 80000000) (hTl : T.b.length ≤ 1000000) (hx : ∀ x ∈ l, x.f0.size ≤ maxLen ∧ x.f1.size ≤ maxLen) :
  Calls Tryz.prog 25 #[.pointer (some ⟨s, 0, none⟩), .slice A l.length c] w fun e w' =>
   e = .returned (.int .i64 (doR T r l).2) ∧ TurO w0.heap.size w w' ∧ Sto w0.heap.size w' s t (doR T r l).1 (if (doR T r l).2 = 0 then turnR r l else r) (N + l.length) := by
 obtain ⟨m, n, D, v, h1, h2, h3, h4⟩ := h
 have hwl : l.length ≤ wgtC l := by rw [wgtC_small]; omega
 have hrl : (recL l).length ≤ 4 + wgtC l := by rw [wgtC_small]; have := recL_small l; omega
 have hd := do_says w0.heap.size s t m n D v T A c l w0 w hGL hB h1 h2 hG hC hcl (by omega) (by omega) (by omega) hTl hx (by
  have := (h3.turn l).recs
  have := wgt_turn h3.ris l
  omega) hB.size
 refine hd.mono ?_
 rintro e w' ⟨he, hk, m', n', v', hS, hn', hT, hv⟩
 rw [doR_eq h3] at he hT
 refine ⟨he, ⟨_, hk, ?_⟩, m', n', _, v', hS, hT, ?_, by omega⟩
 ·
  rintro k (h | h | h)
  ·
   exact ⟨h ▸ h1.ge, .inr (.inl ⟨_, h ▸ h1.blk⟩)⟩
  ·
   exact ⟨h ▸ h2.ge, .inl ⟨_, h ▸ h2.blk⟩⟩
  ·
   obtain ⟨hb, cells, hc⟩ := h2.row.typed k h
   exact ⟨hb, .inr (.inr ⟨cells, hc⟩)⟩
 ·
  unfold doD
  rw [doR_eq h3]
  split
  ·
   exact h3.turn l
  ·
   exact h3
/-- A tape that has whole records, and something that is none behind them. -/
structure Lay (T : TapeS) (ls : List (List S69)) (junk : List Int) : Prop where
 b : T.b = fr (ls.map recL) ++ junk
 none : (oneL junk).2 = false
 sm : ∀ l ∈ ls, (recL l).length ≤ 32768
theorem chg_mem {l : List S69} {c : S69} (h : c ∈ l) : 12 + c.f0.size + (if c.f2 = true then 0 else c.f1.size) ≤ (recL l).length := by
 unfold recL
 rw [List.length_append]
 have : (chgL c).length ≤ (l.flatMap chgL).length := by
  induction l with
  | nil => cases h
  | cons y l ih =>
   rw [List.flatMap_cons, List.length_append]
   rcases List.mem_cons.1 h with h | h
   ·
    rw [h]; omega
   ·
    have := ih h; omega
 rw [chgL_len] at this
 omega
theorem recs_len {l : List S69} : 4 + 12 * l.length ≤ (recL l).length := by
 unfold recL
 rw [List.length_append, four_len]
 have : 12 * l.length ≤ (l.flatMap chgL).length := by
  induction l with
  | nil => simp
  | cons y l ih => rw [List.flatMap_cons, List.length_append, chgL_len, List.length_cons]; omega
 omega
theorem norm_small {l : List S69} (h : (recL l).length ≤ 32768) : ∀ c ∈ l.map normC, c.f0.size < 4294967296 ∧ c.f1.size < 4294967296 := by
 intro c hc
 obtain ⟨x, hx, rfl⟩ := List.mem_map.1 hc
 have := chg_mem hx
 obtain ⟨k, v, g⟩ := x
 cases g with
 | false => simp [normC] at this ⊢; omega
 | true => exact ⟨by simp [normC] at this ⊢; omega, by show (⟨#[]⟩ : ByteArray).size < _; decide⟩
def foldR (ls : List (List S69)) : List S82 := ls.foldl turnR []
theorem mir_fold (ls : List (List S69)) {D : DataW Unit} {r : List S82} (h : Mir D r) : Mir (ls.foldl turnD D) (ls.foldl turnR r) := by
 induction ls generalizing D r with
 | nil => exact h
 | cons l ls ih => exact ih (h.turn l)
theorem Lay.split {T : TapeS} {ls : List (List S69)} {junk : List Int} (h : Lay T ls junk) : splitL T.b = (ls.map recL, (fr (ls.map recL)).length) := by
 rw [h.b]
 exact splitL_frames _ _ (by intro a ha; obtain ⟨l, hl, rfl⟩ := List.mem_map.1 ha; exact h.sm l hl) h.none
theorem Lay.opens {T : TapeS} {ls : List (List S69)} {junk : List Int} (h : Lay T ls junk) : openD (splitL T.b).1 (.map []) = some (ls.foldl turnD (.map [])) := by
 rw [h.split]
 have e : ls.map recL = (ls.map fun l => l.map normC).map recL := by rw [List.map_map]; exact List.map_congr_left fun l _ => (recL_norm l).symm
 show openD (ls.map recL) _ = _
 rw [e, openD_recs _ _ ?_]
 ·
  congr 1
  rw [List.foldl_map]
  congr 1
  funext D l; exact turnD_norm D l
 ·
  intro l hl
  obtain ⟨x, hx, rfl⟩ := List.mem_map.1 hl
  have h1 := h.sm x hx
  have h2 := recs_len (l := x)
  exact ⟨by rw [List.length_map]; omega, norm_small h1⟩
theorem Lay.opened {T : TapeS} {ls : List (List S69)} {junk : List Int} (h : Lay T ls junk) : T.opened = ⟨fr (ls.map recL), if junk = [] then T.sure else ((fr (ls.map recL)).length : Int), -1, false⟩ := by
 have hs := h.split
 unfold TapeS.opened
 rw [hs]
 simp only
 rw [show T.b.take (fr (ls.map recL)).length = fr (ls.map recL) by rw [h.b]; exact List.take_left]
 congr 1
 have hl : T.b.length = (fr (ls.map recL)).length + junk.length := by rw [h.b, List.length_append]
 by_cases hj : junk = []
 ·
  rw [if_pos hj, if_neg (by rw [hl, hj]; simp)]
 ·
  have := List.length_pos_iff.2 hj
  rw [if_neg hj, if_pos (by omega)]
/-- Open, where the tape has records. -/
theorem sopen_says (t : Nat) (v : Value) (T : TapeS) (ls : List (List S69)) (junk : List Int) (hL : Lay T ls junk) (hf : T.fuse = -1) (hd : T.down = false) (w0 w : World) (hGL : GL w0) (hB : Below w0.heap.size w0 w) (hT : TpAt w w0.heap.size t v T) (hG : T.Good) :
  Calls Tryz.prog 19 #[.pointer (some ⟨t, 0, none⟩)] w fun e w' => Tur w w' (fun k => k = t) ∧
   ∃ s, e = .returned (.tuple #[.pointer (some ⟨s, 0, none⟩), .int .i64 0]) ∧ w.heap.size ≤ s ∧ Sto w0.heap.size w' s t T.opened (foldR ls) 3300000000000 := by
 refine (topen_ok t v T hf hd _ hL.opens w0 w hGL hB hT hG).mono ?_
 rintro e w' ⟨hk, s, m, n, v', h1, h2, h3, h4, h5⟩
 exact ⟨hk, s, h1, h2.ge, m, n, _, v', h2.lower hB.size, h4, mir_fold ls Mir.empty, h3⟩
theorem Lay.new : Lay TapeS.new [] [] := ⟨rfl, oneL_nil, by simp⟩
theorem snew_says (w0 w : World) (hGL : GL w0) (hB : Below w0.heap.size w0 w) (t : Nat) (v : Value) (hT : TpAt w w0.heap.size t v TapeS.new) :
  Calls Tryz.prog 19 #[.pointer (some ⟨t, 0, none⟩)] w fun e w' => Tur w w' (fun k => k = t) ∧
   ∃ s, e = .returned (.tuple #[.pointer (some ⟨s, 0, none⟩), .int .i64 0]) ∧ w.heap.size ≤ s ∧ Sto w0.heap.size w' s t TapeS.new [] 3300000000000 :=
 sopen_says t v TapeS.new [] [] Lay.new rfl rfl w0 w hGL hB hT TapeS.new_good
end Go.Proofs.YtpoblffgclmmlaaGreatDoor.X
end
section
set_option linter.unusedVariables false
set_option linter.unusedSimpArgs false
namespace Go.Proofs.YtpoblffgclmmlaaGreatDoor.X
open Go.RowKit Go.WideMaps Go.Maps Go.Proofs.YtpoblffgclmmlaaGreatDoorW.PrintWords Go.Proofs.YtpoblffgclmmlaaGreatDoorW.PrintLast Go.Proofs.YtpoblffgclmmlaaGreatDoorW.PrintMore Go.Proofs.YtpoblffgclmmlaaGreatDoor.Q

theorem turnR_len (r : List S82) (l : List S69) (h : Ris r) : (turnR r l).length ≤ r.length + l.length := by
 induction l generalizing r with
 | nil => exact Nat.le_refl _
 | cons c l ih =>
  have h1 := turn1_len r c h
  have h2 := ih (turn1 r c) (h.turn1 c)
  show (turnR (turn1 r c) l).length ≤ _
  rw [List.length_cons]; omega
theorem preB_nil (k : ByteArray) : preB k ⟨#[]⟩ = true := by
 unfold preB Lib.hasPrefix; rfl
theorem filter_nil (r : List S82) : ((r.map fun x => x.f0).filter fun k => preB k ⟨#[]⟩) = r.map fun x => x.f0 := List.filter_eq_self.2 (fun k _ => preB_nil k)
theorem Ris.fold (ls : List (List S69)) {r : List S82} (h : Ris r) : Ris (ls.foldl turnR r) := by
 induction ls generalizing r with
 | nil => exact h
 | cons l ls ih => exact ih (h.turn l)
theorem ris_foldR (ls : List (List S69)) : Ris (foldR ls) := Ris.fold ls List.Pairwise.nil
/-- The rows of a reference, in memory. -/
def RowsAt (b : Nat) (w : World) (v : Value) (r : List S82) : Prop := Kd.R k82 82 w b (fun _ => True) v r
theorem RowsAt.below {b : Nat} {w w' : World} {v : Value} {r : List S82} (h : RowsAt b w v r) (hb : Below w.heap.size w w') : RowsAt b w' v r := rows_turO (base := b) (TurO.of_below hb) h
theorem RowsAt.turO {base b : Nat} {w w' : World} {v : Value} {r : List S82} (h : RowsAt b w v r) (hb : TurO base w w') : RowsAt b w' v r := rows_turO hb h
theorem RowsAt.slice {b : Nat} {w : World} {v : Value} {r : List S82} (h : RowsAt b w v r) : ∃ A c, v = .slice A r.length c ∧ r.length ≤ c ∧ Kd.C k82 w A r.length r := by
 obtain ⟨A, c, e⟩ := Kd.R_slice h
 subst e
 have := Kd.R_reads' h
 exact ⟨A, c, rfl, this.2.1, this.2.2⟩
theorem RowsAt.nil (b : Nat) (w : World) : RowsAt b w (.slice none 0 0) [] := Kd.R_nil _ _ _ _ _
/-- Rows.Turn, where no row is too long. -/
theorem rturn_says (b : Nat) (v : Value) (r : List S82) (A : Option Addr) (c : Nat) (l : List S69) (w : World) (hb : b ≤ w.heap.size) (h : RowsAt b w v r) (hC : Kd.C k69 w A l.length l) (hc : l.length ≤ c) (hl : r.length + l.length ≤ 1000000000) (hr : Ris r) :
  Calls Tryz.prog 86 #[v, .slice A l.length c] w fun e w' => ∃ v', e = .returned v' ∧ RowsAt b w' v' (turnR r l) ∧ Below w.heap.size w w' := by
 obtain ⟨A0, c0, rfl, h1, h2⟩ := h.slice
 refine (Turn_says A0 A c0 c r l w h2 hC h1 hc hl hr).mono ?_
 rintro e w' ⟨v', he, hr', hb'⟩
 exact ⟨v', he, Kd.R_lower hr' hb, hb'⟩
end Go.Proofs.YtpoblffgclmmlaaGreatDoor.X
end
section
set_option linter.unusedVariables false
set_option linter.unusedSimpArgs false
namespace Go.Proofs.YtpoblffgclmmlaaGreatDoor.X
open Go.RowKit Go.WideMaps Go.Maps Go.Proofs.YtpoblffgclmmlaaGreatDoorW.PrintWords Go.Proofs.YtpoblffgclmmlaaGreatDoorW.PrintLast Go.Proofs.YtpoblffgclmmlaaGreatDoorW.PrintMore Go.Proofs.YtpoblffgclmmlaaGreatDoor.Q

theorem turn1_last (p : List S82) (x : S82) (h : Ris p) (hp : ∀ y ∈ p, kl y.f0 < kl x.f0) : turn1 p ⟨x.f0, x.f1, false⟩ = p ++ [x] := by
 obtain ⟨p1, p2, e, h1, h2, h3⟩ := turn1_put p ⟨x.f0, x.f1, false⟩ rfl h
 have hn : p2 = [] := by
  cases p2 with
  | nil => rfl
  | cons y ys => exact absurd (hp y (by rw [e]; simp)) (h2 y (List.mem_cons_self ..))
 rw [h3, hn, e, hn]
 simp [other]
theorem turnR_allR (p q : List S82) (h : Ris (p ++ q)) : turnR p (allR q) = p ++ q := by
 induction q generalizing p with
 | nil => simp [allR, turnR]
 | cons x q ih =>
  have e : turnR p (allR (x :: q)) = turnR (turn1 p ⟨x.f0, x.f1, false⟩) (allR q) := rfl
  obtain ⟨ha, hb, hab⟩ := List.pairwise_append.1 h
  rw [e, turn1_last p x ha (fun y hy => hab y hy x (List.mem_cons_self ..)), ih (p ++ [x]) (by rw [List.append_assoc]; exact h), List.append_assoc]
  rfl
theorem fold_allR {q : List S82} (h : Ris q) : foldR [allR q] = q := by
 show turnR [] (allR q) = q
 exact turnR_allR [] q h
theorem foldR_snoc (ls : List (List S69)) (l : List S69) : foldR (ls ++ [l]) = turnR (foldR ls) l := by simp [foldR]
theorem fr_snoc (ls : List (List S69)) (l : List S69) : fr ((ls ++ [l]).map recL) = fr (ls.map recL) ++ frameL (recL l) := by
 rw [List.map_append, fr_append, List.map_singleton, fr_cons, fr_nil, List.append_nil]
/-- A tape that has records, all of them sure, and power. -/
structure Wel (T : TapeS) (ls : List (List S69)) : Prop where
 b : T.b = fr (ls.map recL)
 sm : ∀ l ∈ ls, (recL l).length ≤ 32768
 sure : T.sure = (T.b.length : Int)
 down : T.down = false
theorem Wel.new : Wel TapeS.new [] := ⟨rfl, by simp, rfl, rfl⟩
theorem Wel.lay {T : TapeS} {ls : List (List S69)} (h : Wel T ls) : Lay T ls [] := ⟨by rw [h.b, List.append_nil], oneL_nil, h.sm⟩
/-- Do, with power enough. -/
theorem do_ok {T : TapeS} {ls : List (List S69)} (h : Wel T ls) (hf : T.fuse = -1) (l : List S69) : ∃ ls', Wel (doR T (foldR ls) l).1 ls' ∧ (doR T (foldR ls) l).1.fuse = -1 ∧
  foldR ls' = (if (doR T (foldR ls) l).2 = 0 then turnR (foldR ls) l else foldR ls) ∧ ((doR T (foldR ls) l).2 = 0 ∨ (doR T (foldR ls) l).2 = 3 ∧ 32768 < (recL l).length ∨ (doR T (foldR ls) l).2 = 7 ∧ 32768 < (recL (allR (turnR (foldR ls) l))).length) ∧ (doR T (foldR ls) l).1.b.length ≤ max T.b.length 65536 := by
 unfold doR
 by_cases h0 : l.length = 0
 ·
  rw [if_pos h0]
  have : l = [] := List.length_eq_zero_iff.1 h0
  subst this
  exact ⟨ls, h, hf, rfl, .inl rfl, by simp; omega⟩
 ·
  rw [if_neg h0]
  by_cases h1 : 32768 < (recL l).length
  ·
   rw [if_pos h1]; exact ⟨ls, h, hf, rfl, .inr (.inl ⟨rfl, h1⟩), by simp; omega⟩
  ·
   rw [if_neg h1]
   by_cases h2 : 65536 < (frameL (recL l)).length + T.b.length
   ·
    rw [if_pos h2]
    unfold TapeS.renewR
    by_cases h3 : 32768 < (recL (allR (turnR (foldR ls) l))).length ∨ 65536 < (frameL (recL (allR (turnR (foldR ls) l)))).length
    ·
     rw [if_pos h3]
     refine ⟨ls, h, hf, rfl, .inr (.inr ⟨rfl, ?_⟩), by simp; omega⟩
     rcases h3 with h3 | h3
     ·
      exact h3
     ·
      rw [frameL_len] at h3; omega
    ·
     rw [if_neg h3]
     have hq : Ris (turnR (foldR ls) l) := (ris_foldR ls).turn l
     have e : T.swap (frameL (recL (allR (turnR (foldR ls) l)))) = (⟨frameL (recL (allR (turnR (foldR ls) l))), ((frameL (recL (allR (turnR (foldR ls) l)))).length : Int), -1, false⟩, 0) := by
      obtain ⟨b, sure, fuse, down⟩ := T
      have hd := h.down
      simp only at hf hd
      subst hf
      subst hd
      rfl
     rw [e]
     refine ⟨[allR (turnR (foldR ls) l)], ⟨by show _ = fr [recL _]; rw [fr_cons, fr_nil, List.append_nil], ?_, rfl, rfl⟩, rfl, by rw [if_pos rfl]; exact fold_allR hq, .inl rfl, ?_⟩
     ·
      intro x hx
      rw [List.mem_singleton.1 hx]
      omega
     ·
      show (frameL _).length ≤ _
      omega
   ·
    rw [if_neg h2, TapeS.append_well T _ hf h.down]
    refine ⟨ls ++ [l], ⟨by rw [fr_snoc, ← h.b], ?_, rfl, rfl⟩, rfl, by rw [if_pos rfl]; exact foldR_snoc ls l, .inl rfl, ?_⟩
    ·
     intro x hx
     rcases List.mem_append.1 hx with hx | hx
     ·
      exact h.sm x hx
     ·
      rw [List.mem_singleton.1 hx]; omega
    ·
     show (T.b ++ frameL (recL l)).length ≤ _
     rw [List.length_append]; omega
end Go.Proofs.YtpoblffgclmmlaaGreatDoor.X
end
section
set_option linter.unusedVariables false
set_option linter.unusedSimpArgs false
namespace Go.Proofs.YtpoblffgclmmlaaGreatDoor.X
open Go.RowKit Go.WideMaps Go.Maps Go.Proofs.YtpoblffgclmmlaaGreatDoorW.PrintWords Go.Proofs.YtpoblffgclmmlaaGreatDoorW.PrintLast Go.Proofs.YtpoblffgclmmlaaGreatDoorW.PrintMore Go.Proofs.YtpoblffgclmmlaaGreatDoor.Q

def StW (base : Nat) (w : World) (s : Nat) (r : List S82) (N : Nat) : Prop := ∃ t T ls, Sto base w s t T r N ∧ Wel T ls ∧ foldR ls = r ∧ T.fuse = -1 ∧ T.b.length ≤ 65536
theorem Wel.good {T : TapeS} {ls : List (List S69)} (h : Wel T ls) (hf : T.fuse = -1) (hl : T.b.length ≤ 65536) : T.Good :=
 ⟨by omega, by have := h.sure; omega, by omega⟩
theorem StW.below {base s N : Nat} {w w' : World} {r : List S82} (h : StW base w s r N) (hb : Below w.heap.size w w') : StW base w' s r N := by
 obtain ⟨t, T, ls, h1, h2⟩ := h
 exact ⟨t, T, ls, h1.below hb, h2⟩
theorem StW.ris {base s N : Nat} {w : World} {r : List S82} (h : StW base w s r N) : Ris r := by
 obtain ⟨t, T, ls, h1, h2, h3, _⟩ := h
 rw [← h3]; exact ris_foldR ls
theorem StW.mono {base s N N' : Nat} {w : World} {r : List S82} (h : StW base w s r N) (hN : N ≤ N') : StW base w s r N' := by
 obtain ⟨t, T, ls, h1, h2⟩ := h
 exact ⟨t, T, ls, h1.mono hN, h2⟩
theorem wget_says (base s N : Nat) (r : List S82) (key : ByteArray) (hk : key.size ≤ maxLen) (w : World) (h : StW base w s r N) :
  Calls Tryz.prog 79 #[.pointer (some ⟨s, 0, none⟩), .string key] w fun e w' => e = .returned (.tuple #[.string ((getR r key).getD ⟨#[]⟩), .bool (getR r key).isSome]) ∧ w' = w := by
 obtain ⟨t, T, ls, h1, h2⟩ := h
 exact sget_says base s t N T r key hk w h1
theorem wkeys_says (base s N : Nat) (r : List S82) (key : ByteArray) (w : World) (h : StW base w s r N) (hN : N ≤ 3400000000000) :
  Calls Tryz.prog 53 #[.pointer (some ⟨s, 0, none⟩), .string key] w fun e w' => ∃ v, e = .returned v ∧ Kd.R Kd.string 9 w' w.heap.size (fun _ => True) v ((r.map fun x => x.f0).filter fun k => preB k key) ∧ Below w.heap.size w w' := by
 obtain ⟨t, T, ls, h1, h2⟩ := h
 exact skeys_says base s t N T r key w h1 hN
/-- Do of changes that are small enough, and leave few enough. -/
theorem wdo_says (s N : Nat) (r : List S82) (A : Option Addr) (c : Nat) (l : List S69) (w0 w : World) (hGL : GL w0) (hB : Below w0.heap.size w0 w) (h : StW w0.heap.size w s r N) (hC : Kd.C k69 w A l.length l) (hcl : l.length ≤ c)
  (hn : N + l.length ≤ 3400000000000) (h1 : (recL l).length ≤ 32768) (h2 : 4 + wgt (turnR r l) ≤ 32768) (hl : 4 + wgt r + wgtC l ≤ 80000000) (hx : ∀ x ∈ l, x.f0.size ≤ maxLen ∧ x.f1.size ≤ maxLen) :
  Calls Tryz.prog 25 #[.pointer (some ⟨s, 0, none⟩), .slice A l.length c] w fun e w' =>
   e = .returned (.int .i64 0) ∧ TurO w0.heap.size w w' ∧ StW w0.heap.size w' s (turnR r l) (N + l.length) := by
 obtain ⟨t, T, ls, hS, hW, hf, hfu, hb⟩ := h
 have hok := do_ok hW hfu l
 rw [hf] at hok
 obtain ⟨ls', k1, k2, k3, k4, k5⟩ := hok
 have hE : (doR T r l).2 = 0 := by
  rcases k4 with k4 | k4 | k4
  ·
   exact k4
  ·
   omega
  ·
   have := recAll_len (turnR r l); omega
 refine (sdo_says s t N T r A c l w0 w hGL hB hS (hW.good hfu hb) hC hcl hn hl (by omega) hx).mono ?_
 rintro e w' ⟨rfl, ht, hS'⟩
 rw [hE] at hS' ⊢
 rw [if_pos rfl] at hS'
 rw [hE, if_pos rfl] at k3
 exact ⟨rfl, ht, t, _, ls', hS', k1, k3, k2, by omega⟩
theorem wnew_says (w0 w : World) (hGL : GL w0) (hB : Below w0.heap.size w0 w) (t : Nat) (v : Value) (hT : TpAt w w0.heap.size t v TapeS.new) :
  Calls Tryz.prog 19 #[.pointer (some ⟨t, 0, none⟩)] w fun e w' => Below w0.heap.size w0 w' ∧
   ∃ s, e = .returned (.tuple #[.pointer (some ⟨s, 0, none⟩), .int .i64 0]) ∧ StW w0.heap.size w' s [] 3300000000000 := by
 refine (snew_says w0 w hGL hB t v hT).mono ?_
 rintro e w' ⟨hk, s, he, _, hS⟩
 exact ⟨tur_below hB hk (fun k h => h ▸ hT.ge), s, he, t, _, [], hS, Wel.new, rfl, rfl, by decide⟩
/-- Are changes few, and not too long, for a law? -/
def storedB (l : List S69) : Bool := decide (l.length + wgtS l < 20000 ∧ l.length ≤ 200)
theorem wgtS_take (l : List S69) (i : Nat) (h : i < l.length) : wgtS (l.take (i + 1)) = wgtS (l.take i) + (l.getD i z69).f0.size + (l.getD i z69).f1.size := by
 unfold wgtS
 rw [List.take_add_one, List.getElem?_eq_getElem h, List.map_append, List.sum_append]
 simp [List.getD_eq_getElem?_getD, List.getElem?_eq_getElem h]
 omega
theorem wgtS_take_le (l : List S69) (i : Nat) : wgtS (l.take i) ≤ wgtS l := by
 conv => rhs; rw [← List.take_append_drop i l]
 unfold wgtS
 rw [List.map_append, List.sum_append]; omega
end Go.Proofs.YtpoblffgclmmlaaGreatDoor.X
end
section
set_option linter.unusedVariables false
set_option linter.unusedSimpArgs false
namespace Go.Proofs.YtpoblffgclmmlaaGreatDoor.X
open Go.RowKit Go.WideMaps Go.Maps Go.Proofs.YtpoblffgclmmlaaGreatDoorW.PrintWords Go.Proofs.YtpoblffgclmmlaaGreatDoorW.PrintLast Go.Proofs.YtpoblffgclmmlaaGreatDoorW.PrintMore Go.Proofs.YtpoblffgclmmlaaGreatDoor.Q

theorem mkB_size (l : List UInt8) : (⟨l.toArray⟩ : ByteArray).size = l.length := by show (List.toArray _).size = _; simp
theorem cell_later {w w1 : World} {a : Addr} {v : Value} (hb : Below w.heap.size w w1) (h : w.cell? a = some v) : w1.cell? a = some v := (hb.cell (World.block_lt_of_cell? _ _ h)).trans h
theorem rget_ev (rows : List S82) (key : ByteArray) (hl : rows.length ≤ 1000000000) : ∀ d i : Nat, i + d = rows.length →
  ∃ p : Int × Bool, Ev (fun k => exequaturref10_Rows_Get.l0 k rows key (i : Int)) p ∧ (p.2 = true → 0 ≤ p.1 ∧ p.1 < (rows.length : Int) ∧ getR (rows.drop i) key = some (rd_T82 rows p.1).f1) ∧ (p.2 = false → getR (rows.drop i) key = none) := by
 intro d
 induction d with
 | zero =>
  intro i hi
  refine ⟨(0, false), Ev.step (fun k => ?_) (evNow (r' := ((0 : Int), false)) rfl), (fun h => by cases h), fun _ => ?_⟩
  ·
   show exequaturref10_Rows_Get.l0 (k + 1) rows key (i : Int) = some (0, false)
   simp only [exequaturref10_Rows_Get.l0]
   rw [if_neg (by omega)]
  ·
   rw [List.drop_of_length_le (by omega)]; rfl
 | succ d ih =>
  intro i hi
  have hw : wrap64 ((i : Int) + 1) = ((i + 1 : Nat) : Int) := by rw [w64 (by omega) (by omega)]; rfl
  have ra : rd_T82 rows (i : Int) = rows.getD i z82 := by unfold rd_T82; rw [Int.toNat_natCast]
  obtain ⟨x, hx⟩ : ∃ x, x = rows.getD i z82 := ⟨_, rfl⟩
  have hd := drop_cons rows i (by omega) z82
  rw [← hx] at ra hd
  by_cases hc : x.f0.toList = key.toList
  ·
   have hk : x.f0 = key := kl_inj (bytes_list.1 hc)
   refine ⟨((i : Int), true), Ev.step (f := fun k => some ((i : Int), true)) (fun k => ?_) (evNow rfl), fun _ => ⟨by omega, by omega, ?_⟩, fun h => by cases h⟩
   ·
    show exequaturref10_Rows_Get.l0 (k + 1) rows key (i : Int) = _
    simp only [exequaturref10_Rows_Get.l0]
    rw [if_pos (by omega), if_pos (by omega), ra, if_pos hc]
   ·
    rw [hd, ra]; unfold getR; rw [List.find?_cons, decide_eq_true hk]; rfl
  ·
   have hk : ¬ x.f0 = key := fun e => hc (by rw [e])
   obtain ⟨p, h1, h2, h3⟩ := ih (i + 1) (by omega)
   have hg : getR (rows.drop i) key = getR (rows.drop (i + 1)) key := by rw [hd]; unfold getR; rw [List.find?_cons, decide_eq_false hk]
   refine ⟨p, Ev.step (f := fun k => exequaturref10_Rows_Get.l0 k rows key ((i + 1 : Nat) : Int)) (fun k => ?_) h1, fun h => by rw [hg]; exact h2 h, fun h => by rw [hg]; exact h3 h⟩
   show exequaturref10_Rows_Get.l0 (k + 1) rows key (i : Int) = _
   simp only [exequaturref10_Rows_Get.l0]
   rw [if_pos (by omega), if_pos (by omega), ra, if_neg hc, hw]
theorem rval_ev (rows : List S82) (key : ByteArray) (hl : rows.length ≤ 1000000000) : Ev (fun k => exequaturref10_Rows_Value.f k rows key) ((getR rows key).getD ⟨#[]⟩, (getR rows key).isSome) := by
 obtain ⟨p, ⟨K, h1⟩, h2, h3⟩ := rget_ev rows key hl rows.length 0 (by omega)
 rw [List.drop_zero] at h2 h3
 refine ⟨K, fun k hk => ?_⟩
 have h := h1 k hk
 show exequaturref10_Rows_Value.f k rows key = _
 unfold exequaturref10_Rows_Value.f exequaturref10_Rows_Get.f
 rw [show exequaturref10_Rows_Get.l0 k rows key 0 = some p from h, Option.bind_some]
 cases hp : p.2 with
 | true =>
  obtain ⟨a, b, c⟩ := h2 hp
  rw [c, if_pos rfl, if_pos a, if_pos b]; rfl
 | false => rw [h3 hp, if_neg (by decide)]; rfl
theorem rval_says (A0 : Option Addr) (c0 : Nat) (rows : List S82) (key : ByteArray) (w : World) (h0 : Kd.C k82 w A0 rows.length rows) (hc0 : rows.length ≤ c0) (hl : rows.length ≤ 1000000000) :
  Calls Tryz.prog 36 #[.slice A0 rows.length c0, .string key] w fun e w' => e = .returned (.tuple #[.string ((getR rows key).getD ⟨#[]⟩), .bool (getR rows key).isSome]) ∧ Below w.heap.size w w' := by
 obtain ⟨k, hk⟩ := (rval_ev rows key hl).rounds
 refine (exequaturref10_Rows_Value.calls k A0 c0 rows key _ _ w h0 hc0 hk).mono ?_
 rintro e w' ⟨h, hd⟩
 exact ⟨h, hd.below⟩
def cnt (r : List S82) (p : ByteArray) : List ByteArray := (r.map fun x => x.f0).filter fun k => preB k p
end Go.Proofs.YtpoblffgclmmlaaGreatDoor.X
end
section
set_option linter.unusedVariables false
set_option linter.unusedSimpArgs false
namespace Go.Proofs.YtpoblffgclmmlaaGreatDoor.X
open Go.RowKit Go.WideMaps Go.Maps Go.Proofs.YtpoblffgclmmlaaGreatDoorW.PrintWords Go.Proofs.YtpoblffgclmmlaaGreatDoorW.PrintLast Go.Proofs.YtpoblffgclmmlaaGreatDoorW.PrintMore Go.Proofs.YtpoblffgclmmlaaGreatDoor.Q

set_option maxHeartbeats 8000000 in
set_option maxRecDepth 100000 in
theorem stored19_says (w : World) (A : Option Addr) (c : Nat) (l : List S69) (hC : Kd.C k69 w A l.length l) (hc : l.length ≤ c) (hl : l.length ≤ 4000000000000) (hx : ∀ x ∈ l, x.f0.size ≤ 140737488351232 ∧ x.f1.size ≤ 140737488351232) (hGL : GL w) :
  Calls Tryz.prog 42 #[.slice A l.length c] w fun e w' => Below w.heap.size w w' ∧
   ((storedB l = false ∧ e = .returned (.tuple #[.pointer none, .slice none 0 0, .bool false])) ∨
   (storedB l = true ∧ ∃ s v, e = .returned (.tuple #[.pointer (some ⟨s, 0, none⟩), v, .bool true]) ∧ StW w.heap.size w' s (turnR [] l) 3300000000200 ∧ RowsAt w.heap.size w' v (turnR [] l))) := by
 go_enter Tryz.func42, Tryz.ntmps42
 go_wp2
 go_loopw [5, 6] (fun v5 v6 wr => ∃ i : Nat, i ≤ l.length ∧ v5 = .int .i64 ((l.length + wgtS (l.take i) : Nat) : Int) ∧ v6 = .int .i64 i ∧ (i = 0 ∨ l.length + wgtS (l.take (i - 1)) < 20000) ∧ Below w.heap.size w wr ∧ RowKit.Hid (wr.heap.size = w.heap.size)) (fun _ v6 _ => l.length - (intOf v6).toNat)
 case atStart => exact ⟨0, Nat.zero_le _, by simp [wgtS], rfl, .inl rfl, Below.refl _ _, Lib.hid rfl⟩
 case round =>
  obtain ⟨i, hi, rfl, rfl, hprev, hb, Hz⟩ := hrel
  have htk := wgtS_take_le l i
  obtain ⟨n, hn⟩ : ∃ n, n = l.length + wgtS (l.take i) := ⟨_, rfl⟩
  rw [← hn]
  by_cases hlt : i < l.length
  ·
   by_cases hn2 : n < 20000
   ·
    have d1 : decide ((i : Int) < (l.length : Int)) = true := decide_eq_true (by omega)
    have d2 : decide ((n : Int) < 20000) = true := decide_eq_true (by omega)
    have hCr := Kd.C_below hC hb
    obtain ⟨ad, rfl, hz0, hz1, hz2⟩ := at_T69 hCr (i : Int) (by omega) (by omega)
    have hrd : rd_T69 l (i : Int) = l.getD i z69 := by unfold rd_T69; rw [Int.toNat_natCast]
    rw [hrd] at hz0 hz1 hz2
    simp only [Int.toNat_natCast] at hz0 hz1 hz2
    have hstep := wgtS_take l i hlt
    have hxx := hx (l.getD i z69) (by simp [List.getD_eq_getElem?_getD, List.getElem?_eq_getElem hlt])
    obtain ⟨x, hx2⟩ : ∃ x, x = l.getD i z69 := ⟨_, rfl⟩
    rw [← hx2] at hz0 hz1 hz2 hstep hxx
    clear hx2 hrd
    have i3 : ((i : Int) < (l.length : Int)) = True := eq_true (by omega)
    have i0 : (0 ≤ (i : Int)) = True := eq_true (by omega)
    have e1 : IntKind.i64.wrap ((i : Int) + 1) = (i : Int) + 1 := IntWalk.i64_in _ (by omega)
    have e2 : IntKind.i64.wrap ((n : Int) + (x.f0.size : Int)) = ((n + x.f0.size : Nat) : Int) := by rw [IntWalk.i64_in _ (by omega)]; rfl
    have e3 : IntKind.i64.wrap (((n + x.f0.size : Nat) : Int) + (x.f1.size : Int)) = ((n + x.f0.size + x.f1.size : Nat) : Int) := by rw [IntWalk.i64_in _ (by omega)]; rfl
    have Hn := Lib.hid hn
    have Hst := Lib.hid hstep
    have Hxx := Lib.hid hxx
    clear hn hstep hxx htk hprev
    have Hi := Lib.hid (show i + 1 ≤ l.length by omega)
    have Hn2 := Lib.hid hn2
    have Hm := Lib.hid (show l.length - (i + 1) < l.length - i by omega)
    clear hlt hn2 hi hl hc
    go_wp2_with fail
    go_quiet (fail)
    go_wp2_with fail
    refine ⟨⟨i + 1, Hi.out, ?_, by go_num, .inr ?_, pw_below_drewN hb _, Lib.hid Hz.out⟩, ?_⟩
    ·
     have e4 : n + x.f0.size + x.f1.size = l.length + wgtS (l.take (i + 1)) := by have h1 := Hst.out; have h2 := Hn.out; omega
     have h1 := Hxx.out; have h2 := Hn2.out
     rw [← e4, w64 (by omega) (by omega)]; rfl
    ·
     have h1 := Hn.out; have h2 := Hn2.out; rw [Nat.add_sub_cancel]; omega
    ·
     have := Hm.out; simp only [intOf]; omega
   ·
    have d1 : decide ((i : Int) < (l.length : Int)) = true := decide_eq_true (by omega)
    have d2 : decide ((n : Int) < 20000) = false := decide_eq_false (by omega)
    have d3 : decide (20000 ≤ (n : Int)) = true := decide_eq_true (by omega)
    have hsb : storedB l = false := decide_eq_false (fun h => by omega)
    clear hn htk
    go_wp2_with fail
    go_ret3
    exact ⟨hb, .inl ⟨hsb, rfl⟩⟩
  ·
   have hil : i = l.length := by omega
   subst hil
   have d1 : decide ((l.length : Int) < (l.length : Int)) = false := decide_eq_false (by omega)
   by_cases hn2 : n < 20000
   ·
    have d3 : decide (20000 ≤ (n : Int)) = false := decide_eq_false (by omega)
    by_cases hl2 : l.length ≤ 200
    ·
     have d4 : decide (200 < (l.length : Int)) = false := decide_eq_false (by omega)
     rw [List.take_length] at hn
     have hsb : storedB l = true := decide_eq_true (by omega)
     have hwc := wgtC_small l
     have hrl := recL_small l
     have hwt := wgt_turn (r := []) List.Pairwise.nil l
     have hw0 : wgt [] = 0 := rfl
     have Hsb := Lib.hid hsb
     have hm1 : (recL l).length ≤ 32768 := by omega
     have hm2 : 4 + wgt (turnR [] l) ≤ 32768 := by omega
     have hm3 : 4 + wgt [] + wgtC l ≤ 80000000 := by omega
     have hm4 : 3300000000000 + l.length ≤ 3400000000000 := by omega
     have Hm1 := Lib.hid hm1
     have Hm2 := Lib.hid hm2
     have Hm3 := Lib.hid hm3
     have Hm4 := Lib.hid hm4
     clear hn htk hsb hwc hrl hwt hw0 hprev hm1 hm2 hm3 hm4
     go_wp2_with fail
     refine (tnew_says wr).mono ?_
     rintro e w1 ⟨t, rfl, hT1, hb1⟩
     have hT1 : TpAt w1 w.heap.size t (.slice none 0 0) TapeS.new := by rw [← Hz.out]; exact hT1
     have hB1 := below_then hb hb.size hb1
     go_wp2_with fail
     refine (wnew_says w w1 hGL hB1 t _ hT1).mono ?_
     rintro e w2 ⟨hB2, s, rfl, hS2⟩
     have hC2 := Kd.C_below hC hB2
     have hdo := wdo_says s 3300000000000 [] A c l w w2 hGL hB2 hS2 hC2 hc Hm4.out Hm1.out Hm2.out Hm3.out (fun x h => by have := hx x h; unfold maxLen; omega)
     go_wp2_with fail
     refine hdo.mono ?_
     rintro e w3 ⟨rfl, ht3, hS3⟩
     have hB3 : Below w.heap.size w w3 := hB2.trans (ht3.below hB2.size)
     have hC3 := Kd.C_below hC hB3
     have hturn := rturn_says w.heap.size (.slice none 0 0) [] A c l w3 hB3.size (RowsAt.nil _ _) hC3 hc (by simp; omega) List.Pairwise.nil
     go_wp2_with fail
     refine hturn.mono ?_
     rintro e w4 ⟨v4, rfl, hR4, hb4⟩
     have hS4 := hS3.below hb4
     have hB4 := below_then hB3 hB3.size hb4
     go_wp2_with fail
     go_ret3
     exact ⟨hB4, .inr ⟨Hsb.out, s, v4, rfl, hS4.mono (by omega), hR4⟩⟩
    ·
     have d4 : decide (200 < (l.length : Int)) = true := decide_eq_true (by omega)
     have hsb : storedB l = false := decide_eq_false (fun h => by omega)
     clear hn htk
     go_wp2_with fail
     go_ret3
     exact ⟨hb, .inl ⟨hsb, rfl⟩⟩
   ·
    have d3 : decide (20000 ≤ (n : Int)) = true := decide_eq_true (by omega)
    rw [List.take_length] at hn
    have hsb : storedB l = false := decide_eq_false (fun h => by omega)
    clear hn htk
    go_wp2_with fail
    go_ret3
    exact ⟨hb, .inl ⟨hsb, rfl⟩⟩
end Go.Proofs.YtpoblffgclmmlaaGreatDoor.X
end
section
set_option linter.unusedVariables false
set_option linter.unusedSimpArgs false
namespace Go.Proofs.YtpoblffgclmmlaaGreatDoor.X
open Go.RowKit Go.WideMaps Go.Maps Go.Proofs.YtpoblffgclmmlaaGreatDoorW.PrintWords Go.Proofs.YtpoblffgclmmlaaGreatDoorW.PrintLast Go.Proofs.YtpoblffgclmmlaaGreatDoorW.PrintMore Go.Proofs.YtpoblffgclmmlaaGreatDoor.Q

theorem wgtS_mem {l : List S69} {x : S69} (h : x ∈ l) : x.f0.size + x.f1.size ≤ wgtS l := by
 unfold wgtS
 induction l with
 | nil => cases h
 | cons y r ih =>
  simp only [List.map_cons, List.sum_cons]
  rcases List.mem_cons.1 h with e | e
  ·
   subst e; omega
  ·
   have := ih e; omega
set_option maxHeartbeats 8000000 in
set_option maxRecDepth 100000 in
theorem stored19w_says (w : World) (A : Option Addr) (c : Nat) (l : List S69) (hC : Kd.C k69 w A l.length l) (hc : l.length ≤ c) (hl : l.length ≤ 4000000000000) (hx : ∀ x ∈ l, x.f0.size ≤ 2000000000000000000 ∧ x.f1.size ≤ 2000000000000000000) (hGL : GL w) :
  Calls Tryz.prog 42 #[.slice A l.length c] w fun e w' => Below w.heap.size w w' ∧
   ((storedB l = false ∧ e = .returned (.tuple #[.pointer none, .slice none 0 0, .bool false])) ∨
   (storedB l = true ∧ ∃ s v, e = .returned (.tuple #[.pointer (some ⟨s, 0, none⟩), v, .bool true]) ∧ StW w.heap.size w' s (turnR [] l) 3300000000200 ∧ RowsAt w.heap.size w' v (turnR [] l))) := by
 go_enter Tryz.func42, Tryz.ntmps42
 go_wp2
 go_loopw [5, 6] (fun v5 v6 wr => ∃ i : Nat, i ≤ l.length ∧ v5 = .int .i64 ((l.length + wgtS (l.take i) : Nat) : Int) ∧ v6 = .int .i64 i ∧ (i = 0 ∨ l.length + wgtS (l.take (i - 1)) < 20000) ∧ Below w.heap.size w wr ∧ RowKit.Hid (wr.heap.size = w.heap.size)) (fun _ v6 _ => l.length - (intOf v6).toNat)
 case atStart => exact ⟨0, Nat.zero_le _, by simp [wgtS], rfl, .inl rfl, Below.refl _ _, Lib.hid rfl⟩
 case round =>
  obtain ⟨i, hi, rfl, rfl, hprev, hb, Hz⟩ := hrel
  have htk := wgtS_take_le l i
  obtain ⟨n, hn⟩ : ∃ n, n = l.length + wgtS (l.take i) := ⟨_, rfl⟩
  rw [← hn]
  by_cases hlt : i < l.length
  ·
   by_cases hn2 : n < 20000
   ·
    have d1 : decide ((i : Int) < (l.length : Int)) = true := decide_eq_true (by omega)
    have d2 : decide ((n : Int) < 20000) = true := decide_eq_true (by omega)
    have hCr := Kd.C_below hC hb
    obtain ⟨ad, rfl, hz0, hz1, hz2⟩ := at_T69 hCr (i : Int) (by omega) (by omega)
    have hrd : rd_T69 l (i : Int) = l.getD i z69 := by unfold rd_T69; rw [Int.toNat_natCast]
    rw [hrd] at hz0 hz1 hz2
    simp only [Int.toNat_natCast] at hz0 hz1 hz2
    have hstep := wgtS_take l i hlt
    have hxx := hx (l.getD i z69) (by simp [List.getD_eq_getElem?_getD, List.getElem?_eq_getElem hlt])
    obtain ⟨x, hx2⟩ : ∃ x, x = l.getD i z69 := ⟨_, rfl⟩
    rw [← hx2] at hz0 hz1 hz2 hstep hxx
    clear hx2 hrd
    have i3 : ((i : Int) < (l.length : Int)) = True := eq_true (by omega)
    have i0 : (0 ≤ (i : Int)) = True := eq_true (by omega)
    have e1 : IntKind.i64.wrap ((i : Int) + 1) = (i : Int) + 1 := IntWalk.i64_in _ (by omega)
    have e2 : IntKind.i64.wrap ((n : Int) + (x.f0.size : Int)) = ((n + x.f0.size : Nat) : Int) := by rw [IntWalk.i64_in _ (by omega)]; rfl
    have e3 : IntKind.i64.wrap (((n + x.f0.size : Nat) : Int) + (x.f1.size : Int)) = ((n + x.f0.size + x.f1.size : Nat) : Int) := by rw [IntWalk.i64_in _ (by omega)]; rfl
    have Hn := Lib.hid hn
    have Hst := Lib.hid hstep
    have Hxx := Lib.hid hxx
    clear hn hstep hxx htk hprev
    have Hi := Lib.hid (show i + 1 ≤ l.length by omega)
    have Hn2 := Lib.hid hn2
    have Hm := Lib.hid (show l.length - (i + 1) < l.length - i by omega)
    clear hlt hn2 hi hl hc
    go_wp2_with fail
    go_quiet (fail)
    go_wp2_with fail
    refine ⟨⟨i + 1, Hi.out, ?_, by go_num, .inr ?_, pw_below_drewN hb _, Lib.hid Hz.out⟩, ?_⟩
    ·
     have e4 : n + x.f0.size + x.f1.size = l.length + wgtS (l.take (i + 1)) := by have h1 := Hst.out; have h2 := Hn.out; omega
     have h1 := Hxx.out; have h2 := Hn2.out
     rw [← e4, w64 (by omega) (by omega)]; rfl
    ·
     have h1 := Hn.out; have h2 := Hn2.out; rw [Nat.add_sub_cancel]; omega
    ·
     have := Hm.out; simp only [intOf]; omega
   ·
    have d1 : decide ((i : Int) < (l.length : Int)) = true := decide_eq_true (by omega)
    have d2 : decide ((n : Int) < 20000) = false := decide_eq_false (by omega)
    have d3 : decide (20000 ≤ (n : Int)) = true := decide_eq_true (by omega)
    have hsb : storedB l = false := decide_eq_false (fun h => by omega)
    clear hn htk
    go_wp2_with fail
    go_ret3
    exact ⟨hb, .inl ⟨hsb, rfl⟩⟩
  ·
   have hil : i = l.length := by omega
   subst hil
   have d1 : decide ((l.length : Int) < (l.length : Int)) = false := decide_eq_false (by omega)
   by_cases hn2 : n < 20000
   ·
    have d3 : decide (20000 ≤ (n : Int)) = false := decide_eq_false (by omega)
    by_cases hl2 : l.length ≤ 200
    ·
     have d4 : decide (200 < (l.length : Int)) = false := decide_eq_false (by omega)
     rw [List.take_length] at hn
     have hsb : storedB l = true := decide_eq_true (by omega)
     have hwc := wgtC_small l
     have hrl := recL_small l
     have hwt := wgt_turn (r := []) List.Pairwise.nil l
     have hw0 : wgt [] = 0 := rfl
     have Hsb := Lib.hid hsb
     have hxs : ∀ x ∈ l, x.f0.size ≤ 20000 ∧ x.f1.size ≤ 20000 := fun x h => by have := wgtS_mem h; omega
     have hm1 : (recL l).length ≤ 32768 := by omega
     have hm2 : 4 + wgt (turnR [] l) ≤ 32768 := by omega
     have hm3 : 4 + wgt [] + wgtC l ≤ 80000000 := by omega
     have hm4 : 3300000000000 + l.length ≤ 3400000000000 := by omega
     have Hm1 := Lib.hid hm1
     have Hm2 := Lib.hid hm2
     have Hm3 := Lib.hid hm3
     have Hm4 := Lib.hid hm4
     clear hn htk hsb hwc hrl hwt hw0 hprev hm1 hm2 hm3 hm4
     go_wp2_with fail
     refine (tnew_says wr).mono ?_
     rintro e w1 ⟨t, rfl, hT1, hb1⟩
     have hT1 : TpAt w1 w.heap.size t (.slice none 0 0) TapeS.new := by rw [← Hz.out]; exact hT1
     have hB1 := below_then hb hb.size hb1
     go_wp2_with fail
     refine (wnew_says w w1 hGL hB1 t _ hT1).mono ?_
     rintro e w2 ⟨hB2, s, rfl, hS2⟩
     have hC2 := Kd.C_below hC hB2
     have hdo := wdo_says s 3300000000000 [] A c l w w2 hGL hB2 hS2 hC2 hc Hm4.out Hm1.out Hm2.out Hm3.out (fun x h => by have := hxs x h; unfold maxLen; omega)
     go_wp2_with fail
     refine hdo.mono ?_
     rintro e w3 ⟨rfl, ht3, hS3⟩
     have hB3 : Below w.heap.size w w3 := hB2.trans (ht3.below hB2.size)
     have hC3 := Kd.C_below hC hB3
     have hturn := rturn_says w.heap.size (.slice none 0 0) [] A c l w3 hB3.size (RowsAt.nil _ _) hC3 hc (by simp; omega) List.Pairwise.nil
     go_wp2_with fail
     refine hturn.mono ?_
     rintro e w4 ⟨v4, rfl, hR4, hb4⟩
     have hS4 := hS3.below hb4
     have hB4 := below_then hB3 hB3.size hb4
     go_wp2_with fail
     go_ret3
     exact ⟨hB4, .inr ⟨Hsb.out, s, v4, rfl, hS4.mono (by omega), hR4⟩⟩
    ·
     have d4 : decide (200 < (l.length : Int)) = true := decide_eq_true (by omega)
     have hsb : storedB l = false := decide_eq_false (fun h => by omega)
     clear hn htk
     go_wp2_with fail
     go_ret3
     exact ⟨hb, .inl ⟨hsb, rfl⟩⟩
   ·
    have d3 : decide (20000 ≤ (n : Int)) = true := decide_eq_true (by omega)
    rw [List.take_length] at hn
    have hsb : storedB l = false := decide_eq_false (fun h => by omega)
    clear hn htk
    go_wp2_with fail
    go_ret3
    exact ⟨hb, .inl ⟨hsb, rfl⟩⟩
end Go.Proofs.YtpoblffgclmmlaaGreatDoor.X
end
