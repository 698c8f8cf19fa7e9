/- A part of the proof of a card: what some functions of the program come to, each under the conditions that its theorem names. -/
import Derived.Deep.Slices
import Derived.Deep.Fields
import Derived.ChangeSame
import Derived.Deep.RegionHeld3
import Derived.Deep.QuietTactic
import Derived.BigQuiet
import Derived.Test.YtpoblffgclmmlaaGreatDoorPkPk8
import Derived.Test.YtpoblffgclmmlaaGreatDoorPkPk11
import Derived.Test.YtpoblffgclmmlaaGreatDoorPkPk15
import Derived.Test.YtpoblffgclmmlaaGreatDoorPkPk16
import Derived.Test.YtpoblffgclmmlaaGreatDoorPkPk17
import Derived.Test.YtpoblffgclmmlaaGreatDoorPkPk18
section
set_option linter.unusedVariables false
set_option linter.unusedSimpArgs false
namespace Go.Proofs.YtpoblffgclmmlaaGreatDoor.X
open Go.RowKit Go.WideMaps Go.Maps Go.Proofs.YtpoblffgclmmlaaGreatDoorW.PrintWords Go.Proofs.YtpoblffgclmmlaaGreatDoorW.PrintLast Go.Proofs.YtpoblffgclmmlaaGreatDoorW.PrintMore Go.Proofs.YtpoblffgclmmlaaGreatDoor.Q

/-- How long the texts of changes are. -/
def wgtS (l : List S69) : Nat := (l.map fun x => x.f0.size + x.f1.size).sum
/-- Small changes make a small record. -/
theorem recL_small (l : List S69) : (recL l).length ≤ 4 + 12 * l.length + wgtS l := by
 unfold recL wgtS
 rw [List.length_append, four_len]
 have : (l.flatMap chgL).length ≤ 12 * l.length + (l.map fun x => x.f0.size + x.f1.size).sum := by
  induction l with
  | nil => simp
  | cons c l ih =>
   rw [List.flatMap_cons, List.length_append, chgL_len]
   simp only [List.length_cons, List.map_cons, List.sum_cons]
   split <;> omega
 omega
theorem wgtC_small (l : List S69) : wgtC l = 12 * l.length + wgtS l := by
 unfold wgtC wgtS
 induction l with
 | nil => rfl
 | cons c l ih => simp only [List.length_cons, List.map_cons, List.sum_cons]; omega
end Go.Proofs.YtpoblffgclmmlaaGreatDoor.X
namespace Go.Proofs.YtpoblffgclmmlaaGreatDoor.X
open Go.RowKit Go.WideMaps Go.Maps Go.Proofs.YtpoblffgclmmlaaGreatDoorW.PrintWords Go.Proofs.YtpoblffgclmmlaaGreatDoorW.PrintLast Go.Proofs.YtpoblffgclmmlaaGreatDoorW.PrintMore Go.Proofs.YtpoblffgclmmlaaGreatDoor.Q

def allR (r : List S82) : List S69 := r.map fun x => (⟨x.f0, x.f1, false⟩ : S69)
def TapeS.renewR (T : TapeS) (r : List S82) : TapeS × Int :=
 if 32768 < (recL (allR r)).length ∨ 65536 < (frameL (recL (allR r))).length then (T, 7) else T.swap (frameL (recL (allR r)))
/-- What Do does to the tape, and what it answers. -/
def doR (T : TapeS) (r : List S82) (l : List S69) : TapeS × Int :=
 if l.length = 0 then (T, 0) else if 32768 < (recL l).length then (T, 3) else
 if 65536 < (frameL (recL l)).length + T.b.length then T.renewR (turnR r l) else T.append (frameL (recL l))
theorem doR_eq {D : DataW Unit} {r : List S82} (h : Mir D r) (T : TapeS) (l : List S69) : doT T D l = doR T r l := by
 unfold doT doR TapeS.renew TapeS.renewR allR
 rw [(h.turn l).all]
theorem recAll_len (r : List S82) : (recL (allR r)).length = 4 + wgt r := by
 unfold recL wgt allR
 rw [List.length_append, four_len, List.flatMap_map]
 congr 1
 induction r with
 | nil => rfl
 | cons x r ih =>
  rw [List.flatMap_cons, List.length_append, ih, chgL_len]
  simp
/-- What a call may turn: blocks behind base, of a tape, a store, or bytes. -/
def TurO (base : Nat) (w w' : World) : Prop := ∃ S : Nat → Prop, Tur w w' S ∧ ∀ k, S k → base ≤ k ∧ ((∃ cs, w.heap[k]? = some (.cells cs 119 (0, 0))) ∨ (∃ cs, w.heap[k]? = some (.cells cs 125 (0, 0))) ∨ (∃ cs, w.heap[k]? = some (.cells cs 5 (0, 0))))
theorem TurO.below {base : Nat} {w w' : World} (h : TurO base w w') (hb : base ≤ w.heap.size) : Below base w w' := by
 obtain ⟨S, hS, hk⟩ := h
 exact hS.toBelow hb (fun k h => (hk k h).1)
theorem TurO.of_below {base : Nat} {w w' : World} (h : Below w.heap.size w w') : TurO base w w' := ⟨fun _ => False, Tur.of_below h _, fun _ h => h.elim⟩
theorem TurO.size {base : Nat} {w w' : World} (h : TurO base w w') : w.heap.size ≤ w'.heap.size := by
 obtain ⟨S, hS, _⟩ := h
 exact hS.kept.1
/-- A row of another type stays. -/
theorem R_turO {α : Type} {d : Kd α} {e base b : Nat} {w w' : World} {v : Value} {xs : List α} (h : TurO base w w') (hr : Kd.R d e w b (fun _ => True) v xs) (hE : ∀ x cs, d.M w b (fun _ => False) x cs ∨ True) (h1 : e ≠ 119) (h2 : e ≠ 125) (h3 : e ≠ 5)
  (hm : ∀ ok, Kd.R d e w b ok v xs → Kd.R d e w b (fun k => v.ownBlock = some k) v xs) : Kd.R d e w' b (fun _ => True) v xs := by
 obtain ⟨S, hS, hk⟩ := h
 refine Kd.R_mono (Kd.R_kept (hm _ hr) hS.kept ?_) (fun _ _ => trivial)
 intro k hv hs
 obtain ⟨cells, hc⟩ := Kd.R_typed hr k hv
 rcases (hk k hs).2 with ⟨cs, h⟩ | ⟨cs, h⟩ | ⟨cs, h⟩ <;> rw [hc] at h <;> simp only [Option.some.injEq, Obj.cells.injEq] at h
 ·
  exact h1 h.2.1
 ·
  exact h2 h.2.1
 ·
  exact h3 h.2.1
theorem R_own79 {e : Nat} {W : World} {base : Nat} {ok : Nat → Prop} {v : Value} {xs : List S82} (h : Kd.R k82 e W base ok v xs) : Kd.R k82 e W base (fun k => v.ownBlock = some k) v xs := by
 obtain ⟨h0, inner, ho, hr⟩ := h
 exact ⟨fun k hk => hk, inner, ho, hr.imp_ (fun x cs hp => by rw [k82_openM hp]; exact k82_mkM _ _ _ x)⟩
theorem rows_turO {base b : Nat} {w w' : World} {v : Value} {xs : List S82} (h : TurO base w w') (hr : Kd.R k82 82 w b (fun _ => True) v xs) : Kd.R k82 82 w' b (fun _ => True) v xs :=
 R_turO h hr (fun _ _ => .inr trivial) (by decide) (by decide) (by decide) (fun _ h => R_own79 h)
/-- A store and its tape: rows, and what stands on the tape. -/
def Sto (base : Nat) (w : World) (s t : Nat) (T : TapeS) (r : List S82) (N : Nat) : Prop :=
 ∃ m n D v, StoreAt w base s t m n D ∧ TpAt w base t v T ∧ Mir D r ∧ n ≤ N
theorem Sto.below {base s t N : Nat} {w w' : World} {T : TapeS} {r : List S82} (h : Sto base w s t T r N) (hb : Below w.heap.size w w') : Sto base w' s t T r N := by
 obtain ⟨m, n, D, v, h1, h2, h3, h4⟩ := h
 exact ⟨m, n, D, v, h1.kept (Tur.of_below hb (fun _ => False)) (fun h => h) (fun h => h), TapeAt.kept h2 (Tur.of_below hb (fun _ => False)) (fun h => h) (fun _ _ h => h), h3, h4⟩
theorem Sto.mono {base s t N N' : Nat} {w : World} {T : TapeS} {r : List S82} (h : Sto base w s t T r N) (hN : N ≤ N') : Sto base w s t T r N' := by
 obtain ⟨m, n, D, v, h1, h2, h3, h4⟩ := h
 exact ⟨m, n, D, v, h1, h2, h3, Nat.le_trans h4 hN⟩
theorem Sto.ge {base s t N : Nat} {w : World} {T : TapeS} {r : List S82} (h : Sto base w s t T r N) : base ≤ s ∧ base ≤ t := by
 obtain ⟨m, n, D, v, h1, h2, h3, h4⟩ := h
 exact ⟨h1.ge, h2.ge⟩
/-- What a text has as its row. -/
def getR (r : List S82) (key : ByteArray) : Option ByteArray := (r.find? fun x => decide (x.f0 = key)).map fun x => x.f1
theorem getR_has {D : DataW Unit} {r : List S82} (h : Mir D r) (key : ByteArray) : hasS D key = (getR r key).isSome := by
 unfold getR
 rw [Bool.eq_iff_iff, h.has key, Option.isSome_map, List.find?_isSome]
 simp
theorem getR_val {D : DataW Unit} {r : List S82} (h : Mir D r) (key : ByteArray) (v : ByteArray) (hv : getR r key = some v) : valS D key = v := by
 unfold getR at hv
 rw [Option.map_eq_some_iff] at hv
 obtain ⟨x, hx, rfl⟩ := hv
 have h1 := List.mem_of_find?_eq_some hx
 have h2 := List.find?_some hx
 simp only [decide_eq_true_eq] at h2
 rw [← h2]; exact h.val x h1
theorem getR_none {D : DataW Unit} {r : List S82} (h : Mir D r) (key : ByteArray) (hv : getR r key = none) : valS D key = ⟨#[]⟩ := by
 have h1 := getR_has h key
 rw [hv] at h1
 obtain ⟨es, hes, _⟩ := h.tidy
 subst hes
 unfold hasS at h1
 unfold valS
 have : (DataW.map es).atKey (kb key) (.lit (.string [])) = .lit (.string []) := by
  unfold Maps.has at h1
  unfold DataW.atKey
  simp only [Option.isSome_none] at h1
  cases hf : es.find? (fun p => p.1.sameKey (kb key)) with
  | none => simp [hf]
  | some p =>
   exfalso
   have hp := List.mem_of_find?_eq_some hf
   have hp2 := List.find?_some hf
   have : es.any (fun p => p.1.sameKey (kb key)) = true := List.any_eq_true.2 ⟨p, hp, hp2⟩
   simp_all
 rw [this]
theorem sget_says (base s t N : Nat) (T : TapeS) (r : List S82) (key : ByteArray) (hk : key.size ≤ maxLen) (w : World) (h : Sto base w s t T r N) :
  Calls Tryz.prog 79 #[.pointer (some ⟨s, 0, none⟩), .string key] w fun e w' => e = .returned (.tuple #[.string ((getR r key).getD ⟨#[]⟩), .bool (getR r key).isSome]) ∧ w' = w := by
 obtain ⟨m, n, D, v, h1, h2, h3, h4⟩ := h
 have hg := get_says base s t m n D key hk w h1
 rw [getR_has h3 key] at hg
 cases hv : getR r key with
 | none => rw [hv, getR_none h3 key hv] at hg; exact hg
 | some x => rw [hv, getR_val h3 key x hv] at hg; exact hg
theorem sdo_says (s t N : Nat) (T : TapeS) (r : List S82) (A : Option Addr) (c : Nat) (l : List S69) (w0 w : World) (hGL : GL w0) (hB : Below w0.heap.size w0 w) (h : Sto w0.heap.size w s t T r N) (hG : T.Good) (hC : Kd.C k69 w A l.length l) (hcl : l.length ≤ c)
  (hn : N + l.length ≤ 3400000000000) (hl : 4 + wgt r + wgtC l ≤ 80000000) (hTl : T.b.length ≤ 1000000) (hx : ∀ x ∈ l, x.f0.size ≤ maxLen ∧ x.f1.size ≤ maxLen) :
  Calls Tryz.prog 25 #[.pointer (some ⟨s, 0, none⟩), .slice A l.length c] w fun e w' =>
   e = .returned (.int .i64 (doR T r l).2) ∧ TurO w0.heap.size w w' ∧ Sto w0.heap.size w' s t (doR T r l).1 (if (doR T r l).2 = 0 then turnR r l else r) (N + l.length) := by
 obtain ⟨m, n, D, v, h1, h2, h3, h4⟩ := h
 have hwl : l.length ≤ wgtC l := by rw [wgtC_small]; omega
 have hrl : (recL l).length ≤ 4 + wgtC l := by rw [wgtC_small]; have := recL_small l; omega
 have hd := do_says w0.heap.size s t m n D v T A c l w0 w hGL hB h1 h2 hG hC hcl (by omega) (by omega) (by omega) hTl hx (by
  have := (h3.turn l).recs
  have := wgt_turn h3.ris l
  omega) hB.size
 refine hd.mono ?_
 rintro e w' ⟨he, hk, m', n', v', hS, hn', hT, hv⟩
 rw [doR_eq h3] at he hT
 refine ⟨he, ⟨_, hk, ?_⟩, m', n', _, v', hS, hT, ?_, by omega⟩
 ·
  rintro k (h | h | h)
  ·
   exact ⟨h ▸ h1.ge, .inr (.inl ⟨_, h ▸ h1.blk⟩)⟩
  ·
   exact ⟨h ▸ h2.ge, .inl ⟨_, h ▸ h2.blk⟩⟩
  ·
   obtain ⟨hb, cells, hc⟩ := h2.row.typed k h
   exact ⟨hb, .inr (.inr ⟨cells, hc⟩)⟩
 ·
  unfold doD
  rw [doR_eq h3]
  split
  ·
   exact h3.turn l
  ·
   exact h3
/-- A tape that has whole records, and something that is none behind them. -/
structure Lay (T : TapeS) (ls : List (List S69)) (junk : List Int) : Prop where
 b : T.b = fr (ls.map recL) ++ junk
 none : (oneL junk).2 = false
 sm : ∀ l ∈ ls, (recL l).length ≤ 32768
theorem chg_mem {l : List S69} {c : S69} (h : c ∈ l) : 12 + c.f0.size + (if c.f2 = true then 0 else c.f1.size) ≤ (recL l).length := by
 unfold recL
 rw [List.length_append]
 have : (chgL c).length ≤ (l.flatMap chgL).length := by
  induction l with
  | nil => cases h
  | cons y l ih =>
   rw [List.flatMap_cons, List.length_append]
   rcases List.mem_cons.1 h with h | h
   ·
    rw [h]; omega
   ·
    have := ih h; omega
 rw [chgL_len] at this
 omega
theorem recs_len {l : List S69} : 4 + 12 * l.length ≤ (recL l).length := by
 unfold recL
 rw [List.length_append, four_len]
 have : 12 * l.length ≤ (l.flatMap chgL).length := by
  induction l with
  | nil => simp
  | cons y l ih => rw [List.flatMap_cons, List.length_append, chgL_len, List.length_cons]; omega
 omega
theorem norm_small {l : List S69} (h : (recL l).length ≤ 32768) : ∀ c ∈ l.map normC, c.f0.size < 4294967296 ∧ c.f1.size < 4294967296 := by
 intro c hc
 obtain ⟨x, hx, rfl⟩ := List.mem_map.1 hc
 have := chg_mem hx
 obtain ⟨k, v, g⟩ := x
 cases g with
 | false => simp [normC] at this ⊢; omega
 | true => exact ⟨by simp [normC] at this ⊢; omega, by show (⟨#[]⟩ : ByteArray).size < _; decide⟩
def foldR (ls : List (List S69)) : List S82 := ls.foldl turnR []
theorem mir_fold (ls : List (List S69)) {D : DataW Unit} {r : List S82} (h : Mir D r) : Mir (ls.foldl turnD D) (ls.foldl turnR r) := by
 induction ls generalizing D r with
 | nil => exact h
 | cons l ls ih => exact ih (h.turn l)
theorem Lay.split {T : TapeS} {ls : List (List S69)} {junk : List Int} (h : Lay T ls junk) : splitL T.b = (ls.map recL, (fr (ls.map recL)).length) := by
 rw [h.b]
 exact splitL_frames _ _ (by intro a ha; obtain ⟨l, hl, rfl⟩ := List.mem_map.1 ha; exact h.sm l hl) h.none
theorem Lay.opens {T : TapeS} {ls : List (List S69)} {junk : List Int} (h : Lay T ls junk) : openD (splitL T.b).1 (.map []) = some (ls.foldl turnD (.map [])) := by
 rw [h.split]
 have e : ls.map recL = (ls.map fun l => l.map normC).map recL := by rw [List.map_map]; exact List.map_congr_left fun l _ => (recL_norm l).symm
 show openD (ls.map recL) _ = _
 rw [e, openD_recs _ _ ?_]
 ·
  congr 1
  rw [List.foldl_map]
  congr 1
  funext D l; exact turnD_norm D l
 ·
  intro l hl
  obtain ⟨x, hx, rfl⟩ := List.mem_map.1 hl
  have h1 := h.sm x hx
  have h2 := recs_len (l := x)
  exact ⟨by rw [List.length_map]; omega, norm_small h1⟩
theorem Lay.opened {T : TapeS} {ls : List (List S69)} {junk : List Int} (h : Lay T ls junk) : T.opened = ⟨fr (ls.map recL), if junk = [] then T.sure else ((fr (ls.map recL)).length : Int), -1, false⟩ := by
 have hs := h.split
 unfold TapeS.opened
 rw [hs]
 simp only
 rw [show T.b.take (fr (ls.map recL)).length = fr (ls.map recL) by rw [h.b]; exact List.take_left]
 congr 1
 have hl : T.b.length = (fr (ls.map recL)).length + junk.length := by rw [h.b, List.length_append]
 by_cases hj : junk = []
 ·
  rw [if_pos hj, if_neg (by rw [hl, hj]; simp)]
 ·
  have := List.length_pos_iff.2 hj
  rw [if_neg hj, if_pos (by omega)]
/-- Open, where the tape has records. -/
theorem sopen_says (t : Nat) (v : Value) (T : TapeS) (ls : List (List S69)) (junk : List Int) (hL : Lay T ls junk) (hf : T.fuse = -1) (hd : T.down = false) (w0 w : World) (hGL : GL w0) (hB : Below w0.heap.size w0 w) (hT : TpAt w w0.heap.size t v T) (hG : T.Good) :
  Calls Tryz.prog 19 #[.pointer (some ⟨t, 0, none⟩)] w fun e w' => Tur w w' (fun k => k = t) ∧
   ∃ s, e = .returned (.tuple #[.pointer (some ⟨s, 0, none⟩), .int .i64 0]) ∧ w.heap.size ≤ s ∧ Sto w0.heap.size w' s t T.opened (foldR ls) 3300000000000 := by
 refine (topen_ok t v T hf hd _ hL.opens w0 w hGL hB hT hG).mono ?_
 rintro e w' ⟨hk, s, m, n, v', h1, h2, h3, h4, h5⟩
 exact ⟨hk, s, h1, h2.ge, m, n, _, v', h2.lower hB.size, h4, mir_fold ls Mir.empty, h3⟩
theorem Lay.new : Lay TapeS.new [] [] := ⟨rfl, oneL_nil, by simp⟩
theorem snew_says (w0 w : World) (hGL : GL w0) (hB : Below w0.heap.size w0 w) (t : Nat) (v : Value) (hT : TpAt w w0.heap.size t v TapeS.new) :
  Calls Tryz.prog 19 #[.pointer (some ⟨t, 0, none⟩)] w fun e w' => Tur w w' (fun k => k = t) ∧
   ∃ s, e = .returned (.tuple #[.pointer (some ⟨s, 0, none⟩), .int .i64 0]) ∧ w.heap.size ≤ s ∧ Sto w0.heap.size w' s t TapeS.new [] 3300000000000 :=
 sopen_says t v TapeS.new [] [] Lay.new rfl rfl w0 w hGL hB hT TapeS.new_good
end Go.Proofs.YtpoblffgclmmlaaGreatDoor.X
end
section
set_option linter.unusedVariables false
set_option linter.unusedSimpArgs false
namespace Go.Proofs.YtpoblffgclmmlaaGreatDoor.X
open Go.RowKit Go.WideMaps Go.Maps Go.Proofs.YtpoblffgclmmlaaGreatDoorW.PrintWords Go.Proofs.YtpoblffgclmmlaaGreatDoorW.PrintLast Go.Proofs.YtpoblffgclmmlaaGreatDoorW.PrintMore Go.Proofs.YtpoblffgclmmlaaGreatDoor.Q

theorem Ris.fold (ls : List (List S69)) {r : List S82} (h : Ris r) : Ris (ls.foldl turnR r) := by
 induction ls generalizing r with
 | nil => exact h
 | cons l ls ih => exact ih (h.turn l)
theorem ris_foldR (ls : List (List S69)) : Ris (foldR ls) := Ris.fold ls List.Pairwise.nil
theorem blk_ne_ty {W : World} {a b : Nat} {xs ys : Array Value} {S U : Nat} {fz fz' : Nat × Nat} (h : W.heap[a]? = some (.cells xs S fz)) (h' : W.heap[b]? = some (.cells ys U fz')) (hne : S ≠ U) : a ≠ b := fun e => by
 subst e; rw [h] at h'; simp only [Option.some.injEq, Obj.cells.injEq] at h'; exact hne h'.2.1
/-- The rows of a reference, in memory. -/
def RowsAt (b : Nat) (w : World) (v : Value) (r : List S82) : Prop := Kd.R k82 82 w b (fun _ => True) v r
theorem RowsAt.below {b : Nat} {w w' : World} {v : Value} {r : List S82} (h : RowsAt b w v r) (hb : Below w.heap.size w w') : RowsAt b w' v r := rows_turO (base := b) (TurO.of_below hb) h
theorem RowsAt.slice {b : Nat} {w : World} {v : Value} {r : List S82} (h : RowsAt b w v r) : ∃ A c, v = .slice A r.length c ∧ r.length ≤ c ∧ Kd.C k82 w A r.length r := by
 obtain ⟨A, c, e⟩ := Kd.R_slice h
 subst e
 have := Kd.R_reads' h
 exact ⟨A, c, rfl, this.2.1, this.2.2⟩
theorem RowsAt.nil (b : Nat) (w : World) : RowsAt b w (.slice none 0 0) [] := Kd.R_nil _ _ _ _ _
/-- Rows.Turn, where no row is too long. -/
theorem rturn_says (b : Nat) (v : Value) (r : List S82) (A : Option Addr) (c : Nat) (l : List S69) (w : World) (hb : b ≤ w.heap.size) (h : RowsAt b w v r) (hC : Kd.C k69 w A l.length l) (hc : l.length ≤ c) (hl : r.length + l.length ≤ 1000000000) (hr : Ris r) :
  Calls Tryz.prog 86 #[v, .slice A l.length c] w fun e w' => ∃ v', e = .returned v' ∧ RowsAt b w' v' (turnR r l) ∧ Below w.heap.size w w' := by
 obtain ⟨A0, c0, rfl, h1, h2⟩ := h.slice
 refine (Turn_says A0 A c0 c r l w h2 hC h1 hc hl hr).mono ?_
 rintro e w' ⟨v', he, hr', hb'⟩
 exact ⟨v', he, Kd.R_lower hr' hb, hb'⟩
end Go.Proofs.YtpoblffgclmmlaaGreatDoor.X
end
section
set_option linter.unusedVariables false
set_option linter.unusedSimpArgs false
namespace Go.Proofs.YtpoblffgclmmlaaGreatDoor.X
open Go.RowKit Go.WideMaps Go.Maps Go.Proofs.YtpoblffgclmmlaaGreatDoorW.PrintWords Go.Proofs.YtpoblffgclmmlaaGreatDoorW.PrintLast Go.Proofs.YtpoblffgclmmlaaGreatDoorW.PrintMore Go.Proofs.YtpoblffgclmmlaaGreatDoor.Q

theorem turn1_last (p : List S82) (x : S82) (h : Ris p) (hp : ∀ y ∈ p, kl y.f0 < kl x.f0) : turn1 p ⟨x.f0, x.f1, false⟩ = p ++ [x] := by
 obtain ⟨p1, p2, e, h1, h2, h3⟩ := turn1_put p ⟨x.f0, x.f1, false⟩ rfl h
 have hn : p2 = [] := by
  cases p2 with
  | nil => rfl
  | cons y ys => exact absurd (hp y (by rw [e]; simp)) (h2 y (List.mem_cons_self ..))
 rw [h3, hn, e, hn]
 simp [other]
theorem turnR_allR (p q : List S82) (h : Ris (p ++ q)) : turnR p (allR q) = p ++ q := by
 induction q generalizing p with
 | nil => simp [allR, turnR]
 | cons x q ih =>
  have e : turnR p (allR (x :: q)) = turnR (turn1 p ⟨x.f0, x.f1, false⟩) (allR q) := rfl
  obtain ⟨ha, hb, hab⟩ := List.pairwise_append.1 h
  rw [e, turn1_last p x ha (fun y hy => hab y hy x (List.mem_cons_self ..)), ih (p ++ [x]) (by rw [List.append_assoc]; exact h), List.append_assoc]
  rfl
theorem fold_allR {q : List S82} (h : Ris q) : foldR [allR q] = q := by
 show turnR [] (allR q) = q
 exact turnR_allR [] q h
theorem foldR_snoc (ls : List (List S69)) (l : List S69) : foldR (ls ++ [l]) = turnR (foldR ls) l := by simp [foldR]
theorem fr_snoc (ls : List (List S69)) (l : List S69) : fr ((ls ++ [l]).map recL) = fr (ls.map recL) ++ frameL (recL l) := by
 rw [List.map_append, fr_append, List.map_singleton, fr_cons, fr_nil, List.append_nil]
/-- A tape that has records, all of them sure, and power. -/
structure Wel (T : TapeS) (ls : List (List S69)) : Prop where
 b : T.b = fr (ls.map recL)
 sm : ∀ l ∈ ls, (recL l).length ≤ 32768
 sure : T.sure = (T.b.length : Int)
 down : T.down = false
theorem Wel.new : Wel TapeS.new [] := ⟨rfl, by simp, rfl, rfl⟩
theorem Wel.lay {T : TapeS} {ls : List (List S69)} (h : Wel T ls) : Lay T ls [] := ⟨by rw [h.b, List.append_nil], oneL_nil, h.sm⟩
/-- Do, with power enough. -/
theorem do_ok {T : TapeS} {ls : List (List S69)} (h : Wel T ls) (hf : T.fuse = -1) (l : List S69) : ∃ ls', Wel (doR T (foldR ls) l).1 ls' ∧ (doR T (foldR ls) l).1.fuse = -1 ∧
  foldR ls' = (if (doR T (foldR ls) l).2 = 0 then turnR (foldR ls) l else foldR ls) ∧ ((doR T (foldR ls) l).2 = 0 ∨ (doR T (foldR ls) l).2 = 3 ∧ 32768 < (recL l).length ∨ (doR T (foldR ls) l).2 = 7 ∧ 32768 < (recL (allR (turnR (foldR ls) l))).length) ∧ (doR T (foldR ls) l).1.b.length ≤ max T.b.length 65536 := by
 unfold doR
 by_cases h0 : l.length = 0
 ·
  rw [if_pos h0]
  have : l = [] := List.length_eq_zero_iff.1 h0
  subst this
  exact ⟨ls, h, hf, rfl, .inl rfl, by simp; omega⟩
 ·
  rw [if_neg h0]
  by_cases h1 : 32768 < (recL l).length
  ·
   rw [if_pos h1]; exact ⟨ls, h, hf, rfl, .inr (.inl ⟨rfl, h1⟩), by simp; omega⟩
  ·
   rw [if_neg h1]
   by_cases h2 : 65536 < (frameL (recL l)).length + T.b.length
   ·
    rw [if_pos h2]
    unfold TapeS.renewR
    by_cases h3 : 32768 < (recL (allR (turnR (foldR ls) l))).length ∨ 65536 < (frameL (recL (allR (turnR (foldR ls) l)))).length
    ·
     rw [if_pos h3]
     refine ⟨ls, h, hf, rfl, .inr (.inr ⟨rfl, ?_⟩), by simp; omega⟩
     rcases h3 with h3 | h3
     ·
      exact h3
     ·
      rw [frameL_len] at h3; omega
    ·
     rw [if_neg h3]
     have hq : Ris (turnR (foldR ls) l) := (ris_foldR ls).turn l
     have e : T.swap (frameL (recL (allR (turnR (foldR ls) l)))) = (⟨frameL (recL (allR (turnR (foldR ls) l))), ((frameL (recL (allR (turnR (foldR ls) l)))).length : Int), -1, false⟩, 0) := by
      obtain ⟨b, sure, fuse, down⟩ := T
      have hd := h.down
      simp only at hf hd
      subst hf
      subst hd
      rfl
     rw [e]
     refine ⟨[allR (turnR (foldR ls) l)], ⟨by show _ = fr [recL _]; rw [fr_cons, fr_nil, List.append_nil], ?_, rfl, rfl⟩, rfl, by rw [if_pos rfl]; exact fold_allR hq, .inl rfl, ?_⟩
     ·
      intro x hx
      rw [List.mem_singleton.1 hx]
      omega
     ·
      show (frameL _).length ≤ _
      omega
   ·
    rw [if_neg h2, TapeS.append_well T _ hf h.down]
    refine ⟨ls ++ [l], ⟨by rw [fr_snoc, ← h.b], ?_, rfl, rfl⟩, rfl, by rw [if_pos rfl]; exact foldR_snoc ls l, .inl rfl, ?_⟩
    ·
     intro x hx
     rcases List.mem_append.1 hx with hx | hx
     ·
      exact h.sm x hx
     ·
      rw [List.mem_singleton.1 hx]; omega
    ·
     show (T.b ++ frameL (recL l)).length ≤ _
     rw [List.length_append]; omega
end Go.Proofs.YtpoblffgclmmlaaGreatDoor.X
end
section
set_option linter.unusedVariables false
set_option linter.unusedSimpArgs false
namespace Go.Proofs.YtpoblffgclmmlaaGreatDoor.X
open Go.RowKit Go.WideMaps Go.Maps Go.Proofs.YtpoblffgclmmlaaGreatDoorW.PrintWords Go.Proofs.YtpoblffgclmmlaaGreatDoorW.PrintLast Go.Proofs.YtpoblffgclmmlaaGreatDoorW.PrintMore Go.Proofs.YtpoblffgclmmlaaGreatDoor.Q

def StW (base : Nat) (w : World) (s : Nat) (r : List S82) (N : Nat) : Prop := ∃ t T ls, Sto base w s t T r N ∧ Wel T ls ∧ foldR ls = r ∧ T.fuse = -1 ∧ T.b.length ≤ 65536
theorem Wel.good {T : TapeS} {ls : List (List S69)} (h : Wel T ls) (hf : T.fuse = -1) (hl : T.b.length ≤ 65536) : T.Good :=
 ⟨by omega, by have := h.sure; omega, by omega⟩
theorem StW.below {base s N : Nat} {w w' : World} {r : List S82} (h : StW base w s r N) (hb : Below w.heap.size w w') : StW base w' s r N := by
 obtain ⟨t, T, ls, h1, h2⟩ := h
 exact ⟨t, T, ls, h1.below hb, h2⟩
theorem StW.ris {base s N : Nat} {w : World} {r : List S82} (h : StW base w s r N) : Ris r := by
 obtain ⟨t, T, ls, h1, h2, h3, _⟩ := h
 rw [← h3]; exact ris_foldR ls
theorem StW.mono {base s N N' : Nat} {w : World} {r : List S82} (h : StW base w s r N) (hN : N ≤ N') : StW base w s r N' := by
 obtain ⟨t, T, ls, h1, h2⟩ := h
 exact ⟨t, T, ls, h1.mono hN, h2⟩
theorem wget_says (base s N : Nat) (r : List S82) (key : ByteArray) (hk : key.size ≤ maxLen) (w : World) (h : StW base w s r N) :
  Calls Tryz.prog 79 #[.pointer (some ⟨s, 0, none⟩), .string key] w fun e w' => e = .returned (.tuple #[.string ((getR r key).getD ⟨#[]⟩), .bool (getR r key).isSome]) ∧ w' = w := by
 obtain ⟨t, T, ls, h1, h2⟩ := h
 exact sget_says base s t N T r key hk w h1
/-- Do of changes that are small enough, and leave few enough. -/
theorem wdo_says (s N : Nat) (r : List S82) (A : Option Addr) (c : Nat) (l : List S69) (w0 w : World) (hGL : GL w0) (hB : Below w0.heap.size w0 w) (h : StW w0.heap.size w s r N) (hC : Kd.C k69 w A l.length l) (hcl : l.length ≤ c)
  (hn : N + l.length ≤ 3400000000000) (h1 : (recL l).length ≤ 32768) (h2 : 4 + wgt (turnR r l) ≤ 32768) (hl : 4 + wgt r + wgtC l ≤ 80000000) (hx : ∀ x ∈ l, x.f0.size ≤ maxLen ∧ x.f1.size ≤ maxLen) :
  Calls Tryz.prog 25 #[.pointer (some ⟨s, 0, none⟩), .slice A l.length c] w fun e w' =>
   e = .returned (.int .i64 0) ∧ TurO w0.heap.size w w' ∧ StW w0.heap.size w' s (turnR r l) (N + l.length) := by
 obtain ⟨t, T, ls, hS, hW, hf, hfu, hb⟩ := h
 have hok := do_ok hW hfu l
 rw [hf] at hok
 obtain ⟨ls', k1, k2, k3, k4, k5⟩ := hok
 have hE : (doR T r l).2 = 0 := by
  rcases k4 with k4 | k4 | k4
  ·
   exact k4
  ·
   omega
  ·
   have := recAll_len (turnR r l); omega
 refine (sdo_says s t N T r A c l w0 w hGL hB hS (hW.good hfu hb) hC hcl hn hl (by omega) hx).mono ?_
 rintro e w' ⟨rfl, ht, hS'⟩
 rw [hE] at hS' ⊢
 rw [if_pos rfl] at hS'
 rw [hE, if_pos rfl] at k3
 exact ⟨rfl, ht, t, _, ls', hS', k1, k3, k2, by omega⟩
theorem wnew_says (w0 w : World) (hGL : GL w0) (hB : Below w0.heap.size w0 w) (t : Nat) (v : Value) (hT : TpAt w w0.heap.size t v TapeS.new) :
  Calls Tryz.prog 19 #[.pointer (some ⟨t, 0, none⟩)] w fun e w' => Below w0.heap.size w0 w' ∧
   ∃ s, e = .returned (.tuple #[.pointer (some ⟨s, 0, none⟩), .int .i64 0]) ∧ StW w0.heap.size w' s [] 3300000000000 := by
 refine (snew_says w0 w hGL hB t v hT).mono ?_
 rintro e w' ⟨hk, s, he, _, hS⟩
 exact ⟨tur_below hB hk (fun k h => h ▸ hT.ge), s, he, t, _, [], hS, Wel.new, rfl, rfl, by decide⟩
/-- Are changes few, and not too long, for a law? -/
def storedB (l : List S69) : Bool := decide (l.length + wgtS l < 20000 ∧ l.length ≤ 200)
theorem wgtS_take (l : List S69) (i : Nat) (h : i < l.length) : wgtS (l.take (i + 1)) = wgtS (l.take i) + (l.getD i z69).f0.size + (l.getD i z69).f1.size := by
 unfold wgtS
 rw [List.take_add_one, List.getElem?_eq_getElem h, List.map_append, List.sum_append]
 simp [List.getD_eq_getElem?_getD, List.getElem?_eq_getElem h]
 omega
theorem wgtS_take_le (l : List S69) (i : Nat) : wgtS (l.take i) ≤ wgtS l := by
 conv => rhs; rw [← List.take_append_drop i l]
 unfold wgtS
 rw [List.map_append, List.sum_append]; omega
end Go.Proofs.YtpoblffgclmmlaaGreatDoor.X
end
section
set_option linter.unusedVariables false
set_option linter.unusedSimpArgs false
namespace Go.Proofs.YtpoblffgclmmlaaGreatDoor.X
open Go.RowKit Go.WideMaps Go.Maps Go.Proofs.YtpoblffgclmmlaaGreatDoorW.PrintWords Go.Proofs.YtpoblffgclmmlaaGreatDoorW.PrintLast Go.Proofs.YtpoblffgclmmlaaGreatDoorW.PrintMore Go.Proofs.YtpoblffgclmmlaaGreatDoor.Q

theorem mkB_size (l : List UInt8) : (⟨l.toArray⟩ : ByteArray).size = l.length := by show (List.toArray _).size = _; simp
theorem cell_later {w w1 : World} {a : Addr} {v : Value} (hb : Below w.heap.size w w1) (h : w.cell? a = some v) : w1.cell? a = some v := (hb.cell (World.block_lt_of_cell? _ _ h)).trans h
def cnt (r : List S82) (p : ByteArray) : List ByteArray := (r.map fun x => x.f0).filter fun k => preB k p
end Go.Proofs.YtpoblffgclmmlaaGreatDoor.X
end
section
set_option linter.unusedVariables false
set_option linter.unusedSimpArgs false
namespace Go.Proofs.YtpoblffgclmmlaaGreatDoor.X
open Go.RowKit Go.WideMaps Go.Maps Go.Proofs.YtpoblffgclmmlaaGreatDoorW.PrintWords Go.Proofs.YtpoblffgclmmlaaGreatDoorW.PrintLast Go.Proofs.YtpoblffgclmmlaaGreatDoorW.PrintMore Go.Proofs.YtpoblffgclmmlaaGreatDoor.Q

set_option maxHeartbeats 8000000 in
set_option maxRecDepth 100000 in
theorem stored19_says (w : World) (A : Option Addr) (c : Nat) (l : List S69) (hC : Kd.C k69 w A l.length l) (hc : l.length ≤ c) (hl : l.length ≤ 4000000000000) (hx : ∀ x ∈ l, x.f0.size ≤ 140737488351232 ∧ x.f1.size ≤ 140737488351232) (hGL : GL w) :
  Calls Tryz.prog 42 #[.slice A l.length c] w fun e w' => Below w.heap.size w w' ∧
   ((storedB l = false ∧ e = .returned (.tuple #[.pointer none, .slice none 0 0, .bool false])) ∨
   (storedB l = true ∧ ∃ s v, e = .returned (.tuple #[.pointer (some ⟨s, 0, none⟩), v, .bool true]) ∧ StW w.heap.size w' s (turnR [] l) 3300000000200 ∧ RowsAt w.heap.size w' v (turnR [] l))) := by
 go_enter Tryz.func42, Tryz.ntmps42
 go_wp2
 go_loopw [5, 6] (fun v5 v6 wr => ∃ i : Nat, i ≤ l.length ∧ v5 = .int .i64 ((l.length + wgtS (l.take i) : Nat) : Int) ∧ v6 = .int .i64 i ∧ (i = 0 ∨ l.length + wgtS (l.take (i - 1)) < 20000) ∧ Below w.heap.size w wr ∧ RowKit.Hid (wr.heap.size = w.heap.size)) (fun _ v6 _ => l.length - (intOf v6).toNat)
 case atStart => exact ⟨0, Nat.zero_le _, by simp [wgtS], rfl, .inl rfl, Below.refl _ _, Lib.hid rfl⟩
 case round =>
  obtain ⟨i, hi, rfl, rfl, hprev, hb, Hz⟩ := hrel
  have htk := wgtS_take_le l i
  obtain ⟨n, hn⟩ : ∃ n, n = l.length + wgtS (l.take i) := ⟨_, rfl⟩
  rw [← hn]
  by_cases hlt : i < l.length
  ·
   by_cases hn2 : n < 20000
   ·
    have d1 : decide ((i : Int) < (l.length : Int)) = true := decide_eq_true (by omega)
    have d2 : decide ((n : Int) < 20000) = true := decide_eq_true (by omega)
    have hCr := Kd.C_below hC hb
    obtain ⟨ad, rfl, hz0, hz1, hz2⟩ := at_T69 hCr (i : Int) (by omega) (by omega)
    have hrd : rd_T69 l (i : Int) = l.getD i z69 := by unfold rd_T69; rw [Int.toNat_natCast]
    rw [hrd] at hz0 hz1 hz2
    simp only [Int.toNat_natCast] at hz0 hz1 hz2
    have hstep := wgtS_take l i hlt
    have hxx := hx (l.getD i z69) (by simp [List.getD_eq_getElem?_getD, List.getElem?_eq_getElem hlt])
    obtain ⟨x, hx2⟩ : ∃ x, x = l.getD i z69 := ⟨_, rfl⟩
    rw [← hx2] at hz0 hz1 hz2 hstep hxx
    clear hx2 hrd
    have i3 : ((i : Int) < (l.length : Int)) = True := eq_true (by omega)
    have i0 : (0 ≤ (i : Int)) = True := eq_true (by omega)
    have e1 : IntKind.i64.wrap ((i : Int) + 1) = (i : Int) + 1 := IntWalk.i64_in _ (by omega)
    have e2 : IntKind.i64.wrap ((n : Int) + (x.f0.size : Int)) = ((n + x.f0.size : Nat) : Int) := by rw [IntWalk.i64_in _ (by omega)]; rfl
    have e3 : IntKind.i64.wrap (((n + x.f0.size : Nat) : Int) + (x.f1.size : Int)) = ((n + x.f0.size + x.f1.size : Nat) : Int) := by rw [IntWalk.i64_in _ (by omega)]; rfl
    have Hn := Lib.hid hn
    have Hst := Lib.hid hstep
    have Hxx := Lib.hid hxx
    clear hn hstep hxx htk hprev
    have Hi := Lib.hid (show i + 1 ≤ l.length by omega)
    have Hn2 := Lib.hid hn2
    have Hm := Lib.hid (show l.length - (i + 1) < l.length - i by omega)
    clear hlt hn2 hi hl hc
    go_wp2_with fail
    go_quiet (fail)
    go_wp2_with fail
    refine ⟨⟨i + 1, Hi.out, ?_, by go_num, .inr ?_, pw_below_drewN hb _, Lib.hid Hz.out⟩, ?_⟩
    ·
     have e4 : n + x.f0.size + x.f1.size = l.length + wgtS (l.take (i + 1)) := by have h1 := Hst.out; have h2 := Hn.out; omega
     have h1 := Hxx.out; have h2 := Hn2.out
     rw [← e4, w64 (by omega) (by omega)]; rfl
    ·
     have h1 := Hn.out; have h2 := Hn2.out; rw [Nat.add_sub_cancel]; omega
    ·
     have := Hm.out; simp only [intOf]; omega
   ·
    have d1 : decide ((i : Int) < (l.length : Int)) = true := decide_eq_true (by omega)
    have d2 : decide ((n : Int) < 20000) = false := decide_eq_false (by omega)
    have d3 : decide (20000 ≤ (n : Int)) = true := decide_eq_true (by omega)
    have hsb : storedB l = false := decide_eq_false (fun h => by omega)
    clear hn htk
    go_wp2_with fail
    go_ret3
    exact ⟨hb, .inl ⟨hsb, rfl⟩⟩
  ·
   have hil : i = l.length := by omega
   subst hil
   have d1 : decide ((l.length : Int) < (l.length : Int)) = false := decide_eq_false (by omega)
   by_cases hn2 : n < 20000
   ·
    have d3 : decide (20000 ≤ (n : Int)) = false := decide_eq_false (by omega)
    by_cases hl2 : l.length ≤ 200
    ·
     have d4 : decide (200 < (l.length : Int)) = false := decide_eq_false (by omega)
     rw [List.take_length] at hn
     have hsb : storedB l = true := decide_eq_true (by omega)
     have hwc := wgtC_small l
     have hrl := recL_small l
     have hwt := wgt_turn (r := []) List.Pairwise.nil l
     have hw0 : wgt [] = 0 := rfl
     have Hsb := Lib.hid hsb
     have hm1 : (recL l).length ≤ 32768 := by omega
     have hm2 : 4 + wgt (turnR [] l) ≤ 32768 := by omega
     have hm3 : 4 + wgt [] + wgtC l ≤ 80000000 := by omega
     have hm4 : 3300000000000 + l.length ≤ 3400000000000 := by omega
     have Hm1 := Lib.hid hm1
     have Hm2 := Lib.hid hm2
     have Hm3 := Lib.hid hm3
     have Hm4 := Lib.hid hm4
     clear hn htk hsb hwc hrl hwt hw0 hprev hm1 hm2 hm3 hm4
     go_wp2_with fail
     refine (tnew_says wr).mono ?_
     rintro e w1 ⟨t, rfl, hT1, hb1⟩
     have hT1 : TpAt w1 w.heap.size t (.slice none 0 0) TapeS.new := by rw [← Hz.out]; exact hT1
     have hB1 := below_then hb hb.size hb1
     go_wp2_with fail
     refine (wnew_says w w1 hGL hB1 t _ hT1).mono ?_
     rintro e w2 ⟨hB2, s, rfl, hS2⟩
     have hC2 := Kd.C_below hC hB2
     have hdo := wdo_says s 3300000000000 [] A c l w w2 hGL hB2 hS2 hC2 hc Hm4.out Hm1.out Hm2.out Hm3.out (fun x h => by have := hx x h; unfold maxLen; omega)
     go_wp2_with fail
     refine hdo.mono ?_
     rintro e w3 ⟨rfl, ht3, hS3⟩
     have hB3 : Below w.heap.size w w3 := hB2.trans (ht3.below hB2.size)
     have hC3 := Kd.C_below hC hB3
     have hturn := rturn_says w.heap.size (.slice none 0 0) [] A c l w3 hB3.size (RowsAt.nil _ _) hC3 hc (by simp; omega) List.Pairwise.nil
     go_wp2_with fail
     refine hturn.mono ?_
     rintro e w4 ⟨v4, rfl, hR4, hb4⟩
     have hS4 := hS3.below hb4
     have hB4 := below_then hB3 hB3.size hb4
     go_wp2_with fail
     go_ret3
     exact ⟨hB4, .inr ⟨Hsb.out, s, v4, rfl, hS4.mono (by omega), hR4⟩⟩
    ·
     have d4 : decide (200 < (l.length : Int)) = true := decide_eq_true (by omega)
     have hsb : storedB l = false := decide_eq_false (fun h => by omega)
     clear hn htk
     go_wp2_with fail
     go_ret3
     exact ⟨hb, .inl ⟨hsb, rfl⟩⟩
   ·
    have d3 : decide (20000 ≤ (n : Int)) = true := decide_eq_true (by omega)
    rw [List.take_length] at hn
    have hsb : storedB l = false := decide_eq_false (fun h => by omega)
    clear hn htk
    go_wp2_with fail
    go_ret3
    exact ⟨hb, .inl ⟨hsb, rfl⟩⟩
end Go.Proofs.YtpoblffgclmmlaaGreatDoor.X
end
section
set_option linter.unusedVariables false
set_option linter.unusedSimpArgs false
namespace Go.Proofs.YtpoblffgclmmlaaGreatDoor.X
open Go.RowKit Go.WideMaps Go.Maps Go.Proofs.YtpoblffgclmmlaaGreatDoorW.PrintWords Go.Proofs.YtpoblffgclmmlaaGreatDoorW.PrintLast Go.Proofs.YtpoblffgclmmlaaGreatDoorW.PrintMore Go.Proofs.YtpoblffgclmmlaaGreatDoor.Q

theorem numL_some {s : ByteArray} {v : Int} (h : numL s = (v, true)) : numB s = some v := by
 unfold numL at h
 unfold numB
 cases ha : Lib.atoiAll s.data.toList with
 | ok u =>
  rw [ha] at h
  obtain ⟨h1, h2⟩ := Prod.mk.inj h
  subst h1
  have e := beq_iff_eq.1 h2
  rw [ByteArray.toList_eq] at e
  exact if_pos e
 | range => rw [ha] at h; cases (Prod.mk.inj h).2
 | _ => rw [ha] at h; cases (Prod.mk.inj h).2
theorem numL_false {s : ByteArray} {v : Int} (h : numL s = (v, false)) : numB s = none := by
 unfold numL at h
 unfold numB
 cases ha : Lib.atoiAll s.data.toList with
 | ok u =>
  rw [ha] at h
  obtain ⟨h1, h2⟩ := Prod.mk.inj h
  subst h1
  have e := beq_eq_false_iff_ne.1 h2
  rw [ByteArray.toList_eq] at e
  exact if_neg e
 | range => rfl
 | _ => rfl
def fldR (v : ByteArray) (n : Int) : List ByteArray × Bool := if (splR v).2 = 0 then ((splR v).1, decide (((splR v).1.length : Int) ≥ n)) else ((splR v).1, false)
theorem fldR_f (v : ByteArray) (n : Int) (hv : v.size ≤ 4294967280) : row_fields.f v n = some (fldR v n) := by
 unfold row_fields.f row_Split.f fldR
 rw [if_pos hv, Option.bind_some]
 split <;> rfl
theorem fldR_none {v : ByteArray} {n : Int} (h : unTx v = none) : fldR v n = ([], false) := by
 unfold fldR splR; rw [h]; rfl
theorem fldR_some {v : ByteArray} {l : List ByteArray} {n : Int} (h : unTx v = some l) : fldR v n = (l, decide ((l.length : Int) ≥ n)) := by
 unfold fldR splR; rw [h]; rfl
theorem fields_says (v : ByteArray) (n : Int) (hv : v.size ≤ 4294967280) (w : World) (hGP : GP w) (hGE : GE w) :
  Calls Tryz.prog 146 #[.string v, .int .i64 n] w fun e w' => ∃ v0_ : Value, e = .returned (.tuple #[v0_, .bool (fldR v n).2]) ∧ Kd.R Kd.string 9 w' w.heap.size (fun _ => True) v0_ (fldR v n).1 ∧ Below w.heap.size w w' :=
 row_fields.calls v n _ _ w (fldR_f v n hv) hGP hGE
theorem rnumber_says (s : ByteArray) (hs : s.size ≤ 281474976710656) (w : World) (hGP : GP w) (hGE : GE w) :
  Calls Tryz.prog 147 #[.string s] w fun e w' => e = .returned (.tuple #[.int .i64 (numL s).1, .bool (numL s).2]) ∧ Below w.heap.size w w' :=
 row_number.calls s _ _ w (by unfold row_number.f; rw [if_pos hs]) hGP hGE

theorem cellL {w w1 : World} {a : Addr} {v : Value} (hb : Below w.heap.size w w1) (h : w.cell? a = some v) : w1.cell? a = some v := (hb.cell (World.block_lt_of_cell? _ _ h)).trans h
theorem readS_len {v : ByteArray} {l : List ByteArray} (h : unTx v = some l) (hl : l.length ≠ 12) : readS v = none := by
 unfold readS
 rw [h, Option.bind_some]
 unfold sesOf
 split
 ·
  exact absurd rfl hl
 ·
  rfl
theorem readS_nil {v : ByteArray} (h : unTx v = none) : readS v = none := by
 unfold readS; rw [h]; rfl

theorem readS_bad {v : ByteArray} {s0 s1 s2 s3 s4 s5 s6 s7 s8 s9 s10 s11 : ByteArray} {rest : List ByteArray} (h : unTx v = some (s0 :: s1 :: s2 :: s3 :: s4 :: s5 :: s6 :: s7 :: s8 :: s9 :: s10 :: s11 :: rest)) (hb : numB s7 = none ∨ numB s11 = none) : readS v = none := by
 cases hr : readS v with
 | none => rfl
 | some y =>
  obtain ⟨e, h1, h2⟩ := readS_some hr
  have e2 : sesL y = s0 :: s1 :: s2 :: s3 :: s4 :: s5 :: s6 :: s7 :: s8 :: s9 :: s10 :: s11 :: rest := txs_inj ((congrArg (fun b : ByteArray => b.data.toList) e).trans ((unTx_iff v _).1 h).symm)
  unfold sesL at e2
  simp only [List.cons.injEq] at e2
  obtain ⟨-, -, -, -, -, -, -, e7, -, -, -, e11, -⟩ := e2
  rw [← e7, ← e11, numB_it h1, numB_it h2] at hb
  rcases hb with h | h <;> cases h
theorem readS_if {v : ByteArray} {s0 s1 s2 s3 s4 s5 s6 s7 s8 s9 s10 s11 : ByteArray} {rest : List ByteArray} {p q : Int} (h : unTx v = some (s0 :: s1 :: s2 :: s3 :: s4 :: s5 :: s6 :: s7 :: s8 :: s9 :: s10 :: s11 :: rest)) (hp : numL s7 = (p, true)) (hq : numL s11 = (q, true)) :
  readS v = if sesT (⟨s0, s1, s2, s3, s4, s5, s6, p, s8, s9, s10, q⟩ : Ses) = v then some (⟨s0, s1, s2, s3, s4, s5, s6, p, s8, s9, s10, q⟩ : Ses) else none := by
 have hpI := (numB_some (numL_some hp)).2
 have hqI := (numB_some (numL_some hq)).2
 split
 ·
  rename_i e
  rw [← e]; exact readS_of _ hpI hqI
 ·
  rename_i hne
  cases hr : readS v with
  | none => rfl
  | some y =>
   obtain ⟨e, h1, h2⟩ := readS_some hr
   have e2 : sesL y = s0 :: s1 :: s2 :: s3 :: s4 :: s5 :: s6 :: s7 :: s8 :: s9 :: s10 :: s11 :: rest := txs_inj ((congrArg (fun b : ByteArray => b.data.toList) e).trans ((unTx_iff v _).1 h).symm)
   unfold sesL at e2
   simp only [List.cons.injEq] at e2
   obtain ⟨e0, e1, e2, e3, e4, e5, e6, e7, e8, e9, e10, e11, -⟩ := e2
   have f7 : y.stage = p := by have := numB_it h1; rw [e7, numL_some hp] at this; exact (Option.some.inj this).symm
   have f11 : y.ends = q := by have := numB_it h2; rw [e11, numL_some hq] at this; exact (Option.some.inj this).symm
   refine absurd ?_ hne
   rw [← e]
   congr 1
   subst e0 e1 e2 e3 e4 e5 e6 e8 e9 e10 f7 f11
   rfl

theorem itB_size {v : Int} (h : I64 v) : (itB v).size ≤ 21 := by
 unfold I64 at h
 have h1 : (itB v).size = (Lib.itoa v).length := by show (List.toArray _).size = _; simp
 rw [h1]
 unfold Lib.itoa
 split
 ·
  have := dd_len20 v.natAbs (by omega)
  unfold dd at this
  simp only [List.length_cons]
  omega
 ·
  have := dd_len20 v.toNat (by omega)
  unfold dd at this
  omega
theorem txsLen (l : List ByteArray) (h : ∀ x ∈ l, x.size < 18446744073709551616) : (txs l).length ≤ 21 * l.length + (l.map fun x => x.size).sum := by
 induction l with
 | nil => simp [txs]
 | cons s l ih =>
  have h1 := dd_len20 s.size (h s (List.mem_cons_self ..))
  have h2 := ih (fun x hx => h x (List.mem_cons_of_mem _ hx))
  rw [txs_cons]
  simp only [List.length_append, List.length_cons, Array.length_toList, ByteArray.size_data, List.map_cons, List.sum_cons]
  omega
theorem sesL_len (x : Ses) (h1 : I64 x.stage) (h2 : I64 x.ends) (n : Nat) (hn : n ≤ 5000000000) (h : x.cookie.size ≤ n ∧ x.client.size ≤ n ∧ x.redirect.size ≤ n ∧ x.state.size ≤ n ∧ x.nonce.size ≤ n ∧ x.scope.size ≤ n ∧ x.challenge.size ≤ n ∧ x.conn.size ≤ n ∧ x.upState.size ≤ n ∧ x.upNonce.size ≤ n) :
  (txs (sesL x)).length ≤ 294 + 10 * n := by
 have b1 := itB_size h1
 have b2 := itB_size h2
 have := txsLen (sesL x) (by
  intro y hy
  unfold sesL at hy
  simp only [List.mem_cons, List.not_mem_nil, or_false] at hy
  rcases hy with e | e | e | e | e | e | e | e | e | e | e | e <;> subst e <;> omega)
 unfold sesL at this ⊢
 simp only [List.map_cons, List.map_nil, List.sum_cons, List.sum_nil, List.length_cons, List.length_nil] at this
 omega

def sesE (o : Option Ses) : Int := if o.isSome = true then 0 else 2
def sesV (x : Ses) : Value := .agg #[.string x.cookie, .string x.client, .string x.redirect, .string x.state, .string x.nonce, .string x.scope, .string x.challenge, .int .i64 x.stage, .string x.conn, .string x.upState, .string x.upNonce, .int .i64 x.ends]
theorem row12 {w : World} {A : Option Addr} {s0 s1 s2 s3 s4 s5 s6 s7 s8 s9 s10 s11 : ByteArray} {rest : List ByteArray} {n : Nat} (hn : n = (s0 :: s1 :: s2 :: s3 :: s4 :: s5 :: s6 :: s7 :: s8 :: s9 :: s10 :: s11 :: rest).length) (h : Kd.C Kd.string w A n (s0 :: s1 :: s2 :: s3 :: s4 :: s5 :: s6 :: s7 :: s8 :: s9 :: s10 :: s11 :: rest)) :
  ∃ ad : Addr, A = some ad ∧ w.cell? ad = some (.string s0) ∧ w.cell? ⟨ad.block, ad.off + 1, none⟩ = some (.string s1) ∧ w.cell? ⟨ad.block, ad.off + 2, none⟩ = some (.string s2) ∧ w.cell? ⟨ad.block, ad.off + 3, none⟩ = some (.string s3) ∧ w.cell? ⟨ad.block, ad.off + 4, none⟩ = some (.string s4) ∧ w.cell? ⟨ad.block, ad.off + 5, none⟩ = some (.string s5) ∧ w.cell? ⟨ad.block, ad.off + 6, none⟩ = some (.string s6) ∧ w.cell? ⟨ad.block, ad.off + 7, none⟩ = some (.string s7) ∧ w.cell? ⟨ad.block, ad.off + 8, none⟩ = some (.string s8) ∧ w.cell? ⟨ad.block, ad.off + 9, none⟩ = some (.string s9) ∧ w.cell? ⟨ad.block, ad.off + 10, none⟩ = some (.string s10) ∧ w.cell? ⟨ad.block, ad.off + 11, none⟩ = some (.string s11) := by
 subst hn
 obtain ⟨ad, rfl, h0⟩ := Kd.at_string h 0 (by omega) (by simp only [List.length_cons]; omega)
 refine ⟨ad, rfl, ?_, ?_, ?_, ?_, ?_, ?_, ?_, ?_, ?_, ?_, ?_, ?_⟩
 ·
  obtain ⟨ad', e, h1⟩ := Kd.at_string h 0 (by omega) (by simp only [List.length_cons]; omega)
  cases e; exact h1
 ·
  obtain ⟨ad', e, h1⟩ := Kd.at_string h 1 (by omega) (by simp only [List.length_cons]; omega)
  cases e; exact h1
 ·
  obtain ⟨ad', e, h1⟩ := Kd.at_string h 2 (by omega) (by simp only [List.length_cons]; omega)
  cases e; exact h1
 ·
  obtain ⟨ad', e, h1⟩ := Kd.at_string h 3 (by omega) (by simp only [List.length_cons]; omega)
  cases e; exact h1
 ·
  obtain ⟨ad', e, h1⟩ := Kd.at_string h 4 (by omega) (by simp only [List.length_cons]; omega)
  cases e; exact h1
 ·
  obtain ⟨ad', e, h1⟩ := Kd.at_string h 5 (by omega) (by simp only [List.length_cons]; omega)
  cases e; exact h1
 ·
  obtain ⟨ad', e, h1⟩ := Kd.at_string h 6 (by omega) (by simp only [List.length_cons]; omega)
  cases e; exact h1
 ·
  obtain ⟨ad', e, h1⟩ := Kd.at_string h 7 (by omega) (by simp only [List.length_cons]; omega)
  cases e; exact h1
 ·
  obtain ⟨ad', e, h1⟩ := Kd.at_string h 8 (by omega) (by simp only [List.length_cons]; omega)
  cases e; exact h1
 ·
  obtain ⟨ad', e, h1⟩ := Kd.at_string h 9 (by omega) (by simp only [List.length_cons]; omega)
  cases e; exact h1
 ·
  obtain ⟨ad', e, h1⟩ := Kd.at_string h 10 (by omega) (by simp only [List.length_cons]; omega)
  cases e; exact h1
 ·
  obtain ⟨ad', e, h1⟩ := Kd.at_string h 11 (by omega) (by simp only [List.length_cons]; omega)
  cases e; exact h1

theorem session_says (x : Ses) (h1 : I64 x.stage) (h2 : I64 x.ends) (hl : (txs (sesL x)).length ≤ 140737488355328) (w : World) (hGP : GP w) :
  Calls Tryz.prog 103 #[sesV x] w fun e w' => e = .returned (.string (sesT x)) ∧ Below w.heap.size w w' :=
 row_Session.calls x.cookie x.client x.redirect x.state x.nonce x.scope x.challenge x.stage x.conn x.upState x.upNonce x.ends _ w (by
  unfold I64 at h1 h2
  unfold row_Session.f strconv_Itoa_143.f row_Texts.f
  rw [if_pos (by omega), Option.bind_some, if_pos (by omega), Option.bind_some]
  show (Option.bind (if (txs (sesL x)).length ≤ 140737488355328 then some (sesT x) else none) fun t => some t) = some (sesT x)
  rw [if_pos hl]
  rfl) hGP

set_option maxHeartbeats 2000000 in
theorem rses_says (v : ByteArray) (hv : v.size ≤ 4294967280) (w : World) (hGP : GP w) (hGE : GE w) :
  Calls Tryz.prog 104 #[.string v] w fun e w' => e = .returned (.tuple #[sesV ((readS v).getD sesZ), .int .i64 (sesE (readS v))]) ∧ Below w.heap.size w w' := by
 have hB0 : Below w.heap.size w (w.alloc (.cells #[.string ⟨#[]⟩, .string ⟨#[]⟩, .string ⟨#[]⟩, .string ⟨#[]⟩, .string ⟨#[]⟩, .string ⟨#[]⟩, .string ⟨#[]⟩, .int .i64 0, .string ⟨#[]⟩, .string ⟨#[]⟩, .string ⟨#[]⟩, .int .i64 0] 72)) := (Below.refl _ w).alloc (Nat.le_refl _) _
 have hf := fun w1 (hb : Below w.heap.size w w1) => fields_says v 12 hv w1 (hGP.below hb) (hGE.below hb)
 have hz := heap_alloc_new w (.cells #[.string ⟨#[]⟩, .string ⟨#[]⟩, .string ⟨#[]⟩, .string ⟨#[]⟩, .string ⟨#[]⟩, .string ⟨#[]⟩, .string ⟨#[]⟩, .int .i64 0, .string ⟨#[]⟩, .string ⟨#[]⟩, .string ⟨#[]⟩, .int .i64 0] 72)
 cases hU : unTx v with
 | none =>
  rw [readS_nil hU]
  rw [fldR_none hU] at hf
  go_enter Tryz.func104, Tryz.ntmps104
  go_wp2_with fail
  refine (hf _ hB0).mono ?_
  rintro e w1 ⟨v1, rfl, hr1, hb1⟩
  have hB1 := below_then hB0 hB0.size hb1
  have hz1 := blk_below hz hb1
  have c0 := blk_cell hz1 0
  have f0 := blk_frozen hz1 0
  have c1 := blk_cell hz1 1
  have f1 := blk_frozen hz1 1
  have c2 := blk_cell hz1 2
  have f2 := blk_frozen hz1 2
  have c3 := blk_cell hz1 3
  have f3 := blk_frozen hz1 3
  have c4 := blk_cell hz1 4
  have f4 := blk_frozen hz1 4
  have c5 := blk_cell hz1 5
  have f5 := blk_frozen hz1 5
  have c6 := blk_cell hz1 6
  have f6 := blk_frozen hz1 6
  have c7 := blk_cell hz1 7
  have f7 := blk_frozen hz1 7
  have c8 := blk_cell hz1 8
  have f8 := blk_frozen hz1 8
  have c9 := blk_cell hz1 9
  have f9 := blk_frozen hz1 9
  have c10 := blk_cell hz1 10
  have f10 := blk_frozen hz1 10
  have c11 := blk_cell hz1 11
  have f11 := blk_frozen hz1 11
  go_wp2_with fail
  refine bodyPost_ret (results_ct rfl _ _ w.heap.size 72 #[.string ⟨#[]⟩, .string ⟨#[]⟩, .string ⟨#[]⟩, .string ⟨#[]⟩, .string ⟨#[]⟩, .string ⟨#[]⟩, .string ⟨#[]⟩, .int .i64 0, .string ⟨#[]⟩, .string ⟨#[]⟩, .string ⟨#[]⟩, .int .i64 0] (0, 0) _ rfl (by
   refine blk_put (cs := #[.string ⟨#[]⟩, .string ⟨#[]⟩, .string ⟨#[]⟩, .string ⟨#[]⟩, .string ⟨#[]⟩, .string ⟨#[]⟩, .string ⟨#[]⟩, .int .i64 0, .string ⟨#[]⟩, .string ⟨#[]⟩, .string ⟨#[]⟩, .int .i64 0]) ?_ 11 _ rfl
   refine blk_put (cs := #[.string ⟨#[]⟩, .string ⟨#[]⟩, .string ⟨#[]⟩, .string ⟨#[]⟩, .string ⟨#[]⟩, .string ⟨#[]⟩, .string ⟨#[]⟩, .int .i64 0, .string ⟨#[]⟩, .string ⟨#[]⟩, .string ⟨#[]⟩, .int .i64 0]) ?_ 10 _ rfl
   refine blk_put (cs := #[.string ⟨#[]⟩, .string ⟨#[]⟩, .string ⟨#[]⟩, .string ⟨#[]⟩, .string ⟨#[]⟩, .string ⟨#[]⟩, .string ⟨#[]⟩, .int .i64 0, .string ⟨#[]⟩, .string ⟨#[]⟩, .string ⟨#[]⟩, .int .i64 0]) ?_ 9 _ rfl
   refine blk_put (cs := #[.string ⟨#[]⟩, .string ⟨#[]⟩, .string ⟨#[]⟩, .string ⟨#[]⟩, .string ⟨#[]⟩, .string ⟨#[]⟩, .string ⟨#[]⟩, .int .i64 0, .string ⟨#[]⟩, .string ⟨#[]⟩, .string ⟨#[]⟩, .int .i64 0]) ?_ 8 _ rfl
   refine blk_put (cs := #[.string ⟨#[]⟩, .string ⟨#[]⟩, .string ⟨#[]⟩, .string ⟨#[]⟩, .string ⟨#[]⟩, .string ⟨#[]⟩, .string ⟨#[]⟩, .int .i64 0, .string ⟨#[]⟩, .string ⟨#[]⟩, .string ⟨#[]⟩, .int .i64 0]) ?_ 7 _ rfl
   refine blk_put (cs := #[.string ⟨#[]⟩, .string ⟨#[]⟩, .string ⟨#[]⟩, .string ⟨#[]⟩, .string ⟨#[]⟩, .string ⟨#[]⟩, .string ⟨#[]⟩, .int .i64 0, .string ⟨#[]⟩, .string ⟨#[]⟩, .string ⟨#[]⟩, .int .i64 0]) ?_ 6 _ rfl
   refine blk_put (cs := #[.string ⟨#[]⟩, .string ⟨#[]⟩, .string ⟨#[]⟩, .string ⟨#[]⟩, .string ⟨#[]⟩, .string ⟨#[]⟩, .string ⟨#[]⟩, .int .i64 0, .string ⟨#[]⟩, .string ⟨#[]⟩, .string ⟨#[]⟩, .int .i64 0]) ?_ 5 _ rfl
   refine blk_put (cs := #[.string ⟨#[]⟩, .string ⟨#[]⟩, .string ⟨#[]⟩, .string ⟨#[]⟩, .string ⟨#[]⟩, .string ⟨#[]⟩, .string ⟨#[]⟩, .int .i64 0, .string ⟨#[]⟩, .string ⟨#[]⟩, .string ⟨#[]⟩, .int .i64 0]) ?_ 4 _ rfl
   refine blk_put (cs := #[.string ⟨#[]⟩, .string ⟨#[]⟩, .string ⟨#[]⟩, .string ⟨#[]⟩, .string ⟨#[]⟩, .string ⟨#[]⟩, .string ⟨#[]⟩, .int .i64 0, .string ⟨#[]⟩, .string ⟨#[]⟩, .string ⟨#[]⟩, .int .i64 0]) ?_ 3 _ rfl
   refine blk_put (cs := #[.string ⟨#[]⟩, .string ⟨#[]⟩, .string ⟨#[]⟩, .string ⟨#[]⟩, .string ⟨#[]⟩, .string ⟨#[]⟩, .string ⟨#[]⟩, .int .i64 0, .string ⟨#[]⟩, .string ⟨#[]⟩, .string ⟨#[]⟩, .int .i64 0]) ?_ 2 _ rfl
   refine blk_put (cs := #[.string ⟨#[]⟩, .string ⟨#[]⟩, .string ⟨#[]⟩, .string ⟨#[]⟩, .string ⟨#[]⟩, .string ⟨#[]⟩, .string ⟨#[]⟩, .int .i64 0, .string ⟨#[]⟩, .string ⟨#[]⟩, .string ⟨#[]⟩, .int .i64 0]) ?_ 1 _ rfl
   refine blk_put (cs := #[.string ⟨#[]⟩, .string ⟨#[]⟩, .string ⟨#[]⟩, .string ⟨#[]⟩, .string ⟨#[]⟩, .string ⟨#[]⟩, .string ⟨#[]⟩, .int .i64 0, .string ⟨#[]⟩, .string ⟨#[]⟩, .string ⟨#[]⟩, .int .i64 0]) ?_ 0 _ rfl
   exact hz1) Tryz.underlying72 rfl (by kernel_rfl)) rfl ?_
  refine ⟨rfl, ?_⟩
  iterate 12 (with_reducible refine below_set ?_ (Nat.le_refl _))
  with_reducible exact hB1
 | some l =>
  by_cases h12 : l.length < 12
  ·
   rw [readS_len hU (by omega)]
   rw [fldR_some hU, decide_eq_false (show ¬ ((l.length : Int) ≥ 12) by omega)] at hf
   go_enter Tryz.func104, Tryz.ntmps104
   go_wp2_with fail
   refine (hf _ hB0).mono ?_
   rintro e w1 ⟨v1, rfl, hr1, hb1⟩
   have hB1 := below_then hB0 hB0.size hb1
   have hz1 := blk_below hz hb1
   have c0 := blk_cell hz1 0
   have f0 := blk_frozen hz1 0
   have c1 := blk_cell hz1 1
   have f1 := blk_frozen hz1 1
   have c2 := blk_cell hz1 2
   have f2 := blk_frozen hz1 2
   have c3 := blk_cell hz1 3
   have f3 := blk_frozen hz1 3
   have c4 := blk_cell hz1 4
   have f4 := blk_frozen hz1 4
   have c5 := blk_cell hz1 5
   have f5 := blk_frozen hz1 5
   have c6 := blk_cell hz1 6
   have f6 := blk_frozen hz1 6
   have c7 := blk_cell hz1 7
   have f7 := blk_frozen hz1 7
   have c8 := blk_cell hz1 8
   have f8 := blk_frozen hz1 8
   have c9 := blk_cell hz1 9
   have f9 := blk_frozen hz1 9
   have c10 := blk_cell hz1 10
   have f10 := blk_frozen hz1 10
   have c11 := blk_cell hz1 11
   have f11 := blk_frozen hz1 11
   go_wp2_with fail
   refine bodyPost_ret (results_ct rfl _ _ w.heap.size 72 #[.string ⟨#[]⟩, .string ⟨#[]⟩, .string ⟨#[]⟩, .string ⟨#[]⟩, .string ⟨#[]⟩, .string ⟨#[]⟩, .string ⟨#[]⟩, .int .i64 0, .string ⟨#[]⟩, .string ⟨#[]⟩, .string ⟨#[]⟩, .int .i64 0] (0, 0) _ rfl (by
    refine blk_put (cs := #[.string ⟨#[]⟩, .string ⟨#[]⟩, .string ⟨#[]⟩, .string ⟨#[]⟩, .string ⟨#[]⟩, .string ⟨#[]⟩, .string ⟨#[]⟩, .int .i64 0, .string ⟨#[]⟩, .string ⟨#[]⟩, .string ⟨#[]⟩, .int .i64 0]) ?_ 11 _ rfl
    refine blk_put (cs := #[.string ⟨#[]⟩, .string ⟨#[]⟩, .string ⟨#[]⟩, .string ⟨#[]⟩, .string ⟨#[]⟩, .string ⟨#[]⟩, .string ⟨#[]⟩, .int .i64 0, .string ⟨#[]⟩, .string ⟨#[]⟩, .string ⟨#[]⟩, .int .i64 0]) ?_ 10 _ rfl
    refine blk_put (cs := #[.string ⟨#[]⟩, .string ⟨#[]⟩, .string ⟨#[]⟩, .string ⟨#[]⟩, .string ⟨#[]⟩, .string ⟨#[]⟩, .string ⟨#[]⟩, .int .i64 0, .string ⟨#[]⟩, .string ⟨#[]⟩, .string ⟨#[]⟩, .int .i64 0]) ?_ 9 _ rfl
    refine blk_put (cs := #[.string ⟨#[]⟩, .string ⟨#[]⟩, .string ⟨#[]⟩, .string ⟨#[]⟩, .string ⟨#[]⟩, .string ⟨#[]⟩, .string ⟨#[]⟩, .int .i64 0, .string ⟨#[]⟩, .string ⟨#[]⟩, .string ⟨#[]⟩, .int .i64 0]) ?_ 8 _ rfl
    refine blk_put (cs := #[.string ⟨#[]⟩, .string ⟨#[]⟩, .string ⟨#[]⟩, .string ⟨#[]⟩, .string ⟨#[]⟩, .string ⟨#[]⟩, .string ⟨#[]⟩, .int .i64 0, .string ⟨#[]⟩, .string ⟨#[]⟩, .string ⟨#[]⟩, .int .i64 0]) ?_ 7 _ rfl
    refine blk_put (cs := #[.string ⟨#[]⟩, .string ⟨#[]⟩, .string ⟨#[]⟩, .string ⟨#[]⟩, .string ⟨#[]⟩, .string ⟨#[]⟩, .string ⟨#[]⟩, .int .i64 0, .string ⟨#[]⟩, .string ⟨#[]⟩, .string ⟨#[]⟩, .int .i64 0]) ?_ 6 _ rfl
    refine blk_put (cs := #[.string ⟨#[]⟩, .string ⟨#[]⟩, .string ⟨#[]⟩, .string ⟨#[]⟩, .string ⟨#[]⟩, .string ⟨#[]⟩, .string ⟨#[]⟩, .int .i64 0, .string ⟨#[]⟩, .string ⟨#[]⟩, .string ⟨#[]⟩, .int .i64 0]) ?_ 5 _ rfl
    refine blk_put (cs := #[.string ⟨#[]⟩, .string ⟨#[]⟩, .string ⟨#[]⟩, .string ⟨#[]⟩, .string ⟨#[]⟩, .string ⟨#[]⟩, .string ⟨#[]⟩, .int .i64 0, .string ⟨#[]⟩, .string ⟨#[]⟩, .string ⟨#[]⟩, .int .i64 0]) ?_ 4 _ rfl
    refine blk_put (cs := #[.string ⟨#[]⟩, .string ⟨#[]⟩, .string ⟨#[]⟩, .string ⟨#[]⟩, .string ⟨#[]⟩, .string ⟨#[]⟩, .string ⟨#[]⟩, .int .i64 0, .string ⟨#[]⟩, .string ⟨#[]⟩, .string ⟨#[]⟩, .int .i64 0]) ?_ 3 _ rfl
    refine blk_put (cs := #[.string ⟨#[]⟩, .string ⟨#[]⟩, .string ⟨#[]⟩, .string ⟨#[]⟩, .string ⟨#[]⟩, .string ⟨#[]⟩, .string ⟨#[]⟩, .int .i64 0, .string ⟨#[]⟩, .string ⟨#[]⟩, .string ⟨#[]⟩, .int .i64 0]) ?_ 2 _ rfl
    refine blk_put (cs := #[.string ⟨#[]⟩, .string ⟨#[]⟩, .string ⟨#[]⟩, .string ⟨#[]⟩, .string ⟨#[]⟩, .string ⟨#[]⟩, .string ⟨#[]⟩, .int .i64 0, .string ⟨#[]⟩, .string ⟨#[]⟩, .string ⟨#[]⟩, .int .i64 0]) ?_ 1 _ rfl
    refine blk_put (cs := #[.string ⟨#[]⟩, .string ⟨#[]⟩, .string ⟨#[]⟩, .string ⟨#[]⟩, .string ⟨#[]⟩, .string ⟨#[]⟩, .string ⟨#[]⟩, .int .i64 0, .string ⟨#[]⟩, .string ⟨#[]⟩, .string ⟨#[]⟩, .int .i64 0]) ?_ 0 _ rfl
    exact hz1) Tryz.underlying72 rfl (by kernel_rfl)) rfl ?_
   refine ⟨rfl, ?_⟩
   iterate 12 (with_reducible refine below_set ?_ (Nat.le_refl _))
   with_reducible exact hB1
  ·
   obtain ⟨s0, s1, s2, s3, s4, s5, s6, s7, s8, s9, s10, s11, rest, rfl⟩ : ∃ s0 s1 s2 s3 s4 s5 s6 s7 s8 s9 s10 s11 rest, l = s0 :: s1 :: s2 :: s3 :: s4 :: s5 :: s6 :: s7 :: s8 :: s9 :: s10 :: s11 :: rest := by
    match l, h12 with
    | s0 :: s1 :: s2 :: s3 :: s4 :: s5 :: s6 :: s7 :: s8 :: s9 :: s10 :: s11 :: rest, _ => exact ⟨s0, s1, s2, s3, s4, s5, s6, s7, s8, s9, s10, s11, rest, rfl⟩
    | [], h => exact absurd (by decide) h
    | [_], h => exact absurd (by simp) h
    | [_, _], h => exact absurd (by simp) h
    | [_, _, _], h => exact absurd (by simp) h
    | [_, _, _, _], h => exact absurd (by simp) h
    | [_, _, _, _, _], h => exact absurd (by simp) h
    | [_, _, _, _, _, _], h => exact absurd (by simp) h
    | [_, _, _, _, _, _, _], h => exact absurd (by simp) h
    | [_, _, _, _, _, _, _, _], h => exact absurd (by simp) h
    | [_, _, _, _, _, _, _, _, _], h => exact absurd (by simp) h
    | [_, _, _, _, _, _, _, _, _, _], h => exact absurd (by simp) h
    | [_, _, _, _, _, _, _, _, _, _, _], h => exact absurd (by simp) h
   rw [fldR_some hU, decide_eq_true (show (((s0 :: s1 :: s2 :: s3 :: s4 :: s5 :: s6 :: s7 :: s8 :: s9 :: s10 :: s11 :: rest).length : Nat) : Int) ≥ 12 by simp only [List.length_cons]; omega)] at hf
   have hsz : ∀ y ∈ (s0 :: s1 :: s2 :: s3 :: s4 :: s5 :: s6 :: s7 :: s8 :: s9 :: s10 :: s11 :: rest), y.size ≤ v.size := fun y hy => by
    have h1 := txs_mem hy
    rw [(unTx_iff v _).1 hU, data_size] at h1
    exact h1
   have hs7 := hsz s7 (by simp)
   have hs11 := hsz s11 (by simp)
   have hnum := fun s hs w1 (hb : Below w.heap.size w w1) => rnumber_says s hs w1 (hGP.below hb) (hGE.below hb)
   have hn7 := hnum s7 (by omega)
   have hn11 := hnum s11 (by omega)
   have hss : s0.size ≤ v.size ∧ s1.size ≤ v.size ∧ s2.size ≤ v.size ∧ s3.size ≤ v.size ∧ s4.size ≤ v.size ∧ s5.size ≤ v.size ∧ s6.size ≤ v.size ∧ s8.size ≤ v.size ∧ s9.size ≤ v.size ∧ s10.size ≤ v.size := ⟨hsz s0 (by simp), hsz s1 (by simp), hsz s2 (by simp), hsz s3 (by simp), hsz s4 (by simp), hsz s5 (by simp), hsz s6 (by simp), hsz s8 (by simp), hsz s9 (by simp), hsz s10 (by simp)⟩
   clear hnum hsz
   obtain ⟨n, hn⟩ : ∃ n, n = (s0 :: s1 :: s2 :: s3 :: s4 :: s5 :: s6 :: s7 :: s8 :: s9 :: s10 :: s11 :: rest).length := ⟨_, rfl⟩
   have hn12 : 12 ≤ n := by rw [hn]; simp only [List.length_cons]; omega
   have i0 : ((0 : Int) < (n : Int)) = True := eq_true (by omega)
   have j0 : 0 < n := by omega
   have i1 : ((1 : Int) < (n : Int)) = True := eq_true (by omega)
   have j1 : 1 < n := by omega
   have i2 : ((2 : Int) < (n : Int)) = True := eq_true (by omega)
   have j2 : 2 < n := by omega
   have i3 : ((3 : Int) < (n : Int)) = True := eq_true (by omega)
   have j3 : 3 < n := by omega
   have i4 : ((4 : Int) < (n : Int)) = True := eq_true (by omega)
   have j4 : 4 < n := by omega
   have i5 : ((5 : Int) < (n : Int)) = True := eq_true (by omega)
   have j5 : 5 < n := by omega
   have i6 : ((6 : Int) < (n : Int)) = True := eq_true (by omega)
   have j6 : 6 < n := by omega
   have i7 : ((7 : Int) < (n : Int)) = True := eq_true (by omega)
   have j7 : 7 < n := by omega
   have i8 : ((8 : Int) < (n : Int)) = True := eq_true (by omega)
   have j8 : 8 < n := by omega
   have i9 : ((9 : Int) < (n : Int)) = True := eq_true (by omega)
   have j9 : 9 < n := by omega
   have i10 : ((10 : Int) < (n : Int)) = True := eq_true (by omega)
   have j10 : 10 < n := by omega
   have i11 : ((11 : Int) < (n : Int)) = True := eq_true (by omega)
   have j11 : 11 < n := by omega
   cases h7 : numL s7 with
   | mk p a =>
   cases h11 : numL s11 with
   | mk q b =>
   rw [h7] at hn7
   rw [h11] at hn11
   go_enter Tryz.func104, Tryz.ntmps104
   go_wp2_with fail
   refine (hf _ hB0).mono ?_
   rintro e w1 ⟨v1, rfl, hr1, hb1⟩
   have hB1 := below_then hB0 hB0.size hb1
   have hz1 := blk_below hz hb1
   obtain ⟨A1, c1, e1⟩ := Kd.R_slice hr1
   subst e1
   obtain ⟨ad, rfl, x0, x1, x2, x3, x4, x5, x6, x7, x8, x9, x10, x11⟩ := row12 rfl (Kd.R_reads' hr1).2.2
   rw [← hn]
   clear hr1 hn hf
   have hn7 := hn7 _ hB1
   go_wp2_with fail
   refine hn7.mono ?_
   rintro e w2 ⟨rfl, hb2⟩
   have hB2 := below_then hB1 hB1.size hb2
   have hz2 := blk_below hz1 hb2
   have hn11 := hn11 _ hB2
   have x0 := cellL hb2 x0
   have x1 := cellL hb2 x1
   have x2 := cellL hb2 x2
   have x3 := cellL hb2 x3
   have x4 := cellL hb2 x4
   have x5 := cellL hb2 x5
   have x6 := cellL hb2 x6
   have x7 := cellL hb2 x7
   have x8 := cellL hb2 x8
   have x9 := cellL hb2 x9
   have x10 := cellL hb2 x10
   have x11 := cellL hb2 x11
   go_wp2_with fail
   refine hn11.mono ?_
   rintro e w3 ⟨rfl, hb3⟩
   have hB3 := below_then hB2 hB2.size hb3
   have hz3 := blk_below hz2 hb3
   have x0 := cellL hb3 x0
   have x1 := cellL hb3 x1
   have x2 := cellL hb3 x2
   have x3 := cellL hb3 x3
   have x4 := cellL hb3 x4
   have x5 := cellL hb3 x5
   have x6 := cellL hb3 x6
   have x7 := cellL hb3 x7
   have x8 := cellL hb3 x8
   have x9 := cellL hb3 x9
   have x10 := cellL hb3 x10
   have x11 := cellL hb3 x11
   go_wp2_with fail
   go_region_held3 (fun w' => w'.cell? ad = some (.string s0) ∧ w'.cell? ⟨ad.block, ad.off + 1, none⟩ = some (.string s1) ∧ w'.cell? ⟨ad.block, ad.off + 2, none⟩ = some (.string s2) ∧ w'.cell? ⟨ad.block, ad.off + 3, none⟩ = some (.string s3) ∧ w'.cell? ⟨ad.block, ad.off + 4, none⟩ = some (.string s4) ∧ w'.cell? ⟨ad.block, ad.off + 5, none⟩ = some (.string s5) ∧ w'.cell? ⟨ad.block, ad.off + 6, none⟩ = some (.string s6) ∧ w'.cell? ⟨ad.block, ad.off + 8, none⟩ = some (.string s8) ∧ w'.cell? ⟨ad.block, ad.off + 9, none⟩ = some (.string s9) ∧ w'.cell? ⟨ad.block, ad.off + 10, none⟩ = some (.string s10)) (first | exact ⟨x0, x1, x2, x3, x4, x5, x6, x8, x9, x10⟩ | go_keep) ((fail))
   have hB4 : Below w3.heap.size w3 (w3.alloc (.cells #[.string s0, .string s1, .string s2, .string s3, .string s4, .string s5, .string s6, .int .i64 p, .string s8, .string s9, .string s10, .int .i64 q] 72)).drew := below_drew ((Below.refl _ w3).alloc (Nat.le_refl _) _)
   have hz4 := blk_below hz3 hB4
   have hx4 := blk_drew (heap_alloc_new w3 (.cells #[.string s0, .string s1, .string s2, .string s3, .string s4, .string s5, .string s6, .int .i64 p, .string s8, .string s9, .string s10, .int .i64 q] 72))
   generalize (w3.alloc (.cells #[.string s0, .string s1, .string s2, .string s3, .string s4, .string s5, .string s6, .int .i64 p, .string s8, .string s9, .string s10, .int .i64 q] 72)).drew = w4 at hB4 hz4 hx4 ⊢
   have hB4 := below_then hB3 hB3.size hB4
   have c0 := blk_cell hz4 0
   have f0 := blk_frozen hz4 0
   have d0 : w4.cell? ⟨w3.heap.size, 0, none⟩ = some (.string s0) := (blk_cell hx4 0).trans rfl
   have c1 := blk_cell hz4 1
   have f1 := blk_frozen hz4 1
   have d1 : w4.cell? ⟨w3.heap.size, 1, none⟩ = some (.string s1) := (blk_cell hx4 1).trans rfl
   have c2 := blk_cell hz4 2
   have f2 := blk_frozen hz4 2
   have d2 : w4.cell? ⟨w3.heap.size, 2, none⟩ = some (.string s2) := (blk_cell hx4 2).trans rfl
   have c3 := blk_cell hz4 3
   have f3 := blk_frozen hz4 3
   have d3 : w4.cell? ⟨w3.heap.size, 3, none⟩ = some (.string s3) := (blk_cell hx4 3).trans rfl
   have c4 := blk_cell hz4 4
   have f4 := blk_frozen hz4 4
   have d4 : w4.cell? ⟨w3.heap.size, 4, none⟩ = some (.string s4) := (blk_cell hx4 4).trans rfl
   have c5 := blk_cell hz4 5
   have f5 := blk_frozen hz4 5
   have d5 : w4.cell? ⟨w3.heap.size, 5, none⟩ = some (.string s5) := (blk_cell hx4 5).trans rfl
   have c6 := blk_cell hz4 6
   have f6 := blk_frozen hz4 6
   have d6 : w4.cell? ⟨w3.heap.size, 6, none⟩ = some (.string s6) := (blk_cell hx4 6).trans rfl
   have c7 := blk_cell hz4 7
   have f7 := blk_frozen hz4 7
   have d7 : w4.cell? ⟨w3.heap.size, 7, none⟩ = some (.int .i64 p) := (blk_cell hx4 7).trans rfl
   have c8 := blk_cell hz4 8
   have f8 := blk_frozen hz4 8
   have d8 : w4.cell? ⟨w3.heap.size, 8, none⟩ = some (.string s8) := (blk_cell hx4 8).trans rfl
   have c9 := blk_cell hz4 9
   have f9 := blk_frozen hz4 9
   have d9 : w4.cell? ⟨w3.heap.size, 9, none⟩ = some (.string s9) := (blk_cell hx4 9).trans rfl
   have c10 := blk_cell hz4 10
   have f10 := blk_frozen hz4 10
   have d10 : w4.cell? ⟨w3.heap.size, 10, none⟩ = some (.string s10) := (blk_cell hx4 10).trans rfl
   have c11 := blk_cell hz4 11
   have f11 := blk_frozen hz4 11
   have d11 : w4.cell? ⟨w3.heap.size, 11, none⟩ = some (.int .i64 q) := (blk_cell hx4 11).trans rfl
   cases a with
   | false =>
    go_wp2_with fail
    refine bodyPost_ret (results_ct rfl _ _ w.heap.size 72 #[.string ⟨#[]⟩, .string ⟨#[]⟩, .string ⟨#[]⟩, .string ⟨#[]⟩, .string ⟨#[]⟩, .string ⟨#[]⟩, .string ⟨#[]⟩, .int .i64 0, .string ⟨#[]⟩, .string ⟨#[]⟩, .string ⟨#[]⟩, .int .i64 0] (0, 0) _ rfl (by
     refine blk_put (cs := #[.string ⟨#[]⟩, .string ⟨#[]⟩, .string ⟨#[]⟩, .string ⟨#[]⟩, .string ⟨#[]⟩, .string ⟨#[]⟩, .string ⟨#[]⟩, .int .i64 0, .string ⟨#[]⟩, .string ⟨#[]⟩, .string ⟨#[]⟩, .int .i64 0]) ?_ 11 _ rfl
     refine blk_put (cs := #[.string ⟨#[]⟩, .string ⟨#[]⟩, .string ⟨#[]⟩, .string ⟨#[]⟩, .string ⟨#[]⟩, .string ⟨#[]⟩, .string ⟨#[]⟩, .int .i64 0, .string ⟨#[]⟩, .string ⟨#[]⟩, .string ⟨#[]⟩, .int .i64 0]) ?_ 10 _ rfl
     refine blk_put (cs := #[.string ⟨#[]⟩, .string ⟨#[]⟩, .string ⟨#[]⟩, .string ⟨#[]⟩, .string ⟨#[]⟩, .string ⟨#[]⟩, .string ⟨#[]⟩, .int .i64 0, .string ⟨#[]⟩, .string ⟨#[]⟩, .string ⟨#[]⟩, .int .i64 0]) ?_ 9 _ rfl
     refine blk_put (cs := #[.string ⟨#[]⟩, .string ⟨#[]⟩, .string ⟨#[]⟩, .string ⟨#[]⟩, .string ⟨#[]⟩, .string ⟨#[]⟩, .string ⟨#[]⟩, .int .i64 0, .string ⟨#[]⟩, .string ⟨#[]⟩, .string ⟨#[]⟩, .int .i64 0]) ?_ 8 _ rfl
     refine blk_put (cs := #[.string ⟨#[]⟩, .string ⟨#[]⟩, .string ⟨#[]⟩, .string ⟨#[]⟩, .string ⟨#[]⟩, .string ⟨#[]⟩, .string ⟨#[]⟩, .int .i64 0, .string ⟨#[]⟩, .string ⟨#[]⟩, .string ⟨#[]⟩, .int .i64 0]) ?_ 7 _ rfl
     refine blk_put (cs := #[.string ⟨#[]⟩, .string ⟨#[]⟩, .string ⟨#[]⟩, .string ⟨#[]⟩, .string ⟨#[]⟩, .string ⟨#[]⟩, .string ⟨#[]⟩, .int .i64 0, .string ⟨#[]⟩, .string ⟨#[]⟩, .string ⟨#[]⟩, .int .i64 0]) ?_ 6 _ rfl
     refine blk_put (cs := #[.string ⟨#[]⟩, .string ⟨#[]⟩, .string ⟨#[]⟩, .string ⟨#[]⟩, .string ⟨#[]⟩, .string ⟨#[]⟩, .string ⟨#[]⟩, .int .i64 0, .string ⟨#[]⟩, .string ⟨#[]⟩, .string ⟨#[]⟩, .int .i64 0]) ?_ 5 _ rfl
     refine blk_put (cs := #[.string ⟨#[]⟩, .string ⟨#[]⟩, .string ⟨#[]⟩, .string ⟨#[]⟩, .string ⟨#[]⟩, .string ⟨#[]⟩, .string ⟨#[]⟩, .int .i64 0, .string ⟨#[]⟩, .string ⟨#[]⟩, .string ⟨#[]⟩, .int .i64 0]) ?_ 4 _ rfl
     refine blk_put (cs := #[.string ⟨#[]⟩, .string ⟨#[]⟩, .string ⟨#[]⟩, .string ⟨#[]⟩, .string ⟨#[]⟩, .string ⟨#[]⟩, .string ⟨#[]⟩, .int .i64 0, .string ⟨#[]⟩, .string ⟨#[]⟩, .string ⟨#[]⟩, .int .i64 0]) ?_ 3 _ rfl
     refine blk_put (cs := #[.string ⟨#[]⟩, .string ⟨#[]⟩, .string ⟨#[]⟩, .string ⟨#[]⟩, .string ⟨#[]⟩, .string ⟨#[]⟩, .string ⟨#[]⟩, .int .i64 0, .string ⟨#[]⟩, .string ⟨#[]⟩, .string ⟨#[]⟩, .int .i64 0]) ?_ 2 _ rfl
     refine blk_put (cs := #[.string ⟨#[]⟩, .string ⟨#[]⟩, .string ⟨#[]⟩, .string ⟨#[]⟩, .string ⟨#[]⟩, .string ⟨#[]⟩, .string ⟨#[]⟩, .int .i64 0, .string ⟨#[]⟩, .string ⟨#[]⟩, .string ⟨#[]⟩, .int .i64 0]) ?_ 1 _ rfl
     refine blk_put (cs := #[.string ⟨#[]⟩, .string ⟨#[]⟩, .string ⟨#[]⟩, .string ⟨#[]⟩, .string ⟨#[]⟩, .string ⟨#[]⟩, .string ⟨#[]⟩, .int .i64 0, .string ⟨#[]⟩, .string ⟨#[]⟩, .string ⟨#[]⟩, .int .i64 0]) ?_ 0 _ rfl
     exact hz4) Tryz.underlying72 rfl (by kernel_rfl)) rfl ?_
    refine ⟨by rw [readS_bad hU (.inl (numL_false h7))]; rfl, ?_⟩
    iterate 12 (with_reducible refine below_set ?_ (Nat.le_refl _))
    with_reducible exact hB4
   | true =>
    cases b with
    | false =>
     go_wp2_with fail
     refine bodyPost_ret (results_ct rfl _ _ w.heap.size 72 #[.string ⟨#[]⟩, .string ⟨#[]⟩, .string ⟨#[]⟩, .string ⟨#[]⟩, .string ⟨#[]⟩, .string ⟨#[]⟩, .string ⟨#[]⟩, .int .i64 0, .string ⟨#[]⟩, .string ⟨#[]⟩, .string ⟨#[]⟩, .int .i64 0] (0, 0) _ rfl (by
      refine blk_put (cs := #[.string ⟨#[]⟩, .string ⟨#[]⟩, .string ⟨#[]⟩, .string ⟨#[]⟩, .string ⟨#[]⟩, .string ⟨#[]⟩, .string ⟨#[]⟩, .int .i64 0, .string ⟨#[]⟩, .string ⟨#[]⟩, .string ⟨#[]⟩, .int .i64 0]) ?_ 11 _ rfl
      refine blk_put (cs := #[.string ⟨#[]⟩, .string ⟨#[]⟩, .string ⟨#[]⟩, .string ⟨#[]⟩, .string ⟨#[]⟩, .string ⟨#[]⟩, .string ⟨#[]⟩, .int .i64 0, .string ⟨#[]⟩, .string ⟨#[]⟩, .string ⟨#[]⟩, .int .i64 0]) ?_ 10 _ rfl
      refine blk_put (cs := #[.string ⟨#[]⟩, .string ⟨#[]⟩, .string ⟨#[]⟩, .string ⟨#[]⟩, .string ⟨#[]⟩, .string ⟨#[]⟩, .string ⟨#[]⟩, .int .i64 0, .string ⟨#[]⟩, .string ⟨#[]⟩, .string ⟨#[]⟩, .int .i64 0]) ?_ 9 _ rfl
      refine blk_put (cs := #[.string ⟨#[]⟩, .string ⟨#[]⟩, .string ⟨#[]⟩, .string ⟨#[]⟩, .string ⟨#[]⟩, .string ⟨#[]⟩, .string ⟨#[]⟩, .int .i64 0, .string ⟨#[]⟩, .string ⟨#[]⟩, .string ⟨#[]⟩, .int .i64 0]) ?_ 8 _ rfl
      refine blk_put (cs := #[.string ⟨#[]⟩, .string ⟨#[]⟩, .string ⟨#[]⟩, .string ⟨#[]⟩, .string ⟨#[]⟩, .string ⟨#[]⟩, .string ⟨#[]⟩, .int .i64 0, .string ⟨#[]⟩, .string ⟨#[]⟩, .string ⟨#[]⟩, .int .i64 0]) ?_ 7 _ rfl
      refine blk_put (cs := #[.string ⟨#[]⟩, .string ⟨#[]⟩, .string ⟨#[]⟩, .string ⟨#[]⟩, .string ⟨#[]⟩, .string ⟨#[]⟩, .string ⟨#[]⟩, .int .i64 0, .string ⟨#[]⟩, .string ⟨#[]⟩, .string ⟨#[]⟩, .int .i64 0]) ?_ 6 _ rfl
      refine blk_put (cs := #[.string ⟨#[]⟩, .string ⟨#[]⟩, .string ⟨#[]⟩, .string ⟨#[]⟩, .string ⟨#[]⟩, .string ⟨#[]⟩, .string ⟨#[]⟩, .int .i64 0, .string ⟨#[]⟩, .string ⟨#[]⟩, .string ⟨#[]⟩, .int .i64 0]) ?_ 5 _ rfl
      refine blk_put (cs := #[.string ⟨#[]⟩, .string ⟨#[]⟩, .string ⟨#[]⟩, .string ⟨#[]⟩, .string ⟨#[]⟩, .string ⟨#[]⟩, .string ⟨#[]⟩, .int .i64 0, .string ⟨#[]⟩, .string ⟨#[]⟩, .string ⟨#[]⟩, .int .i64 0]) ?_ 4 _ rfl
      refine blk_put (cs := #[.string ⟨#[]⟩, .string ⟨#[]⟩, .string ⟨#[]⟩, .string ⟨#[]⟩, .string ⟨#[]⟩, .string ⟨#[]⟩, .string ⟨#[]⟩, .int .i64 0, .string ⟨#[]⟩, .string ⟨#[]⟩, .string ⟨#[]⟩, .int .i64 0]) ?_ 3 _ rfl
      refine blk_put (cs := #[.string ⟨#[]⟩, .string ⟨#[]⟩, .string ⟨#[]⟩, .string ⟨#[]⟩, .string ⟨#[]⟩, .string ⟨#[]⟩, .string ⟨#[]⟩, .int .i64 0, .string ⟨#[]⟩, .string ⟨#[]⟩, .string ⟨#[]⟩, .int .i64 0]) ?_ 2 _ rfl
      refine blk_put (cs := #[.string ⟨#[]⟩, .string ⟨#[]⟩, .string ⟨#[]⟩, .string ⟨#[]⟩, .string ⟨#[]⟩, .string ⟨#[]⟩, .string ⟨#[]⟩, .int .i64 0, .string ⟨#[]⟩, .string ⟨#[]⟩, .string ⟨#[]⟩, .int .i64 0]) ?_ 1 _ rfl
      refine blk_put (cs := #[.string ⟨#[]⟩, .string ⟨#[]⟩, .string ⟨#[]⟩, .string ⟨#[]⟩, .string ⟨#[]⟩, .string ⟨#[]⟩, .string ⟨#[]⟩, .int .i64 0, .string ⟨#[]⟩, .string ⟨#[]⟩, .string ⟨#[]⟩, .int .i64 0]) ?_ 0 _ rfl
      exact hz4) Tryz.underlying72 rfl (by kernel_rfl)) rfl ?_
     refine ⟨by rw [readS_bad hU (.inr (numL_false h11))]; rfl, ?_⟩
     iterate 12 (with_reducible refine below_set ?_ (Nat.le_refl _))
     with_reducible exact hB4
    | true =>
     have hrd := readS_if hU h7 h11
     have hlen := sesL_len (⟨s0, s1, s2, s3, s4, s5, s6, p, s8, s9, s10, q⟩ : Ses) (numB_some (numL_some h7)).2 (numB_some (numL_some h11)).2 v.size (by omega) hss
     have hse := session_says (⟨s0, s1, s2, s3, s4, s5, s6, p, s8, s9, s10, q⟩ : Ses) (numB_some (numL_some h7)).2 (numB_some (numL_some h11)).2 (by omega) w4 (hGP.below hB4)
     by_cases he : sesT (⟨s0, s1, s2, s3, s4, s5, s6, p, s8, s9, s10, q⟩ : Ses) = v
     ·
      rw [if_pos he] at hrd
      rw [he] at hse
      have q1 : (v.toList != v.toList) = false := by simp
      go_wp2_with fail
      refine hse.mono ?_
      rintro e w5 ⟨rfl, hb5⟩
      have hz5 := blk_below hz4 hb5
      have hx5 := blk_below hx4 hb5
      have hB5 := below_then hB4 hB4.size hb5
      have c0 := blk_cell hz5 0
      have f0 := blk_frozen hz5 0
      have d0 : w5.cell? ⟨w3.heap.size, 0, none⟩ = some (.string s0) := (blk_cell hx5 0).trans rfl
      have c1 := blk_cell hz5 1
      have f1 := blk_frozen hz5 1
      have d1 : w5.cell? ⟨w3.heap.size, 1, none⟩ = some (.string s1) := (blk_cell hx5 1).trans rfl
      have c2 := blk_cell hz5 2
      have f2 := blk_frozen hz5 2
      have d2 : w5.cell? ⟨w3.heap.size, 2, none⟩ = some (.string s2) := (blk_cell hx5 2).trans rfl
      have c3 := blk_cell hz5 3
      have f3 := blk_frozen hz5 3
      have d3 : w5.cell? ⟨w3.heap.size, 3, none⟩ = some (.string s3) := (blk_cell hx5 3).trans rfl
      have c4 := blk_cell hz5 4
      have f4 := blk_frozen hz5 4
      have d4 : w5.cell? ⟨w3.heap.size, 4, none⟩ = some (.string s4) := (blk_cell hx5 4).trans rfl
      have c5 := blk_cell hz5 5
      have f5 := blk_frozen hz5 5
      have d5 : w5.cell? ⟨w3.heap.size, 5, none⟩ = some (.string s5) := (blk_cell hx5 5).trans rfl
      have c6 := blk_cell hz5 6
      have f6 := blk_frozen hz5 6
      have d6 : w5.cell? ⟨w3.heap.size, 6, none⟩ = some (.string s6) := (blk_cell hx5 6).trans rfl
      have c7 := blk_cell hz5 7
      have f7 := blk_frozen hz5 7
      have d7 : w5.cell? ⟨w3.heap.size, 7, none⟩ = some (.int .i64 p) := (blk_cell hx5 7).trans rfl
      have c8 := blk_cell hz5 8
      have f8 := blk_frozen hz5 8
      have d8 : w5.cell? ⟨w3.heap.size, 8, none⟩ = some (.string s8) := (blk_cell hx5 8).trans rfl
      have c9 := blk_cell hz5 9
      have f9 := blk_frozen hz5 9
      have d9 : w5.cell? ⟨w3.heap.size, 9, none⟩ = some (.string s9) := (blk_cell hx5 9).trans rfl
      have c10 := blk_cell hz5 10
      have f10 := blk_frozen hz5 10
      have d10 : w5.cell? ⟨w3.heap.size, 10, none⟩ = some (.string s10) := (blk_cell hx5 10).trans rfl
      have c11 := blk_cell hz5 11
      have f11 := blk_frozen hz5 11
      have d11 : w5.cell? ⟨w3.heap.size, 11, none⟩ = some (.int .i64 q) := (blk_cell hx5 11).trans rfl
      go_wp2_with fail
      refine bodyPost_ret (results_ct rfl _ _ w.heap.size 72 #[.string s0, .string s1, .string s2, .string s3, .string s4, .string s5, .string s6, .int .i64 p, .string s8, .string s9, .string s10, .int .i64 q] (0, 0) _ rfl (by
       refine blk_put (cs := #[.string s0, .string s1, .string s2, .string s3, .string s4, .string s5, .string s6, .int .i64 p, .string s8, .string s9, .string s10, .int .i64 0]) ?_ 11 _ rfl
       refine blk_put (cs := #[.string s0, .string s1, .string s2, .string s3, .string s4, .string s5, .string s6, .int .i64 p, .string s8, .string s9, .string ⟨#[]⟩, .int .i64 0]) ?_ 10 _ rfl
       refine blk_put (cs := #[.string s0, .string s1, .string s2, .string s3, .string s4, .string s5, .string s6, .int .i64 p, .string s8, .string ⟨#[]⟩, .string ⟨#[]⟩, .int .i64 0]) ?_ 9 _ rfl
       refine blk_put (cs := #[.string s0, .string s1, .string s2, .string s3, .string s4, .string s5, .string s6, .int .i64 p, .string ⟨#[]⟩, .string ⟨#[]⟩, .string ⟨#[]⟩, .int .i64 0]) ?_ 8 _ rfl
       refine blk_put (cs := #[.string s0, .string s1, .string s2, .string s3, .string s4, .string s5, .string s6, .int .i64 0, .string ⟨#[]⟩, .string ⟨#[]⟩, .string ⟨#[]⟩, .int .i64 0]) ?_ 7 _ rfl
       refine blk_put (cs := #[.string s0, .string s1, .string s2, .string s3, .string s4, .string s5, .string ⟨#[]⟩, .int .i64 0, .string ⟨#[]⟩, .string ⟨#[]⟩, .string ⟨#[]⟩, .int .i64 0]) ?_ 6 _ rfl
       refine blk_put (cs := #[.string s0, .string s1, .string s2, .string s3, .string s4, .string ⟨#[]⟩, .string ⟨#[]⟩, .int .i64 0, .string ⟨#[]⟩, .string ⟨#[]⟩, .string ⟨#[]⟩, .int .i64 0]) ?_ 5 _ rfl
       refine blk_put (cs := #[.string s0, .string s1, .string s2, .string s3, .string ⟨#[]⟩, .string ⟨#[]⟩, .string ⟨#[]⟩, .int .i64 0, .string ⟨#[]⟩, .string ⟨#[]⟩, .string ⟨#[]⟩, .int .i64 0]) ?_ 4 _ rfl
       refine blk_put (cs := #[.string s0, .string s1, .string s2, .string ⟨#[]⟩, .string ⟨#[]⟩, .string ⟨#[]⟩, .string ⟨#[]⟩, .int .i64 0, .string ⟨#[]⟩, .string ⟨#[]⟩, .string ⟨#[]⟩, .int .i64 0]) ?_ 3 _ rfl
       refine blk_put (cs := #[.string s0, .string s1, .string ⟨#[]⟩, .string ⟨#[]⟩, .string ⟨#[]⟩, .string ⟨#[]⟩, .string ⟨#[]⟩, .int .i64 0, .string ⟨#[]⟩, .string ⟨#[]⟩, .string ⟨#[]⟩, .int .i64 0]) ?_ 2 _ rfl
       refine blk_put (cs := #[.string s0, .string ⟨#[]⟩, .string ⟨#[]⟩, .string ⟨#[]⟩, .string ⟨#[]⟩, .string ⟨#[]⟩, .string ⟨#[]⟩, .int .i64 0, .string ⟨#[]⟩, .string ⟨#[]⟩, .string ⟨#[]⟩, .int .i64 0]) ?_ 1 _ rfl
       refine blk_put (cs := #[.string ⟨#[]⟩, .string ⟨#[]⟩, .string ⟨#[]⟩, .string ⟨#[]⟩, .string ⟨#[]⟩, .string ⟨#[]⟩, .string ⟨#[]⟩, .int .i64 0, .string ⟨#[]⟩, .string ⟨#[]⟩, .string ⟨#[]⟩, .int .i64 0]) ?_ 0 _ rfl
       exact hz5) Tryz.underlying72 rfl (by kernel_rfl)) rfl ?_
      refine ⟨by rw [hrd]; rfl, ?_⟩
      iterate 12 (with_reducible refine below_set ?_ (Nat.le_refl _))
      with_reducible exact hB5
     ·
      rw [if_neg he] at hrd
      obtain ⟨T, hT⟩ : ∃ T, T = sesT (⟨s0, s1, s2, s3, s4, s5, s6, p, s8, s9, s10, q⟩ : Ses) := ⟨_, rfl⟩
      rw [← hT] at hse he
      clear hT
      have hne : T.toList ≠ v.toList := fun h => he (toList_inj h)
      have q0 : (T.toList == v.toList) = false := beq_eq_false_iff_ne.2 hne
      have q1 : (T.toList != v.toList) = true := bne_iff_ne.2 hne
      go_wp2_with fail
      refine hse.mono ?_
      rintro e w5 ⟨rfl, hb5⟩
      have hz5 := blk_below hz4 hb5
      have hB5 := below_then hB4 hB4.size hb5
      have c0 := blk_cell hz5 0
      have f0 := blk_frozen hz5 0
      have c1 := blk_cell hz5 1
      have f1 := blk_frozen hz5 1
      have c2 := blk_cell hz5 2
      have f2 := blk_frozen hz5 2
      have c3 := blk_cell hz5 3
      have f3 := blk_frozen hz5 3
      have c4 := blk_cell hz5 4
      have f4 := blk_frozen hz5 4
      have c5 := blk_cell hz5 5
      have f5 := blk_frozen hz5 5
      have c6 := blk_cell hz5 6
      have f6 := blk_frozen hz5 6
      have c7 := blk_cell hz5 7
      have f7 := blk_frozen hz5 7
      have c8 := blk_cell hz5 8
      have f8 := blk_frozen hz5 8
      have c9 := blk_cell hz5 9
      have f9 := blk_frozen hz5 9
      have c10 := blk_cell hz5 10
      have f10 := blk_frozen hz5 10
      have c11 := blk_cell hz5 11
      have f11 := blk_frozen hz5 11
      go_wp2_with fail
      refine bodyPost_ret (results_ct rfl _ _ w.heap.size 72 #[.string ⟨#[]⟩, .string ⟨#[]⟩, .string ⟨#[]⟩, .string ⟨#[]⟩, .string ⟨#[]⟩, .string ⟨#[]⟩, .string ⟨#[]⟩, .int .i64 0, .string ⟨#[]⟩, .string ⟨#[]⟩, .string ⟨#[]⟩, .int .i64 0] (0, 0) _ rfl (by
       refine blk_put (cs := #[.string ⟨#[]⟩, .string ⟨#[]⟩, .string ⟨#[]⟩, .string ⟨#[]⟩, .string ⟨#[]⟩, .string ⟨#[]⟩, .string ⟨#[]⟩, .int .i64 0, .string ⟨#[]⟩, .string ⟨#[]⟩, .string ⟨#[]⟩, .int .i64 0]) ?_ 11 _ rfl
       refine blk_put (cs := #[.string ⟨#[]⟩, .string ⟨#[]⟩, .string ⟨#[]⟩, .string ⟨#[]⟩, .string ⟨#[]⟩, .string ⟨#[]⟩, .string ⟨#[]⟩, .int .i64 0, .string ⟨#[]⟩, .string ⟨#[]⟩, .string ⟨#[]⟩, .int .i64 0]) ?_ 10 _ rfl
       refine blk_put (cs := #[.string ⟨#[]⟩, .string ⟨#[]⟩, .string ⟨#[]⟩, .string ⟨#[]⟩, .string ⟨#[]⟩, .string ⟨#[]⟩, .string ⟨#[]⟩, .int .i64 0, .string ⟨#[]⟩, .string ⟨#[]⟩, .string ⟨#[]⟩, .int .i64 0]) ?_ 9 _ rfl
       refine blk_put (cs := #[.string ⟨#[]⟩, .string ⟨#[]⟩, .string ⟨#[]⟩, .string ⟨#[]⟩, .string ⟨#[]⟩, .string ⟨#[]⟩, .string ⟨#[]⟩, .int .i64 0, .string ⟨#[]⟩, .string ⟨#[]⟩, .string ⟨#[]⟩, .int .i64 0]) ?_ 8 _ rfl
       refine blk_put (cs := #[.string ⟨#[]⟩, .string ⟨#[]⟩, .string ⟨#[]⟩, .string ⟨#[]⟩, .string ⟨#[]⟩, .string ⟨#[]⟩, .string ⟨#[]⟩, .int .i64 0, .string ⟨#[]⟩, .string ⟨#[]⟩, .string ⟨#[]⟩, .int .i64 0]) ?_ 7 _ rfl
       refine blk_put (cs := #[.string ⟨#[]⟩, .string ⟨#[]⟩, .string ⟨#[]⟩, .string ⟨#[]⟩, .string ⟨#[]⟩, .string ⟨#[]⟩, .string ⟨#[]⟩, .int .i64 0, .string ⟨#[]⟩, .string ⟨#[]⟩, .string ⟨#[]⟩, .int .i64 0]) ?_ 6 _ rfl
       refine blk_put (cs := #[.string ⟨#[]⟩, .string ⟨#[]⟩, .string ⟨#[]⟩, .string ⟨#[]⟩, .string ⟨#[]⟩, .string ⟨#[]⟩, .string ⟨#[]⟩, .int .i64 0, .string ⟨#[]⟩, .string ⟨#[]⟩, .string ⟨#[]⟩, .int .i64 0]) ?_ 5 _ rfl
       refine blk_put (cs := #[.string ⟨#[]⟩, .string ⟨#[]⟩, .string ⟨#[]⟩, .string ⟨#[]⟩, .string ⟨#[]⟩, .string ⟨#[]⟩, .string ⟨#[]⟩, .int .i64 0, .string ⟨#[]⟩, .string ⟨#[]⟩, .string ⟨#[]⟩, .int .i64 0]) ?_ 4 _ rfl
       refine blk_put (cs := #[.string ⟨#[]⟩, .string ⟨#[]⟩, .string ⟨#[]⟩, .string ⟨#[]⟩, .string ⟨#[]⟩, .string ⟨#[]⟩, .string ⟨#[]⟩, .int .i64 0, .string ⟨#[]⟩, .string ⟨#[]⟩, .string ⟨#[]⟩, .int .i64 0]) ?_ 3 _ rfl
       refine blk_put (cs := #[.string ⟨#[]⟩, .string ⟨#[]⟩, .string ⟨#[]⟩, .string ⟨#[]⟩, .string ⟨#[]⟩, .string ⟨#[]⟩, .string ⟨#[]⟩, .int .i64 0, .string ⟨#[]⟩, .string ⟨#[]⟩, .string ⟨#[]⟩, .int .i64 0]) ?_ 2 _ rfl
       refine blk_put (cs := #[.string ⟨#[]⟩, .string ⟨#[]⟩, .string ⟨#[]⟩, .string ⟨#[]⟩, .string ⟨#[]⟩, .string ⟨#[]⟩, .string ⟨#[]⟩, .int .i64 0, .string ⟨#[]⟩, .string ⟨#[]⟩, .string ⟨#[]⟩, .int .i64 0]) ?_ 1 _ rfl
       refine blk_put (cs := #[.string ⟨#[]⟩, .string ⟨#[]⟩, .string ⟨#[]⟩, .string ⟨#[]⟩, .string ⟨#[]⟩, .string ⟨#[]⟩, .string ⟨#[]⟩, .int .i64 0, .string ⟨#[]⟩, .string ⟨#[]⟩, .string ⟨#[]⟩, .int .i64 0]) ?_ 0 _ rfl
       exact hz5) Tryz.underlying72 rfl (by kernel_rfl)) rfl ?_
      refine ⟨by rw [hrd]; rfl, ?_⟩
      iterate 12 (with_reducible refine below_set ?_ (Nat.le_refl _))
      with_reducible exact hB5

end Go.Proofs.YtpoblffgclmmlaaGreatDoor.X
end
section
set_option linter.unusedVariables false
set_option linter.unusedSimpArgs false
namespace Go.Proofs.YtpoblffgclmmlaaGreatDoor.X
open Go.RowKit Go.WideMaps Go.Maps Go.Proofs.YtpoblffgclmmlaaGreatDoorW.PrintWords Go.Proofs.YtpoblffgclmmlaaGreatDoorW.PrintLast Go.Proofs.YtpoblffgclmmlaaGreatDoorW.PrintMore Go.Proofs.YtpoblffgclmmlaaGreatDoor.Q

theorem cell_far {w : World} {g j : Nat} {a : Addr} {u v : Value} (hne : g ≠ a.block) (h : w.cell? a = some u) : (w.setCell ⟨g, j, none⟩ v).cell? a = some u :=
 (World.cell?_setCell_other _ _ _ _ (fun e => hne (by rw [← e]))).trans h
end Go.Proofs.YtpoblffgclmmlaaGreatDoor.X
end
section
set_option linter.unusedVariables false
set_option linter.unusedSimpArgs false
namespace Go.Proofs.YtpoblffgclmmlaaGreatDoor.X
open Go.RowKit Go.WideMaps Go.Maps Go.Proofs.YtpoblffgclmmlaaGreatDoorW.PrintWords Go.Proofs.YtpoblffgclmmlaaGreatDoorW.PrintLast Go.Proofs.YtpoblffgclmmlaaGreatDoorW.PrintMore Go.Proofs.YtpoblffgclmmlaaGreatDoor.Q

def skey (c : ByteArray) : ByteArray := (⟨#[115]⟩ : ByteArray) ++ c
theorem skey_size (c : ByteArray) : (skey c).size = 1 + c.size := by unfold skey; rw [ByteArray.size_append]; rfl
/-- The session of a cookie that is not over. -/
def findS (r : List S82) (c : ByteArray) (now : Int) : Option Ses := (getR r (skey c)).bind fun v => (readS v).bind fun x => if x.ends ≤ now then none else some x
theorem findS_none {r : List S82} {c : ByteArray} {now : Int} (h : getR r (skey c) = none) : findS r c now = none := by unfold findS; rw [h]; rfl
theorem findS_bad {r : List S82} {c v : ByteArray} {now : Int} (h : getR r (skey c) = some v) (h2 : readS v = none) : findS r c now = none := by unfold findS; rw [h, Option.bind_some, h2]; rfl
theorem findS_over {r : List S82} {c v : ByteArray} {x : Ses} {now : Int} (h : getR r (skey c) = some v) (h2 : readS v = some x) (h3 : x.ends ≤ now) : findS r c now = none := by unfold findS; rw [h, Option.bind_some, h2, Option.bind_some, if_pos h3]
theorem findS_there {r : List S82} {c v : ByteArray} {x : Ses} {now : Int} (h : getR r (skey c) = some v) (h2 : readS v = some x) (h3 : ¬ x.ends ≤ now) : findS r c now = some x := by unfold findS; rw [h, Option.bind_some, h2, Option.bind_some, if_neg h3]
theorem skey_says (c : ByteArray) (hc : c.size ≤ 1000000) (w : World) : Calls Tryz.prog 46 #[.string c] w fun e w' => e = .returned (.string (skey c)) ∧ Below w.heap.size w w' :=
 (seat_Key.calls c (skey c) w (by unfold seat_Key.f; rw [if_pos (by omega)]; rfl)).mono fun e w' h => ⟨h.1, h.2.below⟩
set_option maxHeartbeats 4000000 in
theorem find_says (base s N : Nat) (r : List S82) (c : ByteArray) (now : Int) (hc : c.size ≤ 1000000) (hv : ∀ v, getR r (skey c) = some v → v.size ≤ 4294967280) (w : World) (hS : StW base w s r N) (hGP : GP w) (hGE : GE w) :
  Calls Tryz.prog 44 #[.pointer (some ⟨s, 0, none⟩), .string c, .int .i64 now] w fun e w' => e = .returned (.tuple #[sesV ((findS r c now).getD sesZ), .bool (findS r c now).isSome]) ∧ Below w.heap.size w w' := by
 have hB0 : Below w.heap.size w (w.alloc (.cells #[.string ⟨#[]⟩, .string ⟨#[]⟩, .string ⟨#[]⟩, .string ⟨#[]⟩, .string ⟨#[]⟩, .string ⟨#[]⟩, .string ⟨#[]⟩, .int .i64 0, .string ⟨#[]⟩, .string ⟨#[]⟩, .string ⟨#[]⟩, .int .i64 0] 72)) := (Below.refl _ w).alloc (Nat.le_refl _) _
 have hz := heap_alloc_new w (.cells #[.string ⟨#[]⟩, .string ⟨#[]⟩, .string ⟨#[]⟩, .string ⟨#[]⟩, .string ⟨#[]⟩, .string ⟨#[]⟩, .string ⟨#[]⟩, .int .i64 0, .string ⟨#[]⟩, .string ⟨#[]⟩, .string ⟨#[]⟩, .int .i64 0] 72)
 have hks := skey_size c
 have hkey := fun w1 => skey_says c hc w1
 have hget := fun w1 (hb : Below w.heap.size w w1) => wget_says base s N r (skey c) (by unfold maxLen; omega) w1 (hS.below hb)
 have hread := fun v (hvv : v.size ≤ 4294967280) w1 (hb : Below w.heap.size w w1) => rses_says v hvv w1 (hGP.below hb) (hGE.below hb)
 have f0 := @findS_none r c now
 have f1 := @findS_bad r c
 have f2 := @findS_over r c
 have f3 := @findS_there r c
 obtain ⟨R, hR⟩ : ∃ R, R = findS r c now := ⟨_, rfl⟩
 have f1 := fun v => @f1 v now
 have f2 := fun v x => @f2 v x now
 have f3 := fun v x => @f3 v x now
 rw [← hR] at f0 ⊢
 simp only [← hR] at f1 f2 f3
 clear hR
 cases hg : getR r (skey c) with
 | none =>
  have hf := f0 hg
  subst hf
  clear f0 f1 f2 f3
  go_enter Tryz.func44, Tryz.ntmps44
  go_wp2_with fail
  refine (hkey _).mono ?_
  rintro e w0 ⟨rfl, hb0⟩
  have hB1 := below_then hB0 hB0.size hb0
  have hget := hget w0 hB1
  rw [hg] at hget
  have hz1 := blk_below hz hb0
  clear hkey
  go_wp2_with fail
  refine hget.mono ?_
  rintro e w1 ⟨rfl, he⟩
  subst he
  simp only [Option.getD_none, Option.getD_some, Option.isSome_none, Option.isSome_some]
  have c0 : w1.cell? ⟨w.heap.size, 0, none⟩ = some (.string ⟨#[]⟩) := (blk_cell hz1 0).trans rfl
  have f0 := blk_frozen hz1 0
  have c1 : w1.cell? ⟨w.heap.size, 1, none⟩ = some (.string ⟨#[]⟩) := (blk_cell hz1 1).trans rfl
  have f1 := blk_frozen hz1 1
  have c2 : w1.cell? ⟨w.heap.size, 2, none⟩ = some (.string ⟨#[]⟩) := (blk_cell hz1 2).trans rfl
  have f2 := blk_frozen hz1 2
  have c3 : w1.cell? ⟨w.heap.size, 3, none⟩ = some (.string ⟨#[]⟩) := (blk_cell hz1 3).trans rfl
  have f3 := blk_frozen hz1 3
  have c4 : w1.cell? ⟨w.heap.size, 4, none⟩ = some (.string ⟨#[]⟩) := (blk_cell hz1 4).trans rfl
  have f4 := blk_frozen hz1 4
  have c5 : w1.cell? ⟨w.heap.size, 5, none⟩ = some (.string ⟨#[]⟩) := (blk_cell hz1 5).trans rfl
  have f5 := blk_frozen hz1 5
  have c6 : w1.cell? ⟨w.heap.size, 6, none⟩ = some (.string ⟨#[]⟩) := (blk_cell hz1 6).trans rfl
  have f6 := blk_frozen hz1 6
  have c7 : w1.cell? ⟨w.heap.size, 7, none⟩ = some (.int .i64 0) := (blk_cell hz1 7).trans rfl
  have f7 := blk_frozen hz1 7
  have c8 : w1.cell? ⟨w.heap.size, 8, none⟩ = some (.string ⟨#[]⟩) := (blk_cell hz1 8).trans rfl
  have f8 := blk_frozen hz1 8
  have c9 : w1.cell? ⟨w.heap.size, 9, none⟩ = some (.string ⟨#[]⟩) := (blk_cell hz1 9).trans rfl
  have f9 := blk_frozen hz1 9
  have c10 : w1.cell? ⟨w.heap.size, 10, none⟩ = some (.string ⟨#[]⟩) := (blk_cell hz1 10).trans rfl
  have f10 := blk_frozen hz1 10
  have c11 : w1.cell? ⟨w.heap.size, 11, none⟩ = some (.int .i64 0) := (blk_cell hz1 11).trans rfl
  have f11 := blk_frozen hz1 11
  clear hg
  go_wp2_with fail
  refine bodyPost_ret (results_ct rfl _ _ w.heap.size 72 #[.string ⟨#[]⟩, .string ⟨#[]⟩, .string ⟨#[]⟩, .string ⟨#[]⟩, .string ⟨#[]⟩, .string ⟨#[]⟩, .string ⟨#[]⟩, .int .i64 0, .string ⟨#[]⟩, .string ⟨#[]⟩, .string ⟨#[]⟩, .int .i64 0] (0, 0) _ rfl (by
   refine blk_put (cs := #[.string ⟨#[]⟩, .string ⟨#[]⟩, .string ⟨#[]⟩, .string ⟨#[]⟩, .string ⟨#[]⟩, .string ⟨#[]⟩, .string ⟨#[]⟩, .int .i64 0, .string ⟨#[]⟩, .string ⟨#[]⟩, .string ⟨#[]⟩, .int .i64 0]) ?_ 11 _ rfl
   refine blk_put (cs := #[.string ⟨#[]⟩, .string ⟨#[]⟩, .string ⟨#[]⟩, .string ⟨#[]⟩, .string ⟨#[]⟩, .string ⟨#[]⟩, .string ⟨#[]⟩, .int .i64 0, .string ⟨#[]⟩, .string ⟨#[]⟩, .string ⟨#[]⟩, .int .i64 0]) ?_ 10 _ rfl
   refine blk_put (cs := #[.string ⟨#[]⟩, .string ⟨#[]⟩, .string ⟨#[]⟩, .string ⟨#[]⟩, .string ⟨#[]⟩, .string ⟨#[]⟩, .string ⟨#[]⟩, .int .i64 0, .string ⟨#[]⟩, .string ⟨#[]⟩, .string ⟨#[]⟩, .int .i64 0]) ?_ 9 _ rfl
   refine blk_put (cs := #[.string ⟨#[]⟩, .string ⟨#[]⟩, .string ⟨#[]⟩, .string ⟨#[]⟩, .string ⟨#[]⟩, .string ⟨#[]⟩, .string ⟨#[]⟩, .int .i64 0, .string ⟨#[]⟩, .string ⟨#[]⟩, .string ⟨#[]⟩, .int .i64 0]) ?_ 8 _ rfl
   refine blk_put (cs := #[.string ⟨#[]⟩, .string ⟨#[]⟩, .string ⟨#[]⟩, .string ⟨#[]⟩, .string ⟨#[]⟩, .string ⟨#[]⟩, .string ⟨#[]⟩, .int .i64 0, .string ⟨#[]⟩, .string ⟨#[]⟩, .string ⟨#[]⟩, .int .i64 0]) ?_ 7 _ rfl
   refine blk_put (cs := #[.string ⟨#[]⟩, .string ⟨#[]⟩, .string ⟨#[]⟩, .string ⟨#[]⟩, .string ⟨#[]⟩, .string ⟨#[]⟩, .string ⟨#[]⟩, .int .i64 0, .string ⟨#[]⟩, .string ⟨#[]⟩, .string ⟨#[]⟩, .int .i64 0]) ?_ 6 _ rfl
   refine blk_put (cs := #[.string ⟨#[]⟩, .string ⟨#[]⟩, .string ⟨#[]⟩, .string ⟨#[]⟩, .string ⟨#[]⟩, .string ⟨#[]⟩, .string ⟨#[]⟩, .int .i64 0, .string ⟨#[]⟩, .string ⟨#[]⟩, .string ⟨#[]⟩, .int .i64 0]) ?_ 5 _ rfl
   refine blk_put (cs := #[.string ⟨#[]⟩, .string ⟨#[]⟩, .string ⟨#[]⟩, .string ⟨#[]⟩, .string ⟨#[]⟩, .string ⟨#[]⟩, .string ⟨#[]⟩, .int .i64 0, .string ⟨#[]⟩, .string ⟨#[]⟩, .string ⟨#[]⟩, .int .i64 0]) ?_ 4 _ rfl
   refine blk_put (cs := #[.string ⟨#[]⟩, .string ⟨#[]⟩, .string ⟨#[]⟩, .string ⟨#[]⟩, .string ⟨#[]⟩, .string ⟨#[]⟩, .string ⟨#[]⟩, .int .i64 0, .string ⟨#[]⟩, .string ⟨#[]⟩, .string ⟨#[]⟩, .int .i64 0]) ?_ 3 _ rfl
   refine blk_put (cs := #[.string ⟨#[]⟩, .string ⟨#[]⟩, .string ⟨#[]⟩, .string ⟨#[]⟩, .string ⟨#[]⟩, .string ⟨#[]⟩, .string ⟨#[]⟩, .int .i64 0, .string ⟨#[]⟩, .string ⟨#[]⟩, .string ⟨#[]⟩, .int .i64 0]) ?_ 2 _ rfl
   refine blk_put (cs := #[.string ⟨#[]⟩, .string ⟨#[]⟩, .string ⟨#[]⟩, .string ⟨#[]⟩, .string ⟨#[]⟩, .string ⟨#[]⟩, .string ⟨#[]⟩, .int .i64 0, .string ⟨#[]⟩, .string ⟨#[]⟩, .string ⟨#[]⟩, .int .i64 0]) ?_ 1 _ rfl
   refine blk_put (cs := #[.string ⟨#[]⟩, .string ⟨#[]⟩, .string ⟨#[]⟩, .string ⟨#[]⟩, .string ⟨#[]⟩, .string ⟨#[]⟩, .string ⟨#[]⟩, .int .i64 0, .string ⟨#[]⟩, .string ⟨#[]⟩, .string ⟨#[]⟩, .int .i64 0]) ?_ 0 _ rfl
   exact hz1) Tryz.underlying72 rfl (by kernel_rfl)) rfl ?_
  refine ⟨rfl, ?_⟩
  iterate 12 (with_reducible refine below_set ?_ (Nat.le_refl _))
  with_reducible exact hB1
 | some v =>
  have hvv := hv v hg
  have f1 := f1 v hg
  have f2 := fun x => f2 v x hg
  have f3 := fun x => f3 v x hg
  clear hv f0
  go_enter Tryz.func44, Tryz.ntmps44
  go_wp2_with fail
  refine (hkey _).mono ?_
  rintro e w0 ⟨rfl, hb0⟩
  have hB1 := below_then hB0 hB0.size hb0
  have hget := hget w0 hB1
  rw [hg] at hget
  have hz1 := blk_below hz hb0
  clear hkey
  go_wp2_with fail
  refine hget.mono ?_
  rintro e w1 ⟨rfl, he⟩
  subst he
  simp only [Option.getD_none, Option.getD_some, Option.isSome_none, Option.isSome_some]
  clear hg
  have hread := hread v hvv w1 hB1
  cases hx : readS v with
  | none =>
   have hf := f1 hx
   subst hf
   rw [hx] at hread
   clear f1 f2 f3 hx
   simp only [Option.getD_none, sesV, sesZ, sesE, Option.isSome_none, Bool.false_eq_true, if_false] at hread
   go_wp2_with fail
   refine hread.mono ?_
   rintro e w2 ⟨rfl, hb2⟩
   have hz2 := blk_below hz1 hb2
   have hB2 := below_then hB1 hB1.size hb2
   clear hread
   have hz3 := blk_below hz2 (below_alloc (Below.refl _ w2) (.cells #[.string ⟨#[]⟩, .string ⟨#[]⟩, .string ⟨#[]⟩, .string ⟨#[]⟩, .string ⟨#[]⟩, .string ⟨#[]⟩, .string ⟨#[]⟩, .int .i64 0, .string ⟨#[]⟩, .string ⟨#[]⟩, .string ⟨#[]⟩, .int .i64 0] 72))
   have hx3 := heap_alloc_new w2 (.cells #[.string ⟨#[]⟩, .string ⟨#[]⟩, .string ⟨#[]⟩, .string ⟨#[]⟩, .string ⟨#[]⟩, .string ⟨#[]⟩, .string ⟨#[]⟩, .int .i64 0, .string ⟨#[]⟩, .string ⟨#[]⟩, .string ⟨#[]⟩, .int .i64 0] 72)
   have hB3 := below_alloc hB2 (.cells #[.string ⟨#[]⟩, .string ⟨#[]⟩, .string ⟨#[]⟩, .string ⟨#[]⟩, .string ⟨#[]⟩, .string ⟨#[]⟩, .string ⟨#[]⟩, .int .i64 0, .string ⟨#[]⟩, .string ⟨#[]⟩, .string ⟨#[]⟩, .int .i64 0] 72)
   have c0 : (w2.alloc (.cells #[.string ⟨#[]⟩, .string ⟨#[]⟩, .string ⟨#[]⟩, .string ⟨#[]⟩, .string ⟨#[]⟩, .string ⟨#[]⟩, .string ⟨#[]⟩, .int .i64 0, .string ⟨#[]⟩, .string ⟨#[]⟩, .string ⟨#[]⟩, .int .i64 0] 72)).cell? ⟨w.heap.size, 0, none⟩ = some (.string ⟨#[]⟩) := (blk_cell hz3 0).trans rfl
   have f0 := blk_frozen hz3 0
   have c1 : (w2.alloc (.cells #[.string ⟨#[]⟩, .string ⟨#[]⟩, .string ⟨#[]⟩, .string ⟨#[]⟩, .string ⟨#[]⟩, .string ⟨#[]⟩, .string ⟨#[]⟩, .int .i64 0, .string ⟨#[]⟩, .string ⟨#[]⟩, .string ⟨#[]⟩, .int .i64 0] 72)).cell? ⟨w.heap.size, 1, none⟩ = some (.string ⟨#[]⟩) := (blk_cell hz3 1).trans rfl
   have f1 := blk_frozen hz3 1
   have c2 : (w2.alloc (.cells #[.string ⟨#[]⟩, .string ⟨#[]⟩, .string ⟨#[]⟩, .string ⟨#[]⟩, .string ⟨#[]⟩, .string ⟨#[]⟩, .string ⟨#[]⟩, .int .i64 0, .string ⟨#[]⟩, .string ⟨#[]⟩, .string ⟨#[]⟩, .int .i64 0] 72)).cell? ⟨w.heap.size, 2, none⟩ = some (.string ⟨#[]⟩) := (blk_cell hz3 2).trans rfl
   have f2 := blk_frozen hz3 2
   have c3 : (w2.alloc (.cells #[.string ⟨#[]⟩, .string ⟨#[]⟩, .string ⟨#[]⟩, .string ⟨#[]⟩, .string ⟨#[]⟩, .string ⟨#[]⟩, .string ⟨#[]⟩, .int .i64 0, .string ⟨#[]⟩, .string ⟨#[]⟩, .string ⟨#[]⟩, .int .i64 0] 72)).cell? ⟨w.heap.size, 3, none⟩ = some (.string ⟨#[]⟩) := (blk_cell hz3 3).trans rfl
   have f3 := blk_frozen hz3 3
   have c4 : (w2.alloc (.cells #[.string ⟨#[]⟩, .string ⟨#[]⟩, .string ⟨#[]⟩, .string ⟨#[]⟩, .string ⟨#[]⟩, .string ⟨#[]⟩, .string ⟨#[]⟩, .int .i64 0, .string ⟨#[]⟩, .string ⟨#[]⟩, .string ⟨#[]⟩, .int .i64 0] 72)).cell? ⟨w.heap.size, 4, none⟩ = some (.string ⟨#[]⟩) := (blk_cell hz3 4).trans rfl
   have f4 := blk_frozen hz3 4
   have c5 : (w2.alloc (.cells #[.string ⟨#[]⟩, .string ⟨#[]⟩, .string ⟨#[]⟩, .string ⟨#[]⟩, .string ⟨#[]⟩, .string ⟨#[]⟩, .string ⟨#[]⟩, .int .i64 0, .string ⟨#[]⟩, .string ⟨#[]⟩, .string ⟨#[]⟩, .int .i64 0] 72)).cell? ⟨w.heap.size, 5, none⟩ = some (.string ⟨#[]⟩) := (blk_cell hz3 5).trans rfl
   have f5 := blk_frozen hz3 5
   have c6 : (w2.alloc (.cells #[.string ⟨#[]⟩, .string ⟨#[]⟩, .string ⟨#[]⟩, .string ⟨#[]⟩, .string ⟨#[]⟩, .string ⟨#[]⟩, .string ⟨#[]⟩, .int .i64 0, .string ⟨#[]⟩, .string ⟨#[]⟩, .string ⟨#[]⟩, .int .i64 0] 72)).cell? ⟨w.heap.size, 6, none⟩ = some (.string ⟨#[]⟩) := (blk_cell hz3 6).trans rfl
   have f6 := blk_frozen hz3 6
   have c7 : (w2.alloc (.cells #[.string ⟨#[]⟩, .string ⟨#[]⟩, .string ⟨#[]⟩, .string ⟨#[]⟩, .string ⟨#[]⟩, .string ⟨#[]⟩, .string ⟨#[]⟩, .int .i64 0, .string ⟨#[]⟩, .string ⟨#[]⟩, .string ⟨#[]⟩, .int .i64 0] 72)).cell? ⟨w.heap.size, 7, none⟩ = some (.int .i64 0) := (blk_cell hz3 7).trans rfl
   have f7 := blk_frozen hz3 7
   have c8 : (w2.alloc (.cells #[.string ⟨#[]⟩, .string ⟨#[]⟩, .string ⟨#[]⟩, .string ⟨#[]⟩, .string ⟨#[]⟩, .string ⟨#[]⟩, .string ⟨#[]⟩, .int .i64 0, .string ⟨#[]⟩, .string ⟨#[]⟩, .string ⟨#[]⟩, .int .i64 0] 72)).cell? ⟨w.heap.size, 8, none⟩ = some (.string ⟨#[]⟩) := (blk_cell hz3 8).trans rfl
   have f8 := blk_frozen hz3 8
   have c9 : (w2.alloc (.cells #[.string ⟨#[]⟩, .string ⟨#[]⟩, .string ⟨#[]⟩, .string ⟨#[]⟩, .string ⟨#[]⟩, .string ⟨#[]⟩, .string ⟨#[]⟩, .int .i64 0, .string ⟨#[]⟩, .string ⟨#[]⟩, .string ⟨#[]⟩, .int .i64 0] 72)).cell? ⟨w.heap.size, 9, none⟩ = some (.string ⟨#[]⟩) := (blk_cell hz3 9).trans rfl
   have f9 := blk_frozen hz3 9
   have c10 : (w2.alloc (.cells #[.string ⟨#[]⟩, .string ⟨#[]⟩, .string ⟨#[]⟩, .string ⟨#[]⟩, .string ⟨#[]⟩, .string ⟨#[]⟩, .string ⟨#[]⟩, .int .i64 0, .string ⟨#[]⟩, .string ⟨#[]⟩, .string ⟨#[]⟩, .int .i64 0] 72)).cell? ⟨w.heap.size, 10, none⟩ = some (.string ⟨#[]⟩) := (blk_cell hz3 10).trans rfl
   have f10 := blk_frozen hz3 10
   have c11 : (w2.alloc (.cells #[.string ⟨#[]⟩, .string ⟨#[]⟩, .string ⟨#[]⟩, .string ⟨#[]⟩, .string ⟨#[]⟩, .string ⟨#[]⟩, .string ⟨#[]⟩, .int .i64 0, .string ⟨#[]⟩, .string ⟨#[]⟩, .string ⟨#[]⟩, .int .i64 0] 72)).cell? ⟨w.heap.size, 11, none⟩ = some (.int .i64 0) := (blk_cell hz3 11).trans rfl
   have f11 := blk_frozen hz3 11
   have d0 : (w2.alloc (.cells #[.string ⟨#[]⟩, .string ⟨#[]⟩, .string ⟨#[]⟩, .string ⟨#[]⟩, .string ⟨#[]⟩, .string ⟨#[]⟩, .string ⟨#[]⟩, .int .i64 0, .string ⟨#[]⟩, .string ⟨#[]⟩, .string ⟨#[]⟩, .int .i64 0] 72)).cell? ⟨w2.heap.size, 0, none⟩ = some (.string ⟨#[]⟩) := (blk_cell hx3 0).trans rfl
   have d1 : (w2.alloc (.cells #[.string ⟨#[]⟩, .string ⟨#[]⟩, .string ⟨#[]⟩, .string ⟨#[]⟩, .string ⟨#[]⟩, .string ⟨#[]⟩, .string ⟨#[]⟩, .int .i64 0, .string ⟨#[]⟩, .string ⟨#[]⟩, .string ⟨#[]⟩, .int .i64 0] 72)).cell? ⟨w2.heap.size, 1, none⟩ = some (.string ⟨#[]⟩) := (blk_cell hx3 1).trans rfl
   have d2 : (w2.alloc (.cells #[.string ⟨#[]⟩, .string ⟨#[]⟩, .string ⟨#[]⟩, .string ⟨#[]⟩, .string ⟨#[]⟩, .string ⟨#[]⟩, .string ⟨#[]⟩, .int .i64 0, .string ⟨#[]⟩, .string ⟨#[]⟩, .string ⟨#[]⟩, .int .i64 0] 72)).cell? ⟨w2.heap.size, 2, none⟩ = some (.string ⟨#[]⟩) := (blk_cell hx3 2).trans rfl
   have d3 : (w2.alloc (.cells #[.string ⟨#[]⟩, .string ⟨#[]⟩, .string ⟨#[]⟩, .string ⟨#[]⟩, .string ⟨#[]⟩, .string ⟨#[]⟩, .string ⟨#[]⟩, .int .i64 0, .string ⟨#[]⟩, .string ⟨#[]⟩, .string ⟨#[]⟩, .int .i64 0] 72)).cell? ⟨w2.heap.size, 3, none⟩ = some (.string ⟨#[]⟩) := (blk_cell hx3 3).trans rfl
   have d4 : (w2.alloc (.cells #[.string ⟨#[]⟩, .string ⟨#[]⟩, .string ⟨#[]⟩, .string ⟨#[]⟩, .string ⟨#[]⟩, .string ⟨#[]⟩, .string ⟨#[]⟩, .int .i64 0, .string ⟨#[]⟩, .string ⟨#[]⟩, .string ⟨#[]⟩, .int .i64 0] 72)).cell? ⟨w2.heap.size, 4, none⟩ = some (.string ⟨#[]⟩) := (blk_cell hx3 4).trans rfl
   have d5 : (w2.alloc (.cells #[.string ⟨#[]⟩, .string ⟨#[]⟩, .string ⟨#[]⟩, .string ⟨#[]⟩, .string ⟨#[]⟩, .string ⟨#[]⟩, .string ⟨#[]⟩, .int .i64 0, .string ⟨#[]⟩, .string ⟨#[]⟩, .string ⟨#[]⟩, .int .i64 0] 72)).cell? ⟨w2.heap.size, 5, none⟩ = some (.string ⟨#[]⟩) := (blk_cell hx3 5).trans rfl
   have d6 : (w2.alloc (.cells #[.string ⟨#[]⟩, .string ⟨#[]⟩, .string ⟨#[]⟩, .string ⟨#[]⟩, .string ⟨#[]⟩, .string ⟨#[]⟩, .string ⟨#[]⟩, .int .i64 0, .string ⟨#[]⟩, .string ⟨#[]⟩, .string ⟨#[]⟩, .int .i64 0] 72)).cell? ⟨w2.heap.size, 6, none⟩ = some (.string ⟨#[]⟩) := (blk_cell hx3 6).trans rfl
   have d7 : (w2.alloc (.cells #[.string ⟨#[]⟩, .string ⟨#[]⟩, .string ⟨#[]⟩, .string ⟨#[]⟩, .string ⟨#[]⟩, .string ⟨#[]⟩, .string ⟨#[]⟩, .int .i64 0, .string ⟨#[]⟩, .string ⟨#[]⟩, .string ⟨#[]⟩, .int .i64 0] 72)).cell? ⟨w2.heap.size, 7, none⟩ = some (.int .i64 0) := (blk_cell hx3 7).trans rfl
   have d8 : (w2.alloc (.cells #[.string ⟨#[]⟩, .string ⟨#[]⟩, .string ⟨#[]⟩, .string ⟨#[]⟩, .string ⟨#[]⟩, .string ⟨#[]⟩, .string ⟨#[]⟩, .int .i64 0, .string ⟨#[]⟩, .string ⟨#[]⟩, .string ⟨#[]⟩, .int .i64 0] 72)).cell? ⟨w2.heap.size, 8, none⟩ = some (.string ⟨#[]⟩) := (blk_cell hx3 8).trans rfl
   have d9 : (w2.alloc (.cells #[.string ⟨#[]⟩, .string ⟨#[]⟩, .string ⟨#[]⟩, .string ⟨#[]⟩, .string ⟨#[]⟩, .string ⟨#[]⟩, .string ⟨#[]⟩, .int .i64 0, .string ⟨#[]⟩, .string ⟨#[]⟩, .string ⟨#[]⟩, .int .i64 0] 72)).cell? ⟨w2.heap.size, 9, none⟩ = some (.string ⟨#[]⟩) := (blk_cell hx3 9).trans rfl
   have d10 : (w2.alloc (.cells #[.string ⟨#[]⟩, .string ⟨#[]⟩, .string ⟨#[]⟩, .string ⟨#[]⟩, .string ⟨#[]⟩, .string ⟨#[]⟩, .string ⟨#[]⟩, .int .i64 0, .string ⟨#[]⟩, .string ⟨#[]⟩, .string ⟨#[]⟩, .int .i64 0] 72)).cell? ⟨w2.heap.size, 10, none⟩ = some (.string ⟨#[]⟩) := (blk_cell hx3 10).trans rfl
   have d11 : (w2.alloc (.cells #[.string ⟨#[]⟩, .string ⟨#[]⟩, .string ⟨#[]⟩, .string ⟨#[]⟩, .string ⟨#[]⟩, .string ⟨#[]⟩, .string ⟨#[]⟩, .int .i64 0, .string ⟨#[]⟩, .string ⟨#[]⟩, .string ⟨#[]⟩, .int .i64 0] 72)).cell? ⟨w2.heap.size, 11, none⟩ = some (.int .i64 0) := (blk_cell hx3 11).trans rfl
   go_wp2_with fail
   refine bodyPost_ret (results_ct rfl _ _ w.heap.size 72 #[.string ⟨#[]⟩, .string ⟨#[]⟩, .string ⟨#[]⟩, .string ⟨#[]⟩, .string ⟨#[]⟩, .string ⟨#[]⟩, .string ⟨#[]⟩, .int .i64 0, .string ⟨#[]⟩, .string ⟨#[]⟩, .string ⟨#[]⟩, .int .i64 0] (0, 0) _ rfl (by
    refine blk_put (cs := #[.string ⟨#[]⟩, .string ⟨#[]⟩, .string ⟨#[]⟩, .string ⟨#[]⟩, .string ⟨#[]⟩, .string ⟨#[]⟩, .string ⟨#[]⟩, .int .i64 0, .string ⟨#[]⟩, .string ⟨#[]⟩, .string ⟨#[]⟩, .int .i64 0]) ?_ 11 _ rfl
    refine blk_put (cs := #[.string ⟨#[]⟩, .string ⟨#[]⟩, .string ⟨#[]⟩, .string ⟨#[]⟩, .string ⟨#[]⟩, .string ⟨#[]⟩, .string ⟨#[]⟩, .int .i64 0, .string ⟨#[]⟩, .string ⟨#[]⟩, .string ⟨#[]⟩, .int .i64 0]) ?_ 10 _ rfl
    refine blk_put (cs := #[.string ⟨#[]⟩, .string ⟨#[]⟩, .string ⟨#[]⟩, .string ⟨#[]⟩, .string ⟨#[]⟩, .string ⟨#[]⟩, .string ⟨#[]⟩, .int .i64 0, .string ⟨#[]⟩, .string ⟨#[]⟩, .string ⟨#[]⟩, .int .i64 0]) ?_ 9 _ rfl
    refine blk_put (cs := #[.string ⟨#[]⟩, .string ⟨#[]⟩, .string ⟨#[]⟩, .string ⟨#[]⟩, .string ⟨#[]⟩, .string ⟨#[]⟩, .string ⟨#[]⟩, .int .i64 0, .string ⟨#[]⟩, .string ⟨#[]⟩, .string ⟨#[]⟩, .int .i64 0]) ?_ 8 _ rfl
    refine blk_put (cs := #[.string ⟨#[]⟩, .string ⟨#[]⟩, .string ⟨#[]⟩, .string ⟨#[]⟩, .string ⟨#[]⟩, .string ⟨#[]⟩, .string ⟨#[]⟩, .int .i64 0, .string ⟨#[]⟩, .string ⟨#[]⟩, .string ⟨#[]⟩, .int .i64 0]) ?_ 7 _ rfl
    refine blk_put (cs := #[.string ⟨#[]⟩, .string ⟨#[]⟩, .string ⟨#[]⟩, .string ⟨#[]⟩, .string ⟨#[]⟩, .string ⟨#[]⟩, .string ⟨#[]⟩, .int .i64 0, .string ⟨#[]⟩, .string ⟨#[]⟩, .string ⟨#[]⟩, .int .i64 0]) ?_ 6 _ rfl
    refine blk_put (cs := #[.string ⟨#[]⟩, .string ⟨#[]⟩, .string ⟨#[]⟩, .string ⟨#[]⟩, .string ⟨#[]⟩, .string ⟨#[]⟩, .string ⟨#[]⟩, .int .i64 0, .string ⟨#[]⟩, .string ⟨#[]⟩, .string ⟨#[]⟩, .int .i64 0]) ?_ 5 _ rfl
    refine blk_put (cs := #[.string ⟨#[]⟩, .string ⟨#[]⟩, .string ⟨#[]⟩, .string ⟨#[]⟩, .string ⟨#[]⟩, .string ⟨#[]⟩, .string ⟨#[]⟩, .int .i64 0, .string ⟨#[]⟩, .string ⟨#[]⟩, .string ⟨#[]⟩, .int .i64 0]) ?_ 4 _ rfl
    refine blk_put (cs := #[.string ⟨#[]⟩, .string ⟨#[]⟩, .string ⟨#[]⟩, .string ⟨#[]⟩, .string ⟨#[]⟩, .string ⟨#[]⟩, .string ⟨#[]⟩, .int .i64 0, .string ⟨#[]⟩, .string ⟨#[]⟩, .string ⟨#[]⟩, .int .i64 0]) ?_ 3 _ rfl
    refine blk_put (cs := #[.string ⟨#[]⟩, .string ⟨#[]⟩, .string ⟨#[]⟩, .string ⟨#[]⟩, .string ⟨#[]⟩, .string ⟨#[]⟩, .string ⟨#[]⟩, .int .i64 0, .string ⟨#[]⟩, .string ⟨#[]⟩, .string ⟨#[]⟩, .int .i64 0]) ?_ 2 _ rfl
    refine blk_put (cs := #[.string ⟨#[]⟩, .string ⟨#[]⟩, .string ⟨#[]⟩, .string ⟨#[]⟩, .string ⟨#[]⟩, .string ⟨#[]⟩, .string ⟨#[]⟩, .int .i64 0, .string ⟨#[]⟩, .string ⟨#[]⟩, .string ⟨#[]⟩, .int .i64 0]) ?_ 1 _ rfl
    refine blk_put (cs := #[.string ⟨#[]⟩, .string ⟨#[]⟩, .string ⟨#[]⟩, .string ⟨#[]⟩, .string ⟨#[]⟩, .string ⟨#[]⟩, .string ⟨#[]⟩, .int .i64 0, .string ⟨#[]⟩, .string ⟨#[]⟩, .string ⟨#[]⟩, .int .i64 0]) ?_ 0 _ rfl
    exact hz3) Tryz.underlying72 rfl (by kernel_rfl)) rfl ?_
   refine ⟨rfl, ?_⟩
   iterate 12 (with_reducible refine below_set ?_ (Nat.le_refl _))
   with_reducible exact hB3
  | some x =>
   have f2 := f2 x hx
   have f3 := f3 x hx
   rw [hx] at hread
   clear f1 hx
   simp only [Option.getD_some, sesV, sesE, Option.isSome_some, if_true] at hread
   by_cases hov : x.ends ≤ now
   ·
    have hf := f2 hov
    subst hf
    have q3 : decide (x.ends ≤ now) = true := decide_eq_true hov
    clear f2 f3 hov
    go_wp2_with fail
    refine hread.mono ?_
    rintro e w2 ⟨rfl, hb2⟩
    have hz2 := blk_below hz1 hb2
    have hB2 := below_then hB1 hB1.size hb2
    clear hread
    have hz3 := blk_below hz2 (below_alloc (Below.refl _ w2) (.cells #[.string x.cookie, .string x.client, .string x.redirect, .string x.state, .string x.nonce, .string x.scope, .string x.challenge, .int .i64 x.stage, .string x.conn, .string x.upState, .string x.upNonce, .int .i64 x.ends] 72))
    have hx3 := heap_alloc_new w2 (.cells #[.string x.cookie, .string x.client, .string x.redirect, .string x.state, .string x.nonce, .string x.scope, .string x.challenge, .int .i64 x.stage, .string x.conn, .string x.upState, .string x.upNonce, .int .i64 x.ends] 72)
    have hB3 := below_alloc hB2 (.cells #[.string x.cookie, .string x.client, .string x.redirect, .string x.state, .string x.nonce, .string x.scope, .string x.challenge, .int .i64 x.stage, .string x.conn, .string x.upState, .string x.upNonce, .int .i64 x.ends] 72)
    have c0 : (w2.alloc (.cells #[.string x.cookie, .string x.client, .string x.redirect, .string x.state, .string x.nonce, .string x.scope, .string x.challenge, .int .i64 x.stage, .string x.conn, .string x.upState, .string x.upNonce, .int .i64 x.ends] 72)).cell? ⟨w.heap.size, 0, none⟩ = some (.string ⟨#[]⟩) := (blk_cell hz3 0).trans rfl
    have f0 := blk_frozen hz3 0
    have c1 : (w2.alloc (.cells #[.string x.cookie, .string x.client, .string x.redirect, .string x.state, .string x.nonce, .string x.scope, .string x.challenge, .int .i64 x.stage, .string x.conn, .string x.upState, .string x.upNonce, .int .i64 x.ends] 72)).cell? ⟨w.heap.size, 1, none⟩ = some (.string ⟨#[]⟩) := (blk_cell hz3 1).trans rfl
    have f1 := blk_frozen hz3 1
    have c2 : (w2.alloc (.cells #[.string x.cookie, .string x.client, .string x.redirect, .string x.state, .string x.nonce, .string x.scope, .string x.challenge, .int .i64 x.stage, .string x.conn, .string x.upState, .string x.upNonce, .int .i64 x.ends] 72)).cell? ⟨w.heap.size, 2, none⟩ = some (.string ⟨#[]⟩) := (blk_cell hz3 2).trans rfl
    have f2 := blk_frozen hz3 2
    have c3 : (w2.alloc (.cells #[.string x.cookie, .string x.client, .string x.redirect, .string x.state, .string x.nonce, .string x.scope, .string x.challenge, .int .i64 x.stage, .string x.conn, .string x.upState, .string x.upNonce, .int .i64 x.ends] 72)).cell? ⟨w.heap.size, 3, none⟩ = some (.string ⟨#[]⟩) := (blk_cell hz3 3).trans rfl
    have f3 := blk_frozen hz3 3
    have c4 : (w2.alloc (.cells #[.string x.cookie, .string x.client, .string x.redirect, .string x.state, .string x.nonce, .string x.scope, .string x.challenge, .int .i64 x.stage, .string x.conn, .string x.upState, .string x.upNonce, .int .i64 x.ends] 72)).cell? ⟨w.heap.size, 4, none⟩ = some (.string ⟨#[]⟩) := (blk_cell hz3 4).trans rfl
    have f4 := blk_frozen hz3 4
    have c5 : (w2.alloc (.cells #[.string x.cookie, .string x.client, .string x.redirect, .string x.state, .string x.nonce, .string x.scope, .string x.challenge, .int .i64 x.stage, .string x.conn, .string x.upState, .string x.upNonce, .int .i64 x.ends] 72)).cell? ⟨w.heap.size, 5, none⟩ = some (.string ⟨#[]⟩) := (blk_cell hz3 5).trans rfl
    have f5 := blk_frozen hz3 5
    have c6 : (w2.alloc (.cells #[.string x.cookie, .string x.client, .string x.redirect, .string x.state, .string x.nonce, .string x.scope, .string x.challenge, .int .i64 x.stage, .string x.conn, .string x.upState, .string x.upNonce, .int .i64 x.ends] 72)).cell? ⟨w.heap.size, 6, none⟩ = some (.string ⟨#[]⟩) := (blk_cell hz3 6).trans rfl
    have f6 := blk_frozen hz3 6
    have c7 : (w2.alloc (.cells #[.string x.cookie, .string x.client, .string x.redirect, .string x.state, .string x.nonce, .string x.scope, .string x.challenge, .int .i64 x.stage, .string x.conn, .string x.upState, .string x.upNonce, .int .i64 x.ends] 72)).cell? ⟨w.heap.size, 7, none⟩ = some (.int .i64 0) := (blk_cell hz3 7).trans rfl
    have f7 := blk_frozen hz3 7
    have c8 : (w2.alloc (.cells #[.string x.cookie, .string x.client, .string x.redirect, .string x.state, .string x.nonce, .string x.scope, .string x.challenge, .int .i64 x.stage, .string x.conn, .string x.upState, .string x.upNonce, .int .i64 x.ends] 72)).cell? ⟨w.heap.size, 8, none⟩ = some (.string ⟨#[]⟩) := (blk_cell hz3 8).trans rfl
    have f8 := blk_frozen hz3 8
    have c9 : (w2.alloc (.cells #[.string x.cookie, .string x.client, .string x.redirect, .string x.state, .string x.nonce, .string x.scope, .string x.challenge, .int .i64 x.stage, .string x.conn, .string x.upState, .string x.upNonce, .int .i64 x.ends] 72)).cell? ⟨w.heap.size, 9, none⟩ = some (.string ⟨#[]⟩) := (blk_cell hz3 9).trans rfl
    have f9 := blk_frozen hz3 9
    have c10 : (w2.alloc (.cells #[.string x.cookie, .string x.client, .string x.redirect, .string x.state, .string x.nonce, .string x.scope, .string x.challenge, .int .i64 x.stage, .string x.conn, .string x.upState, .string x.upNonce, .int .i64 x.ends] 72)).cell? ⟨w.heap.size, 10, none⟩ = some (.string ⟨#[]⟩) := (blk_cell hz3 10).trans rfl
    have f10 := blk_frozen hz3 10
    have c11 : (w2.alloc (.cells #[.string x.cookie, .string x.client, .string x.redirect, .string x.state, .string x.nonce, .string x.scope, .string x.challenge, .int .i64 x.stage, .string x.conn, .string x.upState, .string x.upNonce, .int .i64 x.ends] 72)).cell? ⟨w.heap.size, 11, none⟩ = some (.int .i64 0) := (blk_cell hz3 11).trans rfl
    have f11 := blk_frozen hz3 11
    have d0 : (w2.alloc (.cells #[.string x.cookie, .string x.client, .string x.redirect, .string x.state, .string x.nonce, .string x.scope, .string x.challenge, .int .i64 x.stage, .string x.conn, .string x.upState, .string x.upNonce, .int .i64 x.ends] 72)).cell? ⟨w2.heap.size, 0, none⟩ = some (.string x.cookie) := (blk_cell hx3 0).trans rfl
    have d1 : (w2.alloc (.cells #[.string x.cookie, .string x.client, .string x.redirect, .string x.state, .string x.nonce, .string x.scope, .string x.challenge, .int .i64 x.stage, .string x.conn, .string x.upState, .string x.upNonce, .int .i64 x.ends] 72)).cell? ⟨w2.heap.size, 1, none⟩ = some (.string x.client) := (blk_cell hx3 1).trans rfl
    have d2 : (w2.alloc (.cells #[.string x.cookie, .string x.client, .string x.redirect, .string x.state, .string x.nonce, .string x.scope, .string x.challenge, .int .i64 x.stage, .string x.conn, .string x.upState, .string x.upNonce, .int .i64 x.ends] 72)).cell? ⟨w2.heap.size, 2, none⟩ = some (.string x.redirect) := (blk_cell hx3 2).trans rfl
    have d3 : (w2.alloc (.cells #[.string x.cookie, .string x.client, .string x.redirect, .string x.state, .string x.nonce, .string x.scope, .string x.challenge, .int .i64 x.stage, .string x.conn, .string x.upState, .string x.upNonce, .int .i64 x.ends] 72)).cell? ⟨w2.heap.size, 3, none⟩ = some (.string x.state) := (blk_cell hx3 3).trans rfl
    have d4 : (w2.alloc (.cells #[.string x.cookie, .string x.client, .string x.redirect, .string x.state, .string x.nonce, .string x.scope, .string x.challenge, .int .i64 x.stage, .string x.conn, .string x.upState, .string x.upNonce, .int .i64 x.ends] 72)).cell? ⟨w2.heap.size, 4, none⟩ = some (.string x.nonce) := (blk_cell hx3 4).trans rfl
    have d5 : (w2.alloc (.cells #[.string x.cookie, .string x.client, .string x.redirect, .string x.state, .string x.nonce, .string x.scope, .string x.challenge, .int .i64 x.stage, .string x.conn, .string x.upState, .string x.upNonce, .int .i64 x.ends] 72)).cell? ⟨w2.heap.size, 5, none⟩ = some (.string x.scope) := (blk_cell hx3 5).trans rfl
    have d6 : (w2.alloc (.cells #[.string x.cookie, .string x.client, .string x.redirect, .string x.state, .string x.nonce, .string x.scope, .string x.challenge, .int .i64 x.stage, .string x.conn, .string x.upState, .string x.upNonce, .int .i64 x.ends] 72)).cell? ⟨w2.heap.size, 6, none⟩ = some (.string x.challenge) := (blk_cell hx3 6).trans rfl
    have d7 : (w2.alloc (.cells #[.string x.cookie, .string x.client, .string x.redirect, .string x.state, .string x.nonce, .string x.scope, .string x.challenge, .int .i64 x.stage, .string x.conn, .string x.upState, .string x.upNonce, .int .i64 x.ends] 72)).cell? ⟨w2.heap.size, 7, none⟩ = some (.int .i64 x.stage) := (blk_cell hx3 7).trans rfl
    have d8 : (w2.alloc (.cells #[.string x.cookie, .string x.client, .string x.redirect, .string x.state, .string x.nonce, .string x.scope, .string x.challenge, .int .i64 x.stage, .string x.conn, .string x.upState, .string x.upNonce, .int .i64 x.ends] 72)).cell? ⟨w2.heap.size, 8, none⟩ = some (.string x.conn) := (blk_cell hx3 8).trans rfl
    have d9 : (w2.alloc (.cells #[.string x.cookie, .string x.client, .string x.redirect, .string x.state, .string x.nonce, .string x.scope, .string x.challenge, .int .i64 x.stage, .string x.conn, .string x.upState, .string x.upNonce, .int .i64 x.ends] 72)).cell? ⟨w2.heap.size, 9, none⟩ = some (.string x.upState) := (blk_cell hx3 9).trans rfl
    have d10 : (w2.alloc (.cells #[.string x.cookie, .string x.client, .string x.redirect, .string x.state, .string x.nonce, .string x.scope, .string x.challenge, .int .i64 x.stage, .string x.conn, .string x.upState, .string x.upNonce, .int .i64 x.ends] 72)).cell? ⟨w2.heap.size, 10, none⟩ = some (.string x.upNonce) := (blk_cell hx3 10).trans rfl
    have d11 : (w2.alloc (.cells #[.string x.cookie, .string x.client, .string x.redirect, .string x.state, .string x.nonce, .string x.scope, .string x.challenge, .int .i64 x.stage, .string x.conn, .string x.upState, .string x.upNonce, .int .i64 x.ends] 72)).cell? ⟨w2.heap.size, 11, none⟩ = some (.int .i64 x.ends) := (blk_cell hx3 11).trans rfl
    go_wp2_with fail
    refine bodyPost_ret (results_ct rfl _ _ w.heap.size 72 #[.string ⟨#[]⟩, .string ⟨#[]⟩, .string ⟨#[]⟩, .string ⟨#[]⟩, .string ⟨#[]⟩, .string ⟨#[]⟩, .string ⟨#[]⟩, .int .i64 0, .string ⟨#[]⟩, .string ⟨#[]⟩, .string ⟨#[]⟩, .int .i64 0] (0, 0) _ rfl (by
     refine blk_put (cs := #[.string ⟨#[]⟩, .string ⟨#[]⟩, .string ⟨#[]⟩, .string ⟨#[]⟩, .string ⟨#[]⟩, .string ⟨#[]⟩, .string ⟨#[]⟩, .int .i64 0, .string ⟨#[]⟩, .string ⟨#[]⟩, .string ⟨#[]⟩, .int .i64 0]) ?_ 11 _ rfl
     refine blk_put (cs := #[.string ⟨#[]⟩, .string ⟨#[]⟩, .string ⟨#[]⟩, .string ⟨#[]⟩, .string ⟨#[]⟩, .string ⟨#[]⟩, .string ⟨#[]⟩, .int .i64 0, .string ⟨#[]⟩, .string ⟨#[]⟩, .string ⟨#[]⟩, .int .i64 0]) ?_ 10 _ rfl
     refine blk_put (cs := #[.string ⟨#[]⟩, .string ⟨#[]⟩, .string ⟨#[]⟩, .string ⟨#[]⟩, .string ⟨#[]⟩, .string ⟨#[]⟩, .string ⟨#[]⟩, .int .i64 0, .string ⟨#[]⟩, .string ⟨#[]⟩, .string ⟨#[]⟩, .int .i64 0]) ?_ 9 _ rfl
     refine blk_put (cs := #[.string ⟨#[]⟩, .string ⟨#[]⟩, .string ⟨#[]⟩, .string ⟨#[]⟩, .string ⟨#[]⟩, .string ⟨#[]⟩, .string ⟨#[]⟩, .int .i64 0, .string ⟨#[]⟩, .string ⟨#[]⟩, .string ⟨#[]⟩, .int .i64 0]) ?_ 8 _ rfl
     refine blk_put (cs := #[.string ⟨#[]⟩, .string ⟨#[]⟩, .string ⟨#[]⟩, .string ⟨#[]⟩, .string ⟨#[]⟩, .string ⟨#[]⟩, .string ⟨#[]⟩, .int .i64 0, .string ⟨#[]⟩, .string ⟨#[]⟩, .string ⟨#[]⟩, .int .i64 0]) ?_ 7 _ rfl
     refine blk_put (cs := #[.string ⟨#[]⟩, .string ⟨#[]⟩, .string ⟨#[]⟩, .string ⟨#[]⟩, .string ⟨#[]⟩, .string ⟨#[]⟩, .string ⟨#[]⟩, .int .i64 0, .string ⟨#[]⟩, .string ⟨#[]⟩, .string ⟨#[]⟩, .int .i64 0]) ?_ 6 _ rfl
     refine blk_put (cs := #[.string ⟨#[]⟩, .string ⟨#[]⟩, .string ⟨#[]⟩, .string ⟨#[]⟩, .string ⟨#[]⟩, .string ⟨#[]⟩, .string ⟨#[]⟩, .int .i64 0, .string ⟨#[]⟩, .string ⟨#[]⟩, .string ⟨#[]⟩, .int .i64 0]) ?_ 5 _ rfl
     refine blk_put (cs := #[.string ⟨#[]⟩, .string ⟨#[]⟩, .string ⟨#[]⟩, .string ⟨#[]⟩, .string ⟨#[]⟩, .string ⟨#[]⟩, .string ⟨#[]⟩, .int .i64 0, .string ⟨#[]⟩, .string ⟨#[]⟩, .string ⟨#[]⟩, .int .i64 0]) ?_ 4 _ rfl
     refine blk_put (cs := #[.string ⟨#[]⟩, .string ⟨#[]⟩, .string ⟨#[]⟩, .string ⟨#[]⟩, .string ⟨#[]⟩, .string ⟨#[]⟩, .string ⟨#[]⟩, .int .i64 0, .string ⟨#[]⟩, .string ⟨#[]⟩, .string ⟨#[]⟩, .int .i64 0]) ?_ 3 _ rfl
     refine blk_put (cs := #[.string ⟨#[]⟩, .string ⟨#[]⟩, .string ⟨#[]⟩, .string ⟨#[]⟩, .string ⟨#[]⟩, .string ⟨#[]⟩, .string ⟨#[]⟩, .int .i64 0, .string ⟨#[]⟩, .string ⟨#[]⟩, .string ⟨#[]⟩, .int .i64 0]) ?_ 2 _ rfl
     refine blk_put (cs := #[.string ⟨#[]⟩, .string ⟨#[]⟩, .string ⟨#[]⟩, .string ⟨#[]⟩, .string ⟨#[]⟩, .string ⟨#[]⟩, .string ⟨#[]⟩, .int .i64 0, .string ⟨#[]⟩, .string ⟨#[]⟩, .string ⟨#[]⟩, .int .i64 0]) ?_ 1 _ rfl
     refine blk_put (cs := #[.string ⟨#[]⟩, .string ⟨#[]⟩, .string ⟨#[]⟩, .string ⟨#[]⟩, .string ⟨#[]⟩, .string ⟨#[]⟩, .string ⟨#[]⟩, .int .i64 0, .string ⟨#[]⟩, .string ⟨#[]⟩, .string ⟨#[]⟩, .int .i64 0]) ?_ 0 _ rfl
     exact hz3) Tryz.underlying72 rfl (by kernel_rfl)) rfl ?_
    refine ⟨rfl, ?_⟩
    iterate 12 (with_reducible refine below_set ?_ (Nat.le_refl _))
    with_reducible exact hB3
   ·
    have hf := f3 (Int.not_le.1 hov)
    subst hf
    have q3 : decide (x.ends ≤ now) = false := decide_eq_false hov
    clear f2 f3 hov
    go_wp2_with fail
    refine hread.mono ?_
    rintro e w2 ⟨rfl, hb2⟩
    have hz2 := blk_below hz1 hb2
    have hB2 := below_then hB1 hB1.size hb2
    clear hread
    have hz3 := blk_below hz2 (below_alloc (Below.refl _ w2) (.cells #[.string x.cookie, .string x.client, .string x.redirect, .string x.state, .string x.nonce, .string x.scope, .string x.challenge, .int .i64 x.stage, .string x.conn, .string x.upState, .string x.upNonce, .int .i64 x.ends] 72))
    have hx3 := heap_alloc_new w2 (.cells #[.string x.cookie, .string x.client, .string x.redirect, .string x.state, .string x.nonce, .string x.scope, .string x.challenge, .int .i64 x.stage, .string x.conn, .string x.upState, .string x.upNonce, .int .i64 x.ends] 72)
    have hB3 := below_alloc hB2 (.cells #[.string x.cookie, .string x.client, .string x.redirect, .string x.state, .string x.nonce, .string x.scope, .string x.challenge, .int .i64 x.stage, .string x.conn, .string x.upState, .string x.upNonce, .int .i64 x.ends] 72)
    have c0 : (w2.alloc (.cells #[.string x.cookie, .string x.client, .string x.redirect, .string x.state, .string x.nonce, .string x.scope, .string x.challenge, .int .i64 x.stage, .string x.conn, .string x.upState, .string x.upNonce, .int .i64 x.ends] 72)).cell? ⟨w.heap.size, 0, none⟩ = some (.string ⟨#[]⟩) := (blk_cell hz3 0).trans rfl
    have f0 := blk_frozen hz3 0
    have c1 : (w2.alloc (.cells #[.string x.cookie, .string x.client, .string x.redirect, .string x.state, .string x.nonce, .string x.scope, .string x.challenge, .int .i64 x.stage, .string x.conn, .string x.upState, .string x.upNonce, .int .i64 x.ends] 72)).cell? ⟨w.heap.size, 1, none⟩ = some (.string ⟨#[]⟩) := (blk_cell hz3 1).trans rfl
    have f1 := blk_frozen hz3 1
    have c2 : (w2.alloc (.cells #[.string x.cookie, .string x.client, .string x.redirect, .string x.state, .string x.nonce, .string x.scope, .string x.challenge, .int .i64 x.stage, .string x.conn, .string x.upState, .string x.upNonce, .int .i64 x.ends] 72)).cell? ⟨w.heap.size, 2, none⟩ = some (.string ⟨#[]⟩) := (blk_cell hz3 2).trans rfl
    have f2 := blk_frozen hz3 2
    have c3 : (w2.alloc (.cells #[.string x.cookie, .string x.client, .string x.redirect, .string x.state, .string x.nonce, .string x.scope, .string x.challenge, .int .i64 x.stage, .string x.conn, .string x.upState, .string x.upNonce, .int .i64 x.ends] 72)).cell? ⟨w.heap.size, 3, none⟩ = some (.string ⟨#[]⟩) := (blk_cell hz3 3).trans rfl
    have f3 := blk_frozen hz3 3
    have c4 : (w2.alloc (.cells #[.string x.cookie, .string x.client, .string x.redirect, .string x.state, .string x.nonce, .string x.scope, .string x.challenge, .int .i64 x.stage, .string x.conn, .string x.upState, .string x.upNonce, .int .i64 x.ends] 72)).cell? ⟨w.heap.size, 4, none⟩ = some (.string ⟨#[]⟩) := (blk_cell hz3 4).trans rfl
    have f4 := blk_frozen hz3 4
    have c5 : (w2.alloc (.cells #[.string x.cookie, .string x.client, .string x.redirect, .string x.state, .string x.nonce, .string x.scope, .string x.challenge, .int .i64 x.stage, .string x.conn, .string x.upState, .string x.upNonce, .int .i64 x.ends] 72)).cell? ⟨w.heap.size, 5, none⟩ = some (.string ⟨#[]⟩) := (blk_cell hz3 5).trans rfl
    have f5 := blk_frozen hz3 5
    have c6 : (w2.alloc (.cells #[.string x.cookie, .string x.client, .string x.redirect, .string x.state, .string x.nonce, .string x.scope, .string x.challenge, .int .i64 x.stage, .string x.conn, .string x.upState, .string x.upNonce, .int .i64 x.ends] 72)).cell? ⟨w.heap.size, 6, none⟩ = some (.string ⟨#[]⟩) := (blk_cell hz3 6).trans rfl
    have f6 := blk_frozen hz3 6
    have c7 : (w2.alloc (.cells #[.string x.cookie, .string x.client, .string x.redirect, .string x.state, .string x.nonce, .string x.scope, .string x.challenge, .int .i64 x.stage, .string x.conn, .string x.upState, .string x.upNonce, .int .i64 x.ends] 72)).cell? ⟨w.heap.size, 7, none⟩ = some (.int .i64 0) := (blk_cell hz3 7).trans rfl
    have f7 := blk_frozen hz3 7
    have c8 : (w2.alloc (.cells #[.string x.cookie, .string x.client, .string x.redirect, .string x.state, .string x.nonce, .string x.scope, .string x.challenge, .int .i64 x.stage, .string x.conn, .string x.upState, .string x.upNonce, .int .i64 x.ends] 72)).cell? ⟨w.heap.size, 8, none⟩ = some (.string ⟨#[]⟩) := (blk_cell hz3 8).trans rfl
    have f8 := blk_frozen hz3 8
    have c9 : (w2.alloc (.cells #[.string x.cookie, .string x.client, .string x.redirect, .string x.state, .string x.nonce, .string x.scope, .string x.challenge, .int .i64 x.stage, .string x.conn, .string x.upState, .string x.upNonce, .int .i64 x.ends] 72)).cell? ⟨w.heap.size, 9, none⟩ = some (.string ⟨#[]⟩) := (blk_cell hz3 9).trans rfl
    have f9 := blk_frozen hz3 9
    have c10 : (w2.alloc (.cells #[.string x.cookie, .string x.client, .string x.redirect, .string x.state, .string x.nonce, .string x.scope, .string x.challenge, .int .i64 x.stage, .string x.conn, .string x.upState, .string x.upNonce, .int .i64 x.ends] 72)).cell? ⟨w.heap.size, 10, none⟩ = some (.string ⟨#[]⟩) := (blk_cell hz3 10).trans rfl
    have f10 := blk_frozen hz3 10
    have c11 : (w2.alloc (.cells #[.string x.cookie, .string x.client, .string x.redirect, .string x.state, .string x.nonce, .string x.scope, .string x.challenge, .int .i64 x.stage, .string x.conn, .string x.upState, .string x.upNonce, .int .i64 x.ends] 72)).cell? ⟨w.heap.size, 11, none⟩ = some (.int .i64 0) := (blk_cell hz3 11).trans rfl
    have f11 := blk_frozen hz3 11
    have d0 : (w2.alloc (.cells #[.string x.cookie, .string x.client, .string x.redirect, .string x.state, .string x.nonce, .string x.scope, .string x.challenge, .int .i64 x.stage, .string x.conn, .string x.upState, .string x.upNonce, .int .i64 x.ends] 72)).cell? ⟨w2.heap.size, 0, none⟩ = some (.string x.cookie) := (blk_cell hx3 0).trans rfl
    have d1 : (w2.alloc (.cells #[.string x.cookie, .string x.client, .string x.redirect, .string x.state, .string x.nonce, .string x.scope, .string x.challenge, .int .i64 x.stage, .string x.conn, .string x.upState, .string x.upNonce, .int .i64 x.ends] 72)).cell? ⟨w2.heap.size, 1, none⟩ = some (.string x.client) := (blk_cell hx3 1).trans rfl
    have d2 : (w2.alloc (.cells #[.string x.cookie, .string x.client, .string x.redirect, .string x.state, .string x.nonce, .string x.scope, .string x.challenge, .int .i64 x.stage, .string x.conn, .string x.upState, .string x.upNonce, .int .i64 x.ends] 72)).cell? ⟨w2.heap.size, 2, none⟩ = some (.string x.redirect) := (blk_cell hx3 2).trans rfl
    have d3 : (w2.alloc (.cells #[.string x.cookie, .string x.client, .string x.redirect, .string x.state, .string x.nonce, .string x.scope, .string x.challenge, .int .i64 x.stage, .string x.conn, .string x.upState, .string x.upNonce, .int .i64 x.ends] 72)).cell? ⟨w2.heap.size, 3, none⟩ = some (.string x.state) := (blk_cell hx3 3).trans rfl
    have d4 : (w2.alloc (.cells #[.string x.cookie, .string x.client, .string x.redirect, .string x.state, .string x.nonce, .string x.scope, .string x.challenge, .int .i64 x.stage, .string x.conn, .string x.upState, .string x.upNonce, .int .i64 x.ends] 72)).cell? ⟨w2.heap.size, 4, none⟩ = some (.string x.nonce) := (blk_cell hx3 4).trans rfl
    have d5 : (w2.alloc (.cells #[.string x.cookie, .string x.client, .string x.redirect, .string x.state, .string x.nonce, .string x.scope, .string x.challenge, .int .i64 x.stage, .string x.conn, .string x.upState, .string x.upNonce, .int .i64 x.ends] 72)).cell? ⟨w2.heap.size, 5, none⟩ = some (.string x.scope) := (blk_cell hx3 5).trans rfl
    have d6 : (w2.alloc (.cells #[.string x.cookie, .string x.client, .string x.redirect, .string x.state, .string x.nonce, .string x.scope, .string x.challenge, .int .i64 x.stage, .string x.conn, .string x.upState, .string x.upNonce, .int .i64 x.ends] 72)).cell? ⟨w2.heap.size, 6, none⟩ = some (.string x.challenge) := (blk_cell hx3 6).trans rfl
    have d7 : (w2.alloc (.cells #[.string x.cookie, .string x.client, .string x.redirect, .string x.state, .string x.nonce, .string x.scope, .string x.challenge, .int .i64 x.stage, .string x.conn, .string x.upState, .string x.upNonce, .int .i64 x.ends] 72)).cell? ⟨w2.heap.size, 7, none⟩ = some (.int .i64 x.stage) := (blk_cell hx3 7).trans rfl
    have d8 : (w2.alloc (.cells #[.string x.cookie, .string x.client, .string x.redirect, .string x.state, .string x.nonce, .string x.scope, .string x.challenge, .int .i64 x.stage, .string x.conn, .string x.upState, .string x.upNonce, .int .i64 x.ends] 72)).cell? ⟨w2.heap.size, 8, none⟩ = some (.string x.conn) := (blk_cell hx3 8).trans rfl
    have d9 : (w2.alloc (.cells #[.string x.cookie, .string x.client, .string x.redirect, .string x.state, .string x.nonce, .string x.scope, .string x.challenge, .int .i64 x.stage, .string x.conn, .string x.upState, .string x.upNonce, .int .i64 x.ends] 72)).cell? ⟨w2.heap.size, 9, none⟩ = some (.string x.upState) := (blk_cell hx3 9).trans rfl
    have d10 : (w2.alloc (.cells #[.string x.cookie, .string x.client, .string x.redirect, .string x.state, .string x.nonce, .string x.scope, .string x.challenge, .int .i64 x.stage, .string x.conn, .string x.upState, .string x.upNonce, .int .i64 x.ends] 72)).cell? ⟨w2.heap.size, 10, none⟩ = some (.string x.upNonce) := (blk_cell hx3 10).trans rfl
    have d11 : (w2.alloc (.cells #[.string x.cookie, .string x.client, .string x.redirect, .string x.state, .string x.nonce, .string x.scope, .string x.challenge, .int .i64 x.stage, .string x.conn, .string x.upState, .string x.upNonce, .int .i64 x.ends] 72)).cell? ⟨w2.heap.size, 11, none⟩ = some (.int .i64 x.ends) := (blk_cell hx3 11).trans rfl
    go_wp2_with fail
    refine bodyPost_ret (results_ct rfl _ _ w.heap.size 72 #[.string x.cookie, .string x.client, .string x.redirect, .string x.state, .string x.nonce, .string x.scope, .string x.challenge, .int .i64 x.stage, .string x.conn, .string x.upState, .string x.upNonce, .int .i64 x.ends] (0, 0) _ rfl (by
     refine blk_put (cs := #[.string x.cookie, .string x.client, .string x.redirect, .string x.state, .string x.nonce, .string x.scope, .string x.challenge, .int .i64 x.stage, .string x.conn, .string x.upState, .string x.upNonce, .int .i64 0]) ?_ 11 _ rfl
     refine blk_put (cs := #[.string x.cookie, .string x.client, .string x.redirect, .string x.state, .string x.nonce, .string x.scope, .string x.challenge, .int .i64 x.stage, .string x.conn, .string x.upState, .string ⟨#[]⟩, .int .i64 0]) ?_ 10 _ rfl
     refine blk_put (cs := #[.string x.cookie, .string x.client, .string x.redirect, .string x.state, .string x.nonce, .string x.scope, .string x.challenge, .int .i64 x.stage, .string x.conn, .string ⟨#[]⟩, .string ⟨#[]⟩, .int .i64 0]) ?_ 9 _ rfl
     refine blk_put (cs := #[.string x.cookie, .string x.client, .string x.redirect, .string x.state, .string x.nonce, .string x.scope, .string x.challenge, .int .i64 x.stage, .string ⟨#[]⟩, .string ⟨#[]⟩, .string ⟨#[]⟩, .int .i64 0]) ?_ 8 _ rfl
     refine blk_put (cs := #[.string x.cookie, .string x.client, .string x.redirect, .string x.state, .string x.nonce, .string x.scope, .string x.challenge, .int .i64 0, .string ⟨#[]⟩, .string ⟨#[]⟩, .string ⟨#[]⟩, .int .i64 0]) ?_ 7 _ rfl
     refine blk_put (cs := #[.string x.cookie, .string x.client, .string x.redirect, .string x.state, .string x.nonce, .string x.scope, .string ⟨#[]⟩, .int .i64 0, .string ⟨#[]⟩, .string ⟨#[]⟩, .string ⟨#[]⟩, .int .i64 0]) ?_ 6 _ rfl
     refine blk_put (cs := #[.string x.cookie, .string x.client, .string x.redirect, .string x.state, .string x.nonce, .string ⟨#[]⟩, .string ⟨#[]⟩, .int .i64 0, .string ⟨#[]⟩, .string ⟨#[]⟩, .string ⟨#[]⟩, .int .i64 0]) ?_ 5 _ rfl
     refine blk_put (cs := #[.string x.cookie, .string x.client, .string x.redirect, .string x.state, .string ⟨#[]⟩, .string ⟨#[]⟩, .string ⟨#[]⟩, .int .i64 0, .string ⟨#[]⟩, .string ⟨#[]⟩, .string ⟨#[]⟩, .int .i64 0]) ?_ 4 _ rfl
     refine blk_put (cs := #[.string x.cookie, .string x.client, .string x.redirect, .string ⟨#[]⟩, .string ⟨#[]⟩, .string ⟨#[]⟩, .string ⟨#[]⟩, .int .i64 0, .string ⟨#[]⟩, .string ⟨#[]⟩, .string ⟨#[]⟩, .int .i64 0]) ?_ 3 _ rfl
     refine blk_put (cs := #[.string x.cookie, .string x.client, .string ⟨#[]⟩, .string ⟨#[]⟩, .string ⟨#[]⟩, .string ⟨#[]⟩, .string ⟨#[]⟩, .int .i64 0, .string ⟨#[]⟩, .string ⟨#[]⟩, .string ⟨#[]⟩, .int .i64 0]) ?_ 2 _ rfl
     refine blk_put (cs := #[.string x.cookie, .string ⟨#[]⟩, .string ⟨#[]⟩, .string ⟨#[]⟩, .string ⟨#[]⟩, .string ⟨#[]⟩, .string ⟨#[]⟩, .int .i64 0, .string ⟨#[]⟩, .string ⟨#[]⟩, .string ⟨#[]⟩, .int .i64 0]) ?_ 1 _ rfl
     refine blk_put (cs := #[.string ⟨#[]⟩, .string ⟨#[]⟩, .string ⟨#[]⟩, .string ⟨#[]⟩, .string ⟨#[]⟩, .string ⟨#[]⟩, .string ⟨#[]⟩, .int .i64 0, .string ⟨#[]⟩, .string ⟨#[]⟩, .string ⟨#[]⟩, .int .i64 0]) ?_ 0 _ rfl
     exact hz3) Tryz.underlying72 rfl (by kernel_rfl)) rfl ?_
    refine ⟨rfl, ?_⟩
    iterate 12 (with_reducible refine below_set ?_ (Nat.le_refl _))
    with_reducible exact hB3
end Go.Proofs.YtpoblffgclmmlaaGreatDoor.X
end
section
set_option linter.unusedVariables false
set_option linter.unusedSimpArgs false
namespace Go.Proofs.YtpoblffgclmmlaaGreatDoor.X
open Go.RowKit Go.WideMaps Go.Maps Go.Proofs.YtpoblffgclmmlaaGreatDoorW.PrintWords Go.Proofs.YtpoblffgclmmlaaGreatDoorW.PrintLast Go.Proofs.YtpoblffgclmmlaaGreatDoorW.PrintMore Go.Proofs.YtpoblffgclmmlaaGreatDoor.Q

theorem drop_says (c : ByteArray) (hc : c.size ≤ 1000000) (w : World) : Calls Tryz.prog 45 #[.string c] w fun e w' => e = .returned (.agg #[.string (skey c), .string ⟨#[]⟩, .bool true]) ∧ Below w.heap.size w w' :=
 seat_Drop.calls c (skey c) _ _ w (by unfold seat_Drop.f seat_Key.f; rw [if_pos (by omega)]; rfl)
end Go.Proofs.YtpoblffgclmmlaaGreatDoor.X
end
section
set_option linter.unusedVariables false
set_option linter.unusedSimpArgs false
namespace Go.Proofs.YtpoblffgclmmlaaGreatDoor.X
open Go.RowKit Go.WideMaps Go.Maps Go.Proofs.YtpoblffgclmmlaaGreatDoorW.PrintWords Go.Proofs.YtpoblffgclmmlaaGreatDoorW.PrintLast Go.Proofs.YtpoblffgclmmlaaGreatDoorW.PrintMore Go.Proofs.YtpoblffgclmmlaaGreatDoor.Q

theorem rsession_says (x : Ses) (h1 : I64 x.stage) (h2 : I64 x.ends) (hl : (txs (sesL x)).length ≤ 9223372036854775807) (w : World) :
  Calls Tryz.prog 40 #[sesV x] w fun e w' => e = .returned (.string (sesT x)) ∧ Below w.heap.size w w' := by
 obtain ⟨k1, hk1⟩ := Dec_ev x.stage h1
 obtain ⟨k2, hk2⟩ := Dec_ev x.ends h2
 refine exequaturref13_Session.calls (k1 + k2) x.cookie x.client x.redirect x.state x.nonce x.scope x.challenge x.stage x.conn x.upState x.upNonce x.ends _ w ?_
 have e1 := hk1 (k1 + k2) (by omega)
 have e2 := hk2 (k1 + k2) (by omega)
 unfold exequaturref13_Session.f
 rw [show exequaturref01_Dec.f (k1 + k2) x.stage = _ from e1, Option.bind_some, show exequaturref01_Dec.f (k1 + k2) x.ends = _ from e2, Option.bind_some]
 unfold exequaturref13_Texts.f
 rw [if_pos (by exact hl)]
 rfl
theorem ssave_says (x : Ses) (h1 : I64 x.stage) (h2 : I64 x.ends) (hc : x.cookie.size ≤ 1000000) (hl : (txs (sesL x)).length ≤ 140737488355328) (w : World) (hGP : GP w) :
  Calls Tryz.prog 43 #[sesV x] w fun e w' => e = .returned (.agg #[.string (skey x.cookie), .string (sesT x), .bool false]) ∧ Below w.heap.size w w' :=
 seat_Save.calls x.cookie x.client x.redirect x.state x.nonce x.scope x.challenge x.stage x.conn x.upState x.upNonce x.ends _ _ _ w (by
  unfold I64 at h1 h2
  unfold seat_Save.f seat_Key.f row_Session.f strconv_Itoa_143.f row_Texts.f
  rw [if_pos (by omega), Option.bind_some, if_pos (by omega), Option.bind_some, if_pos (by omega), Option.bind_some]
  show (Option.bind (Option.bind (if (txs (sesL x)).length ≤ 140737488355328 then some (sesT x) else none) fun t => some t) fun t => some (skey x.cookie, t, false)) = some (skey x.cookie, sesT x, false)
  rw [if_pos hl]
  rfl) hGP
theorem find_one (x : Ses) (h1 : I64 x.stage) (h2 : I64 x.ends) (now : Int) : findS [⟨skey x.cookie, sesT x⟩] x.cookie now = if x.ends ≤ now then none else some x := by
 unfold findS
 rw [show getR [(⟨skey x.cookie, sesT x⟩ : S82)] (skey x.cookie) = some (sesT x) by simp [getR], Option.bind_some, readS_of x h1 h2, Option.bind_some]
theorem one_v {K V : ByteArray} (h : V.size ≤ 4294967280) : ∀ k v, getR [(⟨K, V⟩ : S82)] k = some v → v.size ≤ 4294967280 := by
 intro k v hv
 unfold getR at hv
 rw [List.find?_cons] at hv
 split at hv
 ·
  simp at hv; rw [← hv]; exact h
 ·
  simp at hv
theorem sesT_size (x : Ses) : (sesT x).size = (txs (sesL x)).length := by unfold sesT; exact mkB_size _
def sesA (c : ByteArray) (ends : Int) : Ses := ⟨c, ⟨#[]⟩, ⟨#[]⟩, ⟨#[]⟩, ⟨#[]⟩, ⟨#[]⟩, ⟨#[]⟩, 0, ⟨#[]⟩, ⟨#[]⟩, ⟨#[]⟩, ends⟩
theorem sesA_len (c : ByteArray) (ends : Int) (hc : c.size ≤ 5000) (he : I64 ends) : (txs (sesL (sesA c ends))).length ≤ 6000 := by
 have h := txsLen (sesL (sesA c ends)) (by
  intro y hy
  simp only [sesL, sesA, List.mem_cons, List.not_mem_nil, or_false] at hy
  have h0 := itB_size (v := 0) (by unfold I64; omega)
  have h1 := itB_size he
  rcases hy with e | e | e | e | e | e | e | e | e | e | e | e <;> subst e <;> first | omega | (show (0 : Nat) < _; omega))
 have h0 := itB_size (v := 0) (by unfold I64; omega)
 have h1 := itB_size he
 simp only [sesL, sesA, List.length_cons, List.length_nil, List.map_cons, List.map_nil, List.sum_cons, List.sum_nil] at h
 have hz : (⟨#[]⟩ : ByteArray).size = 0 := rfl
 simp only [hz] at h
 simp only [sesL, sesA]
 omega
theorem storedB_one (K V : ByteArray) (h : K.size + V.size ≤ 19000) (g : Bool) : storedB [(⟨K, V, g⟩ : S69)] = true := by
 unfold storedB
 refine decide_eq_true ?_
 simp [wgtS]; omega
set_option maxHeartbeats 4000000 in
set_option maxRecDepth 100000 in
theorem answers19_says (w : World) (hGL : GL w) (hGP : GP w) (hGE : GE w) : Calls Tryz.prog 41 #[] w fun e w' => e = .returned (.bool true) ∧ Below w.heap.size w w' := by
 have hi0 : I64 (sesA ⟨#[97]⟩ 5).stage := by show I64 0; unfold I64; omega
 have hi5 : I64 (sesA ⟨#[97]⟩ 5).ends := by show I64 5; unfold I64; omega
 have hln := sesA_len ⟨#[97]⟩ 5 (by show 1 ≤ _; omega) hi5
 have hsv := ssave_says (sesA ⟨#[97]⟩ 5) hi0 hi5 (by show 1 ≤ _; omega) (by omega) w hGP
 have hf1 := find_one (sesA ⟨#[97]⟩ 5) hi0 hi5 4
 have hf2 := find_one (sesA ⟨#[97]⟩ 5) hi0 hi5 5
 rw [if_neg (by show ¬ (5 : Int) ≤ 4; omega)] at hf1
 rw [if_pos (by show (5 : Int) ≤ 5; omega)] at hf2
 have hks := skey_size (sesA ⟨#[97]⟩ 5).cookie
 have hVs := sesT_size (sesA ⟨#[97]⟩ 5)
 have hcs : (sesA ⟨#[97]⟩ 5).cookie.size = 1 := rfl
 have hsb := storedB_one (skey (sesA ⟨#[97]⟩ 5).cookie) (sesT (sesA ⟨#[97]⟩ 5)) (by omega) false
 have hov := one_v (K := skey (sesA ⟨#[97]⟩ 5).cookie) (V := sesT (sesA ⟨#[97]⟩ 5)) (by omega)
 have hto : turnR [] [⟨skey (sesA ⟨#[97]⟩ 5).cookie, sesT (sesA ⟨#[97]⟩ 5), false⟩] = [⟨skey (sesA ⟨#[97]⟩ 5).cookie, sesT (sesA ⟨#[97]⟩ 5)⟩] := rfl
 have hfd := fun B s N now w' (hS : StW B w' s [⟨skey (sesA ⟨#[97]⟩ 5).cookie, sesT (sesA ⟨#[97]⟩ 5)⟩] N) (hG : GP w') (hG2 : GE w') => find_says B s N [⟨skey (sesA ⟨#[97]⟩ 5).cookie, sesT (sesA ⟨#[97]⟩ 5)⟩] (sesA ⟨#[97]⟩ 5).cookie now (by show 1 ≤ _; omega) (hov _) w' hS hG hG2
 have hfd1 := fun B s N w' hS hG hG2 => hfd B s N 4 w' hS hG hG2
 have hfd2 := fun B s N w' hS hG hG2 => hfd B s N 5 w' hS hG hG2
 rw [hf1] at hfd1
 rw [hf2] at hfd2
 have hst := fun w1 (hb : Below w.heap.size w w1) A c hC hc => stored19_says w1 A c [⟨skey (sesA ⟨#[97]⟩ 5).cookie, sesT (sesA ⟨#[97]⟩ 5), false⟩] hC hc (by simp) (by intro x hx; simp only [List.mem_singleton] at hx; subst hx; simp only; omega) (hGL.below hb)
 simp only [hsb, hto] at hst
 have hck : (sesA ⟨#[97]⟩ 5).cookie = ⟨#[97]⟩ := rfl
 generalize skey (sesA ⟨#[97]⟩ 5).cookie = K at *
 generalize sesT (sesA ⟨#[97]⟩ 5) = V at *
 rw [hck] at hfd1 hfd2
 simp only [sesV, sesA, Option.getD_some, Option.getD_none, Option.isSome_some, Option.isSome_none, sesZ] at hsv hfd1 hfd2
 clear hfd hf1 hf2 hov hsb hto hln hks hVs hcs hi0 hi5 hck
 go_enter Tryz.func41, Tryz.ntmps41
 go_wp2_with fail
 refine hsv.mono ?_
 rintro e w1 ⟨rfl, hb1⟩
 clear hsv
 have hB2 := below_alloc hb1 (.cells #[.string K, .string V, .bool false] 69)
 have hM := C_made (d := k69) (e := 69) w1 [(⟨K, V, false⟩ : S69)] [.string K, .string V, .bool false] (show (1 : Nat) ≤ maxLen by decide) (Reps.c3 (k69_mkM _ _ _ (⟨K, V, false⟩ : S69)) (Reps.none _ _))
 have hMr := Kd.R_reads' hM
 go_wp2_with fail
 refine (hst _ hB2 _ 1 hMr.2.2 (Nat.le_refl _)).mono ?_
 clear hM hMr hst
 generalize w1.alloc (.cells #[.string K, .string V, .bool false] 69) = w2 at hB2 ⊢
 rintro e w3 ⟨hb3, ⟨hsb, _⟩ | ⟨hsb, s, v, rfl, hS, hR⟩⟩
 ·
  cases hsb
 ·
  obtain ⟨Av, cv, rfl, _⟩ := hR.slice
  have hB3 := below_then hB2 hB2.size hb3
  go_wp2_with fail
  refine (hfd1 _ s _ w3 hS (hGP.below hB3) (hGE.below hB3)).mono ?_
  rintro e w4 ⟨rfl, hb4⟩
  have hB4 := below_then hB3 hB3.size hb4
  have hS4 := (hS.below hb4).below (below_alloc (Below.refl _ w4) (.cells #[.string ⟨#[97]⟩, .string ⟨#[]⟩, .string ⟨#[]⟩, .string ⟨#[]⟩, .string ⟨#[]⟩, .string ⟨#[]⟩, .string ⟨#[]⟩, .int .i64 0, .string ⟨#[]⟩, .string ⟨#[]⟩, .string ⟨#[]⟩, .int .i64 5] 72))
  have hB5 := below_alloc hB4 (.cells #[.string ⟨#[97]⟩, .string ⟨#[]⟩, .string ⟨#[]⟩, .string ⟨#[]⟩, .string ⟨#[]⟩, .string ⟨#[]⟩, .string ⟨#[]⟩, .int .i64 0, .string ⟨#[]⟩, .string ⟨#[]⟩, .string ⟨#[]⟩, .int .i64 5] 72)
  have hz := heap_alloc_new w4 (.cells #[.string ⟨#[97]⟩, .string ⟨#[]⟩, .string ⟨#[]⟩, .string ⟨#[]⟩, .string ⟨#[]⟩, .string ⟨#[]⟩, .string ⟨#[]⟩, .int .i64 0, .string ⟨#[]⟩, .string ⟨#[]⟩, .string ⟨#[]⟩, .int .i64 5] 72)
  go_wp2_with fail
  refine (hfd2 _ s _ _ hS4 (hGP.below hB5) (hGE.below hB5)).mono ?_
  clear hfd1 hfd2
  generalize w4.alloc (.cells #[.string ⟨#[97]⟩, .string ⟨#[]⟩, .string ⟨#[]⟩, .string ⟨#[]⟩, .string ⟨#[]⟩, .string ⟨#[]⟩, .string ⟨#[]⟩, .int .i64 0, .string ⟨#[]⟩, .string ⟨#[]⟩, .string ⟨#[]⟩, .int .i64 5] 72) = w5 at hS4 hB5 hz ⊢
  rintro e w6 ⟨rfl, hb6⟩
  have hB6 := below_then hB5 hB5.size hb6
  have hz6 := blk_below (blk_below hz hb6) (below_alloc (Below.refl _ w6) (.cells #[.string ⟨#[]⟩, .string ⟨#[]⟩, .string ⟨#[]⟩, .string ⟨#[]⟩, .string ⟨#[]⟩, .string ⟨#[]⟩, .string ⟨#[]⟩, .int .i64 0, .string ⟨#[]⟩, .string ⟨#[]⟩, .string ⟨#[]⟩, .int .i64 0] 72))
  have c11 : (w6.alloc (.cells #[.string ⟨#[]⟩, .string ⟨#[]⟩, .string ⟨#[]⟩, .string ⟨#[]⟩, .string ⟨#[]⟩, .string ⟨#[]⟩, .string ⟨#[]⟩, .int .i64 0, .string ⟨#[]⟩, .string ⟨#[]⟩, .string ⟨#[]⟩, .int .i64 0] 72)).cell? ⟨w4.heap.size, 11, none⟩ = some (.int .i64 5) := (blk_cell hz6 11).trans rfl
  go_wp2_with fail
  go_ret
  exact ⟨rfl, below_alloc hB6 _⟩
end Go.Proofs.YtpoblffgclmmlaaGreatDoor.X
end
section
set_option linter.unusedVariables false
set_option linter.unusedSimpArgs false
namespace Go.Proofs.YtpoblffgclmmlaaGreatDoor.X
open Go.RowKit Go.WideMaps Go.Maps Go.Proofs.YtpoblffgclmmlaaGreatDoorW.PrintWords Go.Proofs.YtpoblffgclmmlaaGreatDoorW.PrintLast Go.Proofs.YtpoblffgclmmlaaGreatDoorW.PrintMore Go.Proofs.YtpoblffgclmmlaaGreatDoor.Q

theorem i64_of_wf {n : Int} (h : (Lit.int .i64 n).wf = true) : I64 n := by
 simp [Lit.wf, IntKind.min, IntKind.max, IntKind.bits, IntKind.signed] at h
 unfold I64
 omega
end Go.Proofs.YtpoblffgclmmlaaGreatDoor.X
end
section
set_option linter.unusedVariables false
set_option linter.unusedSimpArgs false
namespace Go.Proofs.YtpoblffgclmmlaaGreatDoor.X
open Go.RowKit Go.WideMaps Go.Maps Go.Proofs.YtpoblffgclmmlaaGreatDoorW.PrintWords Go.Proofs.YtpoblffgclmmlaaGreatDoorW.PrintLast Go.Proofs.YtpoblffgclmmlaaGreatDoorW.PrintMore Go.Proofs.YtpoblffgclmmlaaGreatDoor.Q

theorem turn_one (K U : ByteArray) : turnR [] [⟨K, U, false⟩] = [⟨K, U⟩] := rfl
theorem turn_gone1 (K U : ByteArray) : turnR [⟨K, U⟩] [⟨K, ⟨#[]⟩, true⟩] = [] := by
 show turn1 [⟨K, U⟩] ⟨K, ⟨#[]⟩, true⟩ = []
 rw [turn1_gone _ _ rfl]
 simp [other]
theorem rec_one (K U : ByteArray) (g : Bool) (h : K.size + U.size ≤ 30000) : (recL [(⟨K, U, g⟩ : S69)]).length ≤ 32768 := by
 have := recL_small [(⟨K, U, g⟩ : S69)]
 simp [wgtS] at this
 omega
theorem wgtC_one (K U : ByteArray) (g : Bool) : wgtC [(⟨K, U, g⟩ : S69)] = 12 + K.size + U.size := by simp [wgtC]
/-- A block of another type stays, whatever a store does. -/
theorem TurO.blk {base : Nat} {w w' : World} (h : TurO base w w') {k ty : Nat} {cs : Array Value} {fz : Nat × Nat} (hc : w.heap[k]? = some (.cells cs ty fz)) (h1 : ty ≠ 119) (h2 : ty ≠ 125) (h3 : ty ≠ 5) : w'.heap[k]? = some (.cells cs ty fz) := by
 obtain ⟨S, hS, hk⟩ := h
 have hlt : k < w.heap.size := (Array.getElem?_eq_some_iff.1 hc).1
 rw [← hc]
 refine hS.kept.2 k hlt (fun hs => ?_)
 rcases (hk k hs).2 with ⟨cs', h⟩ | ⟨cs', h⟩ | ⟨cs', h⟩ <;> rw [hc] at h <;> simp only [Option.some.injEq, Obj.cells.injEq] at h
 ·
  exact h1 h.2.1
 ·
  exact h2 h.2.1
 ·
  exact h3 h.2.1
/-- A cell of another type may be set beside a store. -/
theorem StW.set {base s N : Nat} {w : World} {r : List S82} (h : StW base w s r N) {g ty : Nat} {cs : Array Value} (hg : w.heap[g]? = some (.cells cs ty (0, 0))) (n1 : ty ≠ 119) (n2 : ty ≠ 125) (n3 : ty ≠ 5) (i : Nat) (v : Value) : StW base (w.setCell ⟨g, i, none⟩ v) s r N := by
 obtain ⟨t, T, ls, ⟨m, n, D, u, h1, h2, h3, h4⟩, h5⟩ := h
 have hk : Tur w (w.setCell ⟨g, i, none⟩ v) (fun k => k = g) := (Tur.refl w (fun k => k = g)).setCell (p := ⟨g, i, none⟩) (S := fun k => k = g) (.inl rfl) v
 refine ⟨t, T, ls, ⟨m, n, D, u, h1.kept hk ?_ ?_, TapeAt.kept h2 hk ?_ ?_, h3, h4⟩, h5⟩
 ·
  exact blk_ne_ty h1.blk hg (fun e => n2 e.symm)
 ·
  exact h1.map.ne hg
 ·
  exact blk_ne_ty (TapeAt.blk h2) hg (fun e => n1 e.symm)
 ·
  intro k hk2 he
  subst he
  exact TpAt.ne_cells h2 hg (fun e => n3 e.symm) hk2
end Go.Proofs.YtpoblffgclmmlaaGreatDoor.X
end
