/- A part of the proof of a card: what some functions of the program come to, each under the conditions that its theorem names. -/
import Derived.Deep.Slices
import Derived.Deep.Fields
import Derived.ChangeSame
import Derived.Deep.RegionHeld3
import Derived.Test.YtpoblffgclmmlaaGreatDoorPkPk0
import Derived.Test.YtpoblffgclmmlaaGreatDoorPkPk3
import Derived.Test.YtpoblffgclmmlaaGreatDoorPkPk5
import Derived.Test.YtpoblffgclmmlaaGreatDoorPkPk12
import Derived.Test.YtpoblffgclmmlaaGreatDoorPkPk13
import Derived.Test.YtpoblffgclmmlaaGreatDoorPkPk16
import Derived.Test.YtpoblffgclmmlaaGreatDoorPkPk17
section
set_option linter.unusedVariables false
set_option linter.unusedSimpArgs false
namespace Go.Proofs.YtpoblffgclmmlaaGreatDoor.X
open Go.RowKit Go.WideMaps Go.Maps Go.Proofs.YtpoblffgclmmlaaGreatDoorW.PrintWords Go.Proofs.YtpoblffgclmmlaaGreatDoorW.PrintLast Go.Proofs.YtpoblffgclmmlaaGreatDoorW.PrintMore Go.Proofs.YtpoblffgclmmlaaGreatDoor.Q

theorem drop_cons {α : Type} (l : List α) (i : Nat) (h : i < l.length) (z : α) : l.drop i = l.getD i z :: l.drop (i + 1) := by
 rw [List.drop_eq_getElem_cons h]
 simp [List.getD_eq_getElem?_getD, List.getElem?_eq_getElem h]
theorem preB_iff (s p : ByteArray) : preB s p = (decide (p.size ≤ s.size) && decide ((s.extract 0 p.size).toList = p.toList)) := by
 have h1 : (s.extract 0 p.size).data.toList = s.data.toList.take p.size := by simp
 rw [show decide ((s.extract 0 p.size).toList = p.toList) = decide (s.data.toList.take p.size = p.data.toList) by rw [decide_eq_decide, bytes_list, h1]]
 have hp : p.data.toList.length = p.size := by simp
 have hs : s.data.toList.length = s.size := by simp
 unfold preB Lib.hasPrefix
 rw [Bool.eq_iff_iff, Bool.and_eq_true, decide_eq_true_eq, decide_eq_true_eq, List.isPrefixOf_iff_prefix, List.prefix_iff_eq_take, hp]
 constructor
 ·
  intro h
  refine ⟨?_, h.symm⟩
  have := congrArg List.length h
  rw [List.length_take, hp, hs] at this
  omega
 ·
  intro h; exact h.2.symm
/-- How long the texts of changes are. -/
def wgtS (l : List S69) : Nat := (l.map fun x => x.f0.size + x.f1.size).sum
/-- Small changes make a small record. -/
theorem recL_small (l : List S69) : (recL l).length ≤ 4 + 12 * l.length + wgtS l := by
 unfold recL wgtS
 rw [List.length_append, four_len]
 have : (l.flatMap chgL).length ≤ 12 * l.length + (l.map fun x => x.f0.size + x.f1.size).sum := by
  induction l with
  | nil => simp
  | cons c l ih =>
   rw [List.flatMap_cons, List.length_append, chgL_len]
   simp only [List.length_cons, List.map_cons, List.sum_cons]
   split <;> omega
 omega
theorem wgtC_small (l : List S69) : wgtC l = 12 * l.length + wgtS l := by
 unfold wgtC wgtS
 induction l with
 | nil => rfl
 | cons c l ih => simp only [List.length_cons, List.map_cons, List.sum_cons]; omega
end Go.Proofs.YtpoblffgclmmlaaGreatDoor.X
namespace Go.Proofs.YtpoblffgclmmlaaGreatDoor.X
open Go.RowKit Go.WideMaps Go.Maps Go.Proofs.YtpoblffgclmmlaaGreatDoorW.PrintWords Go.Proofs.YtpoblffgclmmlaaGreatDoorW.PrintLast Go.Proofs.YtpoblffgclmmlaaGreatDoorW.PrintMore Go.Proofs.YtpoblffgclmmlaaGreatDoor.Q

def allR (r : List S82) : List S69 := r.map fun x => (⟨x.f0, x.f1, false⟩ : S69)
def TapeS.renewR (T : TapeS) (r : List S82) : TapeS × Int :=
 if 32768 < (recL (allR r)).length ∨ 65536 < (frameL (recL (allR r))).length then (T, 7) else T.swap (frameL (recL (allR r)))
/-- What Do does to the tape, and what it answers. -/
def doR (T : TapeS) (r : List S82) (l : List S69) : TapeS × Int :=
 if l.length = 0 then (T, 0) else if 32768 < (recL l).length then (T, 3) else
 if 65536 < (frameL (recL l)).length + T.b.length then T.renewR (turnR r l) else T.append (frameL (recL l))
theorem doR_eq {D : DataW Unit} {r : List S82} (h : Mir D r) (T : TapeS) (l : List S69) : doT T D l = doR T r l := by
 unfold doT doR TapeS.renew TapeS.renewR allR
 rw [(h.turn l).all]
theorem recAll_len (r : List S82) : (recL (allR r)).length = 4 + wgt r := by
 unfold recL wgt allR
 rw [List.length_append, four_len, List.flatMap_map]
 congr 1
 induction r with
 | nil => rfl
 | cons x r ih =>
  rw [List.flatMap_cons, List.length_append, ih, chgL_len]
  simp
/-- What a call may turn: blocks behind base, of a tape, a store, or bytes. -/
def TurO (base : Nat) (w w' : World) : Prop := ∃ S : Nat → Prop, Tur w w' S ∧ ∀ k, S k → base ≤ k ∧ ((∃ cs, w.heap[k]? = some (.cells cs 119 (0, 0))) ∨ (∃ cs, w.heap[k]? = some (.cells cs 125 (0, 0))) ∨ (∃ cs, w.heap[k]? = some (.cells cs 5 (0, 0))))
theorem TurO.below {base : Nat} {w w' : World} (h : TurO base w w') (hb : base ≤ w.heap.size) : Below base w w' := by
 obtain ⟨S, hS, hk⟩ := h
 exact hS.toBelow hb (fun k h => (hk k h).1)
theorem TurO.of_below {base : Nat} {w w' : World} (h : Below w.heap.size w w') : TurO base w w' := ⟨fun _ => False, Tur.of_below h _, fun _ h => h.elim⟩
theorem TurO.size {base : Nat} {w w' : World} (h : TurO base w w') : w.heap.size ≤ w'.heap.size := by
 obtain ⟨S, hS, _⟩ := h
 exact hS.kept.1
/-- A row of another type stays. -/
theorem R_turO {α : Type} {d : Kd α} {e base b : Nat} {w w' : World} {v : Value} {xs : List α} (h : TurO base w w') (hr : Kd.R d e w b (fun _ => True) v xs) (hE : ∀ x cs, d.M w b (fun _ => False) x cs ∨ True) (h1 : e ≠ 119) (h2 : e ≠ 125) (h3 : e ≠ 5)
  (hm : ∀ ok, Kd.R d e w b ok v xs → Kd.R d e w b (fun k => v.ownBlock = some k) v xs) : Kd.R d e w' b (fun _ => True) v xs := by
 obtain ⟨S, hS, hk⟩ := h
 refine Kd.R_mono (Kd.R_kept (hm _ hr) hS.kept ?_) (fun _ _ => trivial)
 intro k hv hs
 obtain ⟨cells, hc⟩ := Kd.R_typed hr k hv
 rcases (hk k hs).2 with ⟨cs, h⟩ | ⟨cs, h⟩ | ⟨cs, h⟩ <;> rw [hc] at h <;> simp only [Option.some.injEq, Obj.cells.injEq] at h
 ·
  exact h1 h.2.1
 ·
  exact h2 h.2.1
 ·
  exact h3 h.2.1
theorem R_own79 {e : Nat} {W : World} {base : Nat} {ok : Nat → Prop} {v : Value} {xs : List S82} (h : Kd.R k82 e W base ok v xs) : Kd.R k82 e W base (fun k => v.ownBlock = some k) v xs := by
 obtain ⟨h0, inner, ho, hr⟩ := h
 exact ⟨fun k hk => hk, inner, ho, hr.imp_ (fun x cs hp => by rw [k82_openM hp]; exact k82_mkM _ _ _ x)⟩
theorem rows_turO {base b : Nat} {w w' : World} {v : Value} {xs : List S82} (h : TurO base w w') (hr : Kd.R k82 82 w b (fun _ => True) v xs) : Kd.R k82 82 w' b (fun _ => True) v xs :=
 R_turO h hr (fun _ _ => .inr trivial) (by decide) (by decide) (by decide) (fun _ h => R_own79 h)
/-- A store and its tape: rows, and what stands on the tape. -/
def Sto (base : Nat) (w : World) (s t : Nat) (T : TapeS) (r : List S82) (N : Nat) : Prop :=
 ∃ m n D v, StoreAt w base s t m n D ∧ TpAt w base t v T ∧ Mir D r ∧ n ≤ N
theorem Sto.below {base s t N : Nat} {w w' : World} {T : TapeS} {r : List S82} (h : Sto base w s t T r N) (hb : Below w.heap.size w w') : Sto base w' s t T r N := by
 obtain ⟨m, n, D, v, h1, h2, h3, h4⟩ := h
 exact ⟨m, n, D, v, h1.kept (Tur.of_below hb (fun _ => False)) (fun h => h) (fun h => h), TapeAt.kept h2 (Tur.of_below hb (fun _ => False)) (fun h => h) (fun _ _ h => h), h3, h4⟩
theorem Sto.mono {base s t N N' : Nat} {w : World} {T : TapeS} {r : List S82} (h : Sto base w s t T r N) (hN : N ≤ N') : Sto base w s t T r N' := by
 obtain ⟨m, n, D, v, h1, h2, h3, h4⟩ := h
 exact ⟨m, n, D, v, h1, h2, h3, Nat.le_trans h4 hN⟩
theorem Sto.ge {base s t N : Nat} {w : World} {T : TapeS} {r : List S82} (h : Sto base w s t T r N) : base ≤ s ∧ base ≤ t := by
 obtain ⟨m, n, D, v, h1, h2, h3, h4⟩ := h
 exact ⟨h1.ge, h2.ge⟩
/-- What a text has as its row. -/
def getR (r : List S82) (key : ByteArray) : Option ByteArray := (r.find? fun x => decide (x.f0 = key)).map fun x => x.f1
theorem getR_has {D : DataW Unit} {r : List S82} (h : Mir D r) (key : ByteArray) : hasS D key = (getR r key).isSome := by
 unfold getR
 rw [Bool.eq_iff_iff, h.has key, Option.isSome_map, List.find?_isSome]
 simp
theorem getR_val {D : DataW Unit} {r : List S82} (h : Mir D r) (key : ByteArray) (v : ByteArray) (hv : getR r key = some v) : valS D key = v := by
 unfold getR at hv
 rw [Option.map_eq_some_iff] at hv
 obtain ⟨x, hx, rfl⟩ := hv
 have h1 := List.mem_of_find?_eq_some hx
 have h2 := List.find?_some hx
 simp only [decide_eq_true_eq] at h2
 rw [← h2]; exact h.val x h1
theorem getR_none {D : DataW Unit} {r : List S82} (h : Mir D r) (key : ByteArray) (hv : getR r key = none) : valS D key = ⟨#[]⟩ := by
 have h1 := getR_has h key
 rw [hv] at h1
 obtain ⟨es, hes, _⟩ := h.tidy
 subst hes
 unfold hasS at h1
 unfold valS
 have : (DataW.map es).atKey (kb key) (.lit (.string [])) = .lit (.string []) := by
  unfold Maps.has at h1
  unfold DataW.atKey
  simp only [Option.isSome_none] at h1
  cases hf : es.find? (fun p => p.1.sameKey (kb key)) with
  | none => simp [hf]
  | some p =>
   exfalso
   have hp := List.mem_of_find?_eq_some hf
   have hp2 := List.find?_some hf
   have : es.any (fun p => p.1.sameKey (kb key)) = true := List.any_eq_true.2 ⟨p, hp, hp2⟩
   simp_all
 rw [this]
theorem sget_says (base s t N : Nat) (T : TapeS) (r : List S82) (key : ByteArray) (hk : key.size ≤ maxLen) (w : World) (h : Sto base w s t T r N) :
  Calls Tryz.prog 79 #[.pointer (some ⟨s, 0, none⟩), .string key] w fun e w' => e = .returned (.tuple #[.string ((getR r key).getD ⟨#[]⟩), .bool (getR r key).isSome]) ∧ w' = w := by
 obtain ⟨m, n, D, v, h1, h2, h3, h4⟩ := h
 have hg := get_says base s t m n D key hk w h1
 rw [getR_has h3 key] at hg
 cases hv : getR r key with
 | none => rw [hv, getR_none h3 key hv] at hg; exact hg
 | some x => rw [hv, getR_val h3 key x hv] at hg; exact hg
theorem skeys_says (base s t N : Nat) (T : TapeS) (r : List S82) (key : ByteArray) (w : World) (h : Sto base w s t T r N) (hN : N ≤ 3400000000000) :
  Calls Tryz.prog 53 #[.pointer (some ⟨s, 0, none⟩), .string key] w fun e w' => ∃ v, e = .returned v ∧ Kd.R Kd.string 9 w' w.heap.size (fun _ => True) v ((r.map fun x => x.f0).filter fun k => preB k key) ∧ Below w.heap.size w w' := by
 obtain ⟨m, n, D, v, h1, h2, h3, h4⟩ := h
 have hg := keys_says base s t m n D key w h1 (by omega)
 rw [h3.keys] at hg
 exact hg
theorem sdo_says (s t N : Nat) (T : TapeS) (r : List S82) (A : Option Addr) (c : Nat) (l : List S69) (w0 w : World) (hGL : GL w0) (hB : Below w0.heap.size w0 w) (h : Sto w0.heap.size w s t T r N) (hG : T.Good) (hC : Kd.C k69 w A l.length l) (hcl : l.length ≤ c)
  (hn : N + l.length ≤ 3400000000000) (hl : 4 + wgt r + wgtC l ≤ 80000000) (hTl : T.b.length ≤ 1000000) (hx : ∀ x ∈ l, x.f0.size ≤ maxLen ∧ x.f1.size ≤ maxLen) :
  Calls Tryz.prog 25 #[.pointer (some ⟨s, 0, none⟩), .slice A l.length c] w fun e w' =>
   e = .returned (.int .i64 (doR T r l).2) ∧ TurO w0.heap.size w w' ∧ Sto w0.heap.size w' s t (doR T r l).1 (if (doR T r l).2 = 0 then turnR r l else r) (N + l.length) := by
 obtain ⟨m, n, D, v, h1, h2, h3, h4⟩ := h
 have hwl : l.length ≤ wgtC l := by rw [wgtC_small]; omega
 have hrl : (recL l).length ≤ 4 + wgtC l := by rw [wgtC_small]; have := recL_small l; omega
 have hd := do_says w0.heap.size s t m n D v T A c l w0 w hGL hB h1 h2 hG hC hcl (by omega) (by omega) (by omega) hTl hx (by
  have := (h3.turn l).recs
  have := wgt_turn h3.ris l
  omega) hB.size
 refine hd.mono ?_
 rintro e w' ⟨he, hk, m', n', v', hS, hn', hT, hv⟩
 rw [doR_eq h3] at he hT
 refine ⟨he, ⟨_, hk, ?_⟩, m', n', _, v', hS, hT, ?_, by omega⟩
 ·
  rintro k (h | h | h)
  ·
   exact ⟨h ▸ h1.ge, .inr (.inl ⟨_, h ▸ h1.blk⟩)⟩
  ·
   exact ⟨h ▸ h2.ge, .inl ⟨_, h ▸ h2.blk⟩⟩
  ·
   obtain ⟨hb, cells, hc⟩ := h2.row.typed k h
   exact ⟨hb, .inr (.inr ⟨cells, hc⟩)⟩
 ·
  unfold doD
  rw [doR_eq h3]
  split
  ·
   exact h3.turn l
  ·
   exact h3
/-- A tape that has whole records, and something that is none behind them. -/
structure Lay (T : TapeS) (ls : List (List S69)) (junk : List Int) : Prop where
 b : T.b = fr (ls.map recL) ++ junk
 none : (oneL junk).2 = false
 sm : ∀ l ∈ ls, (recL l).length ≤ 32768
theorem chg_mem {l : List S69} {c : S69} (h : c ∈ l) : 12 + c.f0.size + (if c.f2 = true then 0 else c.f1.size) ≤ (recL l).length := by
 unfold recL
 rw [List.length_append]
 have : (chgL c).length ≤ (l.flatMap chgL).length := by
  induction l with
  | nil => cases h
  | cons y l ih =>
   rw [List.flatMap_cons, List.length_append]
   rcases List.mem_cons.1 h with h | h
   ·
    rw [h]; omega
   ·
    have := ih h; omega
 rw [chgL_len] at this
 omega
theorem recs_len {l : List S69} : 4 + 12 * l.length ≤ (recL l).length := by
 unfold recL
 rw [List.length_append, four_len]
 have : 12 * l.length ≤ (l.flatMap chgL).length := by
  induction l with
  | nil => simp
  | cons y l ih => rw [List.flatMap_cons, List.length_append, chgL_len, List.length_cons]; omega
 omega
theorem norm_small {l : List S69} (h : (recL l).length ≤ 32768) : ∀ c ∈ l.map normC, c.f0.size < 4294967296 ∧ c.f1.size < 4294967296 := by
 intro c hc
 obtain ⟨x, hx, rfl⟩ := List.mem_map.1 hc
 have := chg_mem hx
 obtain ⟨k, v, g⟩ := x
 cases g with
 | false => simp [normC] at this ⊢; omega
 | true => exact ⟨by simp [normC] at this ⊢; omega, by show (⟨#[]⟩ : ByteArray).size < _; decide⟩
def foldR (ls : List (List S69)) : List S82 := ls.foldl turnR []
theorem mir_fold (ls : List (List S69)) {D : DataW Unit} {r : List S82} (h : Mir D r) : Mir (ls.foldl turnD D) (ls.foldl turnR r) := by
 induction ls generalizing D r with
 | nil => exact h
 | cons l ls ih => exact ih (h.turn l)
theorem Lay.split {T : TapeS} {ls : List (List S69)} {junk : List Int} (h : Lay T ls junk) : splitL T.b = (ls.map recL, (fr (ls.map recL)).length) := by
 rw [h.b]
 exact splitL_frames _ _ (by intro a ha; obtain ⟨l, hl, rfl⟩ := List.mem_map.1 ha; exact h.sm l hl) h.none
theorem Lay.opens {T : TapeS} {ls : List (List S69)} {junk : List Int} (h : Lay T ls junk) : openD (splitL T.b).1 (.map []) = some (ls.foldl turnD (.map [])) := by
 rw [h.split]
 have e : ls.map recL = (ls.map fun l => l.map normC).map recL := by rw [List.map_map]; exact List.map_congr_left fun l _ => (recL_norm l).symm
 show openD (ls.map recL) _ = _
 rw [e, openD_recs _ _ ?_]
 ·
  congr 1
  rw [List.foldl_map]
  congr 1
  funext D l; exact turnD_norm D l
 ·
  intro l hl
  obtain ⟨x, hx, rfl⟩ := List.mem_map.1 hl
  have h1 := h.sm x hx
  have h2 := recs_len (l := x)
  exact ⟨by rw [List.length_map]; omega, norm_small h1⟩
theorem Lay.opened {T : TapeS} {ls : List (List S69)} {junk : List Int} (h : Lay T ls junk) : T.opened = ⟨fr (ls.map recL), if junk = [] then T.sure else ((fr (ls.map recL)).length : Int), -1, false⟩ := by
 have hs := h.split
 unfold TapeS.opened
 rw [hs]
 simp only
 rw [show T.b.take (fr (ls.map recL)).length = fr (ls.map recL) by rw [h.b]; exact List.take_left]
 congr 1
 have hl : T.b.length = (fr (ls.map recL)).length + junk.length := by rw [h.b, List.length_append]
 by_cases hj : junk = []
 ·
  rw [if_pos hj, if_neg (by rw [hl, hj]; simp)]
 ·
  have := List.length_pos_iff.2 hj
  rw [if_neg hj, if_pos (by omega)]
/-- Open, where the tape has records. -/
theorem sopen_says (t : Nat) (v : Value) (T : TapeS) (ls : List (List S69)) (junk : List Int) (hL : Lay T ls junk) (hf : T.fuse = -1) (hd : T.down = false) (w0 w : World) (hGL : GL w0) (hB : Below w0.heap.size w0 w) (hT : TpAt w w0.heap.size t v T) (hG : T.Good) :
  Calls Tryz.prog 19 #[.pointer (some ⟨t, 0, none⟩)] w fun e w' => Tur w w' (fun k => k = t) ∧
   ∃ s, e = .returned (.tuple #[.pointer (some ⟨s, 0, none⟩), .int .i64 0]) ∧ w.heap.size ≤ s ∧ Sto w0.heap.size w' s t T.opened (foldR ls) 3300000000000 := by
 refine (topen_ok t v T hf hd _ hL.opens w0 w hGL hB hT hG).mono ?_
 rintro e w' ⟨hk, s, m, n, v', h1, h2, h3, h4, h5⟩
 exact ⟨hk, s, h1, h2.ge, m, n, _, v', h2.lower hB.size, h4, mir_fold ls Mir.empty, h3⟩
theorem Lay.new : Lay TapeS.new [] [] := ⟨rfl, oneL_nil, by simp⟩
theorem snew_says (w0 w : World) (hGL : GL w0) (hB : Below w0.heap.size w0 w) (t : Nat) (v : Value) (hT : TpAt w w0.heap.size t v TapeS.new) :
  Calls Tryz.prog 19 #[.pointer (some ⟨t, 0, none⟩)] w fun e w' => Tur w w' (fun k => k = t) ∧
   ∃ s, e = .returned (.tuple #[.pointer (some ⟨s, 0, none⟩), .int .i64 0]) ∧ w.heap.size ≤ s ∧ Sto w0.heap.size w' s t TapeS.new [] 3300000000000 :=
 sopen_says t v TapeS.new [] [] Lay.new rfl rfl w0 w hGL hB hT TapeS.new_good
end Go.Proofs.YtpoblffgclmmlaaGreatDoor.X
end
section
set_option linter.unusedVariables false
set_option linter.unusedSimpArgs false
namespace Go.Proofs.YtpoblffgclmmlaaGreatDoor.X
open Go.RowKit Go.WideMaps Go.Maps Go.Proofs.YtpoblffgclmmlaaGreatDoorW.PrintWords Go.Proofs.YtpoblffgclmmlaaGreatDoorW.PrintLast Go.Proofs.YtpoblffgclmmlaaGreatDoorW.PrintMore Go.Proofs.YtpoblffgclmmlaaGreatDoor.Q

theorem preB_nil (k : ByteArray) : preB k ⟨#[]⟩ = true := by
 unfold preB Lib.hasPrefix; rfl
theorem filter_nil (r : List S82) : ((r.map fun x => x.f0).filter fun k => preB k ⟨#[]⟩) = r.map fun x => x.f0 := List.filter_eq_self.2 (fun k _ => preB_nil k)
theorem Ris.fold (ls : List (List S69)) {r : List S82} (h : Ris r) : Ris (ls.foldl turnR r) := by
 induction ls generalizing r with
 | nil => exact h
 | cons l ls ih => exact ih (h.turn l)
theorem ris_foldR (ls : List (List S69)) : Ris (foldR ls) := Ris.fold ls List.Pairwise.nil
/-- The rows of a reference, in memory. -/
def RowsAt (b : Nat) (w : World) (v : Value) (r : List S82) : Prop := Kd.R k82 82 w b (fun _ => True) v r
theorem RowsAt.below {b : Nat} {w w' : World} {v : Value} {r : List S82} (h : RowsAt b w v r) (hb : Below w.heap.size w w') : RowsAt b w' v r := rows_turO (base := b) (TurO.of_below hb) h
theorem RowsAt.slice {b : Nat} {w : World} {v : Value} {r : List S82} (h : RowsAt b w v r) : ∃ A c, v = .slice A r.length c ∧ r.length ≤ c ∧ Kd.C k82 w A r.length r := by
 obtain ⟨A, c, e⟩ := Kd.R_slice h
 subst e
 have := Kd.R_reads' h
 exact ⟨A, c, rfl, this.2.1, this.2.2⟩
theorem RowsAt.nil (b : Nat) (w : World) : RowsAt b w (.slice none 0 0) [] := Kd.R_nil _ _ _ _ _
/-- Rows.Turn, where no row is too long. -/
theorem rturn_says (b : Nat) (v : Value) (r : List S82) (A : Option Addr) (c : Nat) (l : List S69) (w : World) (hb : b ≤ w.heap.size) (h : RowsAt b w v r) (hC : Kd.C k69 w A l.length l) (hc : l.length ≤ c) (hl : r.length + l.length ≤ 1000000000) (hr : Ris r) :
  Calls Tryz.prog 86 #[v, .slice A l.length c] w fun e w' => ∃ v', e = .returned v' ∧ RowsAt b w' v' (turnR r l) ∧ Below w.heap.size w w' := by
 obtain ⟨A0, c0, rfl, h1, h2⟩ := h.slice
 refine (Turn_says A0 A c0 c r l w h2 hC h1 hc hl hr).mono ?_
 rintro e w' ⟨v', he, hr', hb'⟩
 exact ⟨v', he, Kd.R_lower hr' hb, hb'⟩
end Go.Proofs.YtpoblffgclmmlaaGreatDoor.X
end
section
set_option linter.unusedVariables false
set_option linter.unusedSimpArgs false
namespace Go.Proofs.YtpoblffgclmmlaaGreatDoor.X
open Go.RowKit Go.WideMaps Go.Maps Go.Proofs.YtpoblffgclmmlaaGreatDoorW.PrintWords Go.Proofs.YtpoblffgclmmlaaGreatDoorW.PrintLast Go.Proofs.YtpoblffgclmmlaaGreatDoorW.PrintMore Go.Proofs.YtpoblffgclmmlaaGreatDoor.Q

theorem turn1_last (p : List S82) (x : S82) (h : Ris p) (hp : ∀ y ∈ p, kl y.f0 < kl x.f0) : turn1 p ⟨x.f0, x.f1, false⟩ = p ++ [x] := by
 obtain ⟨p1, p2, e, h1, h2, h3⟩ := turn1_put p ⟨x.f0, x.f1, false⟩ rfl h
 have hn : p2 = [] := by
  cases p2 with
  | nil => rfl
  | cons y ys => exact absurd (hp y (by rw [e]; simp)) (h2 y (List.mem_cons_self ..))
 rw [h3, hn, e, hn]
 simp [other]
theorem turnR_allR (p q : List S82) (h : Ris (p ++ q)) : turnR p (allR q) = p ++ q := by
 induction q generalizing p with
 | nil => simp [allR, turnR]
 | cons x q ih =>
  have e : turnR p (allR (x :: q)) = turnR (turn1 p ⟨x.f0, x.f1, false⟩) (allR q) := rfl
  obtain ⟨ha, hb, hab⟩ := List.pairwise_append.1 h
  rw [e, turn1_last p x ha (fun y hy => hab y hy x (List.mem_cons_self ..)), ih (p ++ [x]) (by rw [List.append_assoc]; exact h), List.append_assoc]
  rfl
theorem fold_allR {q : List S82} (h : Ris q) : foldR [allR q] = q := by
 show turnR [] (allR q) = q
 exact turnR_allR [] q h
theorem foldR_snoc (ls : List (List S69)) (l : List S69) : foldR (ls ++ [l]) = turnR (foldR ls) l := by simp [foldR]
theorem fr_snoc (ls : List (List S69)) (l : List S69) : fr ((ls ++ [l]).map recL) = fr (ls.map recL) ++ frameL (recL l) := by
 rw [List.map_append, fr_append, List.map_singleton, fr_cons, fr_nil, List.append_nil]
/-- A tape that has records, all of them sure, and power. -/
structure Wel (T : TapeS) (ls : List (List S69)) : Prop where
 b : T.b = fr (ls.map recL)
 sm : ∀ l ∈ ls, (recL l).length ≤ 32768
 sure : T.sure = (T.b.length : Int)
 down : T.down = false
theorem Wel.new : Wel TapeS.new [] := ⟨rfl, by simp, rfl, rfl⟩
theorem Wel.lay {T : TapeS} {ls : List (List S69)} (h : Wel T ls) : Lay T ls [] := ⟨by rw [h.b, List.append_nil], oneL_nil, h.sm⟩
/-- Do, with power enough. -/
theorem do_ok {T : TapeS} {ls : List (List S69)} (h : Wel T ls) (hf : T.fuse = -1) (l : List S69) : ∃ ls', Wel (doR T (foldR ls) l).1 ls' ∧ (doR T (foldR ls) l).1.fuse = -1 ∧
  foldR ls' = (if (doR T (foldR ls) l).2 = 0 then turnR (foldR ls) l else foldR ls) ∧ ((doR T (foldR ls) l).2 = 0 ∨ (doR T (foldR ls) l).2 = 3 ∧ 32768 < (recL l).length ∨ (doR T (foldR ls) l).2 = 7 ∧ 32768 < (recL (allR (turnR (foldR ls) l))).length) ∧ (doR T (foldR ls) l).1.b.length ≤ max T.b.length 65536 := by
 unfold doR
 by_cases h0 : l.length = 0
 ·
  rw [if_pos h0]
  have : l = [] := List.length_eq_zero_iff.1 h0
  subst this
  exact ⟨ls, h, hf, rfl, .inl rfl, by simp; omega⟩
 ·
  rw [if_neg h0]
  by_cases h1 : 32768 < (recL l).length
  ·
   rw [if_pos h1]; exact ⟨ls, h, hf, rfl, .inr (.inl ⟨rfl, h1⟩), by simp; omega⟩
  ·
   rw [if_neg h1]
   by_cases h2 : 65536 < (frameL (recL l)).length + T.b.length
   ·
    rw [if_pos h2]
    unfold TapeS.renewR
    by_cases h3 : 32768 < (recL (allR (turnR (foldR ls) l))).length ∨ 65536 < (frameL (recL (allR (turnR (foldR ls) l)))).length
    ·
     rw [if_pos h3]
     refine ⟨ls, h, hf, rfl, .inr (.inr ⟨rfl, ?_⟩), by simp; omega⟩
     rcases h3 with h3 | h3
     ·
      exact h3
     ·
      rw [frameL_len] at h3; omega
    ·
     rw [if_neg h3]
     have hq : Ris (turnR (foldR ls) l) := (ris_foldR ls).turn l
     have e : T.swap (frameL (recL (allR (turnR (foldR ls) l)))) = (⟨frameL (recL (allR (turnR (foldR ls) l))), ((frameL (recL (allR (turnR (foldR ls) l)))).length : Int), -1, false⟩, 0) := by
      obtain ⟨b, sure, fuse, down⟩ := T
      have hd := h.down
      simp only at hf hd
      subst hf
      subst hd
      rfl
     rw [e]
     refine ⟨[allR (turnR (foldR ls) l)], ⟨by show _ = fr [recL _]; rw [fr_cons, fr_nil, List.append_nil], ?_, rfl, rfl⟩, rfl, by rw [if_pos rfl]; exact fold_allR hq, .inl rfl, ?_⟩
     ·
      intro x hx
      rw [List.mem_singleton.1 hx]
      omega
     ·
      show (frameL _).length ≤ _
      omega
   ·
    rw [if_neg h2, TapeS.append_well T _ hf h.down]
    refine ⟨ls ++ [l], ⟨by rw [fr_snoc, ← h.b], ?_, rfl, rfl⟩, rfl, by rw [if_pos rfl]; exact foldR_snoc ls l, .inl rfl, ?_⟩
    ·
     intro x hx
     rcases List.mem_append.1 hx with hx | hx
     ·
      exact h.sm x hx
     ·
      rw [List.mem_singleton.1 hx]; omega
    ·
     show (T.b ++ frameL (recL l)).length ≤ _
     rw [List.length_append]; omega
end Go.Proofs.YtpoblffgclmmlaaGreatDoor.X
end
section
set_option linter.unusedVariables false
set_option linter.unusedSimpArgs false
namespace Go.Proofs.YtpoblffgclmmlaaGreatDoor.X
open Go.RowKit Go.WideMaps Go.Maps Go.Proofs.YtpoblffgclmmlaaGreatDoorW.PrintWords Go.Proofs.YtpoblffgclmmlaaGreatDoorW.PrintLast Go.Proofs.YtpoblffgclmmlaaGreatDoorW.PrintMore Go.Proofs.YtpoblffgclmmlaaGreatDoor.Q

def StW (base : Nat) (w : World) (s : Nat) (r : List S82) (N : Nat) : Prop := ∃ t T ls, Sto base w s t T r N ∧ Wel T ls ∧ foldR ls = r ∧ T.fuse = -1 ∧ T.b.length ≤ 65536
theorem Wel.good {T : TapeS} {ls : List (List S69)} (h : Wel T ls) (hf : T.fuse = -1) (hl : T.b.length ≤ 65536) : T.Good :=
 ⟨by omega, by have := h.sure; omega, by omega⟩
theorem StW.below {base s N : Nat} {w w' : World} {r : List S82} (h : StW base w s r N) (hb : Below w.heap.size w w') : StW base w' s r N := by
 obtain ⟨t, T, ls, h1, h2⟩ := h
 exact ⟨t, T, ls, h1.below hb, h2⟩
theorem StW.ris {base s N : Nat} {w : World} {r : List S82} (h : StW base w s r N) : Ris r := by
 obtain ⟨t, T, ls, h1, h2, h3, _⟩ := h
 rw [← h3]; exact ris_foldR ls
theorem StW.mono {base s N N' : Nat} {w : World} {r : List S82} (h : StW base w s r N) (hN : N ≤ N') : StW base w s r N' := by
 obtain ⟨t, T, ls, h1, h2⟩ := h
 exact ⟨t, T, ls, h1.mono hN, h2⟩
theorem wget_says (base s N : Nat) (r : List S82) (key : ByteArray) (hk : key.size ≤ maxLen) (w : World) (h : StW base w s r N) :
  Calls Tryz.prog 79 #[.pointer (some ⟨s, 0, none⟩), .string key] w fun e w' => e = .returned (.tuple #[.string ((getR r key).getD ⟨#[]⟩), .bool (getR r key).isSome]) ∧ w' = w := by
 obtain ⟨t, T, ls, h1, h2⟩ := h
 exact sget_says base s t N T r key hk w h1
theorem wkeys_says (base s N : Nat) (r : List S82) (key : ByteArray) (w : World) (h : StW base w s r N) (hN : N ≤ 3400000000000) :
  Calls Tryz.prog 53 #[.pointer (some ⟨s, 0, none⟩), .string key] w fun e w' => ∃ v, e = .returned v ∧ Kd.R Kd.string 9 w' w.heap.size (fun _ => True) v ((r.map fun x => x.f0).filter fun k => preB k key) ∧ Below w.heap.size w w' := by
 obtain ⟨t, T, ls, h1, h2⟩ := h
 exact skeys_says base s t N T r key w h1 hN
/-- Do of changes that are small enough, and leave few enough. -/
theorem wdo_says (s N : Nat) (r : List S82) (A : Option Addr) (c : Nat) (l : List S69) (w0 w : World) (hGL : GL w0) (hB : Below w0.heap.size w0 w) (h : StW w0.heap.size w s r N) (hC : Kd.C k69 w A l.length l) (hcl : l.length ≤ c)
  (hn : N + l.length ≤ 3400000000000) (h1 : (recL l).length ≤ 32768) (h2 : 4 + wgt (turnR r l) ≤ 32768) (hl : 4 + wgt r + wgtC l ≤ 80000000) (hx : ∀ x ∈ l, x.f0.size ≤ maxLen ∧ x.f1.size ≤ maxLen) :
  Calls Tryz.prog 25 #[.pointer (some ⟨s, 0, none⟩), .slice A l.length c] w fun e w' =>
   e = .returned (.int .i64 0) ∧ TurO w0.heap.size w w' ∧ StW w0.heap.size w' s (turnR r l) (N + l.length) := by
 obtain ⟨t, T, ls, hS, hW, hf, hfu, hb⟩ := h
 have hok := do_ok hW hfu l
 rw [hf] at hok
 obtain ⟨ls', k1, k2, k3, k4, k5⟩ := hok
 have hE : (doR T r l).2 = 0 := by
  rcases k4 with k4 | k4 | k4
  ·
   exact k4
  ·
   omega
  ·
   have := recAll_len (turnR r l); omega
 refine (sdo_says s t N T r A c l w0 w hGL hB hS (hW.good hfu hb) hC hcl hn hl (by omega) hx).mono ?_
 rintro e w' ⟨rfl, ht, hS'⟩
 rw [hE] at hS' ⊢
 rw [if_pos rfl] at hS'
 rw [hE, if_pos rfl] at k3
 exact ⟨rfl, ht, t, _, ls', hS', k1, k3, k2, by omega⟩
theorem wnew_says (w0 w : World) (hGL : GL w0) (hB : Below w0.heap.size w0 w) (t : Nat) (v : Value) (hT : TpAt w w0.heap.size t v TapeS.new) :
  Calls Tryz.prog 19 #[.pointer (some ⟨t, 0, none⟩)] w fun e w' => Below w0.heap.size w0 w' ∧
   ∃ s, e = .returned (.tuple #[.pointer (some ⟨s, 0, none⟩), .int .i64 0]) ∧ StW w0.heap.size w' s [] 3300000000000 := by
 refine (snew_says w0 w hGL hB t v hT).mono ?_
 rintro e w' ⟨hk, s, he, _, hS⟩
 exact ⟨tur_below hB hk (fun k h => h ▸ hT.ge), s, he, t, _, [], hS, Wel.new, rfl, rfl, by decide⟩
/-- Are changes few, and not too long, for a law? -/
def storedB (l : List S69) : Bool := decide (l.length + wgtS l < 20000 ∧ l.length ≤ 200)
theorem wgtS_take (l : List S69) (i : Nat) (h : i < l.length) : wgtS (l.take (i + 1)) = wgtS (l.take i) + (l.getD i z69).f0.size + (l.getD i z69).f1.size := by
 unfold wgtS
 rw [List.take_add_one, List.getElem?_eq_getElem h, List.map_append, List.sum_append]
 simp [List.getD_eq_getElem?_getD, List.getElem?_eq_getElem h]
 omega
theorem wgtS_take_le (l : List S69) (i : Nat) : wgtS (l.take i) ≤ wgtS l := by
 conv => rhs; rw [← List.take_append_drop i l]
 unfold wgtS
 rw [List.map_append, List.sum_append]; omega
end Go.Proofs.YtpoblffgclmmlaaGreatDoor.X
end
section
set_option linter.unusedVariables false
set_option linter.unusedSimpArgs false
namespace Go.Proofs.YtpoblffgclmmlaaGreatDoor.X
open Go.RowKit Go.WideMaps Go.Maps Go.Proofs.YtpoblffgclmmlaaGreatDoorW.PrintWords Go.Proofs.YtpoblffgclmmlaaGreatDoorW.PrintLast Go.Proofs.YtpoblffgclmmlaaGreatDoorW.PrintMore Go.Proofs.YtpoblffgclmmlaaGreatDoor.Q

def fldR (v : ByteArray) (n : Int) : List ByteArray × Bool := if (splR v).2 = 0 then ((splR v).1, decide (((splR v).1.length : Int) ≥ n)) else ((splR v).1, false)
theorem fldR_f (v : ByteArray) (n : Int) (hv : v.size ≤ 4294967280) : row_fields.f v n = some (fldR v n) := by
 unfold row_fields.f row_Split.f fldR
 rw [if_pos hv, Option.bind_some]
 split <;> rfl
theorem fldR_none {v : ByteArray} {n : Int} (h : unTx v = none) : fldR v n = ([], false) := by
 unfold fldR splR; rw [h]; rfl
theorem fldR_some {v : ByteArray} {l : List ByteArray} {n : Int} (h : unTx v = some l) : fldR v n = (l, decide ((l.length : Int) ≥ n)) := by
 unfold fldR splR; rw [h]; rfl
theorem fields_says (v : ByteArray) (n : Int) (hv : v.size ≤ 4294967280) (w : World) (hGP : GP w) (hGE : GE w) :
  Calls Tryz.prog 146 #[.string v, .int .i64 n] w fun e w' => ∃ v0_ : Value, e = .returned (.tuple #[v0_, .bool (fldR v n).2]) ∧ Kd.R Kd.string 9 w' w.heap.size (fun _ => True) v0_ (fldR v n).1 ∧ Below w.heap.size w w' :=
 row_fields.calls v n _ _ w (fldR_f v n hv) hGP hGE
theorem cellL {w w1 : World} {a : Addr} {v : Value} (hb : Below w.heap.size w w1) (h : w.cell? a = some v) : w1.cell? a = some v := (hb.cell (World.block_lt_of_cell? _ _ h)).trans h
theorem txsLen (l : List ByteArray) (h : ∀ x ∈ l, x.size < 18446744073709551616) : (txs l).length ≤ 21 * l.length + (l.map fun x => x.size).sum := by
 induction l with
 | nil => simp [txs]
 | cons s l ih =>
  have h1 := dd_len20 s.size (h s (List.mem_cons_self ..))
  have h2 := ih (fun x hx => h x (List.mem_cons_of_mem _ hx))
  rw [txs_cons]
  simp only [List.length_append, List.length_cons, Array.length_toList, ByteArray.size_data, List.map_cons, List.sum_cons]
  omega
end Go.Proofs.YtpoblffgclmmlaaGreatDoor.X
end
section
set_option linter.unusedVariables false
set_option linter.unusedSimpArgs false
namespace Go.Proofs.YtpoblffgclmmlaaGreatDoor.X
open Go.RowKit Go.WideMaps Go.Maps Go.Proofs.YtpoblffgclmmlaaGreatDoorW.PrintWords Go.Proofs.YtpoblffgclmmlaaGreatDoorW.PrintLast Go.Proofs.YtpoblffgclmmlaaGreatDoorW.PrintMore Go.Proofs.YtpoblffgclmmlaaGreatDoor.Q

/-- A row of texts of the call's own. -/
abbrev StrR (b : Nat) (w : World) (v : Value) (xs : List ByteArray) : Prop := Kd.R Kd.string 9 w b (fun _ => True) v xs
theorem cut_all (A : Option Addr) (n c : Nat) (hc : n ≤ c) (W : World) : (Instr.slice 88 (.slice A n c) none (some (.int .i64 (n : Int))) (some (.int .i64 (n : Int)))).run Tryz.prog W = .ok (.slice A n n) W := by
 obtain ⟨i05, hi05, _, hsz5, _⟩ := info_parts (show (Tryz.prog.info? 9).map (fun i => (i.zero, i.size, i.bytes)) = some (some (.string ⟨#[]⟩), 1, 16) by kernel_rfl)
 have hel : Tryz.prog.elem 88 = 9 := by simp [Program.elem, Tryz.underlying88]
 have hu : Tryz.prog.underlying 88 = some (.slice (Tryz.prog.elem 88)) := by rw [hel]; exact Tryz.underlying88
 have ha : (A.map fun x => x.add 0) = A := by cases A <;> simp [Addr.add]
 rw [run_slice_hm W 88 A n c hu .i64 .i64 (n : Int) (n : Int) (by omega) (by omega) (by omega), hel]
 simp [sizeOf, typeInfo, hi05, sliced, Result.andThen, ha]
set_option maxHeartbeats 2000000 in
theorem clip_says (A : Option Addr) (n c : Nat) (hc : n ≤ c) (w : World) :
  Calls Tryz.prog 110 #[.slice A n c] w fun e w' => e = .returned (.slice A n n) ∧ w' = w := by
 have hcut := cut_all A n c hc
 go_enter Tryz.func110, Tryz.ntmps110
 go_wp2_with fail
 go_ret
 exact ⟨rfl, rfl⟩
theorem none_nil {w : World} {n : Nat} {l : List ByteArray} (hC : Kd.C Kd.string w none n l) : l = [] := by
 cases l with
 | nil => rfl
 | cons x r =>
  have h1 := hC.1
  obtain ⟨ad, e, _⟩ := Kd.at_string hC 0 (by omega) (by simp only [List.length_cons] at h1; omega)
  cases e
set_option maxHeartbeats 4000000 in
theorem clone_says (A : Option Addr) (c : Nat) (l : List ByteArray) (w : World) (hC : Kd.C Kd.string w A l.length l) (hl : l.length ≤ 1000000000000) :
  Calls Tryz.prog 115 #[.slice A l.length c] w fun e w' => ∃ v', e = .returned v' ∧ StrR w.heap.size w' v' l ∧ Below w.heap.size w w' := by
 have q22 := fun (w : World) (a : Option Addr) (n c n' c' : Nat) => Lib.run_eql_slice_nil (P := Tryz.prog) w _ _ a n c n' c' Tryz.underlying88
 go_enter Tryz.func115, Tryz.ntmps115
 cases A with
 | none =>
  obtain rfl := none_nil hC
  clear hC
  go_wp2_with fail
  go_ret
  exact ⟨_, rfl, Kd.R_nil _ _ _ _ _, Below.refl _ _⟩
 | some ad =>
  have LA := Lib.hid (show (([] : List ByteArray).length + l.length) * 16 ≤ 140737488355328 by rw [List.length_nil]; omega)
  have hE : StrR w.heap.size (w.alloc (.cells #[] 9)) (.slice (some ⟨w.heap.size, 0, none⟩) 0 0) [] :=
   Kd.R_of_own (enc := Value.string) (h1 := fun _ => rfl) ⟨rfl, .inr ⟨w.heap.size, 0, #[], rfl, Nat.le_refl _, heap_alloc_new w _, Nat.le_refl _, Nat.zero_le _, rfl, rfl⟩⟩ (fun _ _ => trivial)
  have hC1 := Kd.C_alloc hC (.cells #[] 9)
  have hb1 : Below w.heap.size w (w.alloc (.cells #[] 9)) := (Below.refl _ w).alloc (Nat.le_refl _) _
  have hs1 : w.heap.size ≤ (w.alloc (.cells #[] 9)).heap.size := by simp
  clear hl hC
  go_wp2_with ((with_reducible refine gate_builtin (b := .append) (xs := #[.tmp 5, .tmp 6]) rfl ?_); at_builtin; refine Kd.R_append_rows Kd.string (w0 := w) w.heap.size rfl (.tmp 5) (.tmp 6) 88 9 (.string ⟨#[]⟩) 16 rfl Tryz.underlying88 (by kernel_rfl) rfl (by decide) (by omega) (.slice (some ⟨w.heap.size, 0, none⟩) 0 0) [] l _ _ _ (fun _ => True) (fun _ => False) rfl rfl hE hC1 (fun _ _ h => h) (fun _ h => h.elim) (fun _ _ => trivial) hb1 hs1 LA ?_; intro v1 w1 ho1 hb2 hg1 hat1; clear hg1 hat1)
  rw [List.nil_append] at ho1
  go_ret
  exact ⟨_, rfl, ho1, hb2⟩
set_option maxHeartbeats 4000000 in
theorem grow_says (n : Nat) (hn : n ≤ 1000000000000) (w : World) :
  Calls Tryz.prog 171 #[.slice none 0 0, .int .i64 (n : Int)] w fun e w' => ∃ v', e = .returned v' ∧ StrR w.heap.size w' v' [] ∧ Below w.heap.size w w' := by
 have d0 : decide ((n : Int) < 0) = false := decide_eq_false (by omega)
 have e1 : IntKind.i64.wrap (n : Int) = (n : Int) := IntWalk.i64_in _ (by omega)
 by_cases h0 : n = 0
 ·
  subst h0
  go_enter Tryz.func171, Tryz.ntmps171
  go_wp2_with fail
  go_ret
  exact ⟨_, rfl, Kd.R_nil _ _ _ _ _, Below.refl _ _⟩
 ·
  have d1 : decide ((0 : Int) < (n : Int)) = true := decide_eq_true (by omega)
  have d1' : decide (0 < n) = true := decide_eq_true (by omega)
  have hE : StrR w.heap.size w (.slice none 0 0) [] := Kd.R_nil _ _ _ _ _
  have LA : (([] : List ByteArray).length + (n : Int).toNat) * 16 ≤ 140737488355328 := by rw [List.length_nil, Int.toNat_natCast]; omega
  obtain ⟨i05, hi05, _, hsz5, _⟩ := info_parts (show (Tryz.prog.info? 9).map (fun i => (i.zero, i.size, i.bytes)) = some (some (.string ⟨#[]⟩), 1, 16) by kernel_rfl)
  have hcut := fun A1 c1 (h : n ≤ c1) => cut_to (P := Tryz.prog) 88 9 .i64 Tryz.underlying88 hi05 A1 n c1 0 (by omega) (by omega) h
  go_enter Tryz.func171, Tryz.ntmps171
  go_wp2_with ((with_reducible refine gate_builtin (b := .append) (xs := #[.tmp 20, .tmp 21]) rfl ?_); at_builtin; refine Kd.R_append_zeros Kd.string (w0 := w) w.heap.size rfl (.tmp 20) (.tmp 21) 88 3 9 (.string ⟨#[]⟩) 16 rfl Tryz.underlying88 Tryz.underlying3 (by kernel_rfl) rfl (by decide) (by decide) (.slice none 0 0) [] ⟨#[]⟩ (n : Int) (fun _ => True) rfl rfl rfl (fun _ _ => trivial) hE (by omega) (Below.refl _ _) (Nat.le_refl _) LA ?_; intro v1 w1 hR hB1 hg hat; clear hg hat; obtain ⟨A1, c1, ev⟩ := Kd.R_slice hR; subst ev; simp only [List.nil_append, Int.toNat_natCast, List.length_replicate] at hR; have hcut1 := hcut A1 c1 (Kd.R_reads' hR).2.1)
  have hR0 := Kd.R_take (m := 0) hR (by omega)
  rw [List.take_zero] at hR0
  go_ret
  exact ⟨_, rfl, hR0, hB1⟩
set_option maxHeartbeats 8000000 in
set_option maxRecDepth 100000 in
theorem concat_says (g : Nat) (A1 A2 : Option Addr) (c1 c2 : Nat) (l1 l2 : List ByteArray) (w : World) (hg : w.heap[g]? = some (.cells #[.slice A1 l1.length c1, .slice A2 l2.length c2] 88 (0, 0))) (hC1 : Kd.C Kd.string w A1 l1.length l1) (hC2 : Kd.C Kd.string w A2 l2.length l2) (hl : l1.length + l2.length ≤ 1000000000000) :
  Calls Tryz.prog 153 #[.slice (some ⟨g, 0, none⟩) 2 2] w fun e w' => ∃ v', e = .returned v' ∧ StrR w.heap.size w' v' (l1 ++ l2) ∧ Below w.heap.size w w' := by
 have x0 := blk_cell hg 0
 have x1 := blk_cell hg 1
 have e1 : IntKind.i64.wrap (l1.length : Int) = (l1.length : Int) := IntWalk.i64_in _ (by omega)
 have e2 : IntKind.i64.wrap ((l1.length : Int) + (l2.length : Int)) = (l1.length : Int) + (l2.length : Int) := IntWalk.i64_in _ (by omega)
 have d1 : decide ((l1.length : Int) < 0) = false := decide_eq_false (by omega)
 have d2 : decide ((l1.length : Int) + (l2.length : Int) < 0) = false := decide_eq_false (by omega)
 have hgr := grow_says (l1.length + l2.length) (by omega) w
 rw [Int.natCast_add] at hgr
 go_enter Tryz.func153, Tryz.ntmps153
 go_wp2_with fail
 go_loopw [3, 11] (fun v3 v11 wr => w = wr ∧ ((v11 = .int .i64 0 ∧ v3 = .int .i64 0) ∨ (v11 = .int .i64 1 ∧ v3 = .int .i64 l1.length) ∨ (v11 = .int .i64 2 ∧ v3 = .int .i64 ((l1.length : Int) + l2.length)))) (fun _ v11 _ => 2 - (intOf v11).toNat)
 case atStart => exact ⟨rfl, .inl ⟨rfl, rfl⟩⟩
 case round =>
  obtain ⟨rfl, ⟨rfl, rfl⟩ | ⟨rfl, rfl⟩ | ⟨rfl, rfl⟩⟩ := hrel
  ·
   go_wp2_with fail
   exact ⟨⟨trivial, .inr (.inl ⟨rfl, rfl⟩)⟩, by decide⟩
  ·
   go_wp2_with fail
   exact ⟨⟨trivial, .inr (.inr ⟨rfl, rfl⟩)⟩, by decide⟩
  ·
   go_wp2_with fail
   refine hgr.mono ?_
   rintro e w1 ⟨v1, rfl, hr1, hb1⟩
   have hg1 := blk_below hg hb1
   have hC11 := Kd.C_below hC1 hb1
   have hC21 := Kd.C_below hC2 hb1
   obtain ⟨A6, q6, e6⟩ := Kd.R_slice hr1
   subst e6
   clear hgr x0 x1 e1 e2 d1 d2
   have LA1 := Lib.hid (show (([] : List ByteArray).length + l1.length) * 16 ≤ 140737488355328 by rw [List.length_nil]; omega)
   have LA2 := Lib.hid (show (l1.length + l2.length) * 16 ≤ 140737488355328 by omega)
   clear hl
   go_wp2_with fail
   go_loopw [6, 27] (fun v6 v27 wq => Below w.heap.size w wq ∧ ((v27 = .int .i64 0 ∧ StrR w.heap.size wq v6 []) ∨ (v27 = .int .i64 1 ∧ StrR w.heap.size wq v6 l1) ∨ (v27 = .int .i64 2 ∧ StrR w.heap.size wq v6 (l1 ++ l2)))) (fun _ v27 _ => 2 - (intOf v27).toNat)
   case atStart => exact ⟨hb1, .inl ⟨rfl, hr1⟩⟩
   case round =>
    obtain ⟨hB, ⟨rfl, hR⟩ | ⟨rfl, hR⟩ | ⟨rfl, hR⟩⟩ := hrel
    ·
     have hgq := blk_below hg hB
     have x0 := blk_cell hgq 0
     have hCq := Kd.C_below hC1 hB
     clear hC1 hC2 hC11 hC21 hg hg1 hr1 hb1 hgq
     have LA := LA1.out
     go_wp2_with ((with_reducible refine gate_builtin (b := .append) (xs := #[.tmp 31, .tmp 32]) rfl ?_); at_builtin; refine Kd.R_append_rows Kd.string (w0 := w) w.heap.size rfl (.tmp 31) (.tmp 32) 88 9 (.string ⟨#[]⟩) 16 rfl Tryz.underlying88 (by kernel_rfl) rfl (by decide) (by omega) u6 [] l1 _ _ _ (fun _ => True) (fun _ => False) rfl rfl hR hCq (fun _ _ h => h) (fun _ h => h.elim) (fun _ _ => trivial) hB hB.size LA ?_; intro v8 w8 ho8 hb8 hg8 hat8; clear hg8 hat8)
     rw [List.nil_append] at ho8
     exact ⟨⟨hb8, .inr (.inl ⟨rfl, ho8⟩)⟩, by decide⟩
    ·
     have hgq := blk_below hg hB
     have x1 := blk_cell hgq 1
     have hCq := Kd.C_below hC2 hB
     clear hC1 hC2 hC11 hC21 hg hg1 hr1 hb1 hgq
     have LA := LA2.out
     go_wp2_with ((with_reducible refine gate_builtin (b := .append) (xs := #[.tmp 31, .tmp 32]) rfl ?_); at_builtin; refine Kd.R_append_rows Kd.string (w0 := w) w.heap.size rfl (.tmp 31) (.tmp 32) 88 9 (.string ⟨#[]⟩) 16 rfl Tryz.underlying88 (by kernel_rfl) rfl (by decide) (by omega) u6 l1 l2 _ _ _ (fun _ => True) (fun _ => False) rfl rfl hR hCq (fun _ _ h => h) (fun _ h => h.elim) (fun _ _ => trivial) hB hB.size LA ?_; intro v8 w8 ho8 hb8 hg8 hat8; clear hg8 hat8)
     exact ⟨⟨hb8, .inr (.inr ⟨rfl, ho8⟩)⟩, by decide⟩
    ·
     go_wp2_with fail
     go_ret
     exact ⟨_, rfl, hR, hB⟩
end Go.Proofs.YtpoblffgclmmlaaGreatDoor.X
end
section
set_option linter.unusedVariables false
set_option linter.unusedSimpArgs false
namespace Go.Proofs.YtpoblffgclmmlaaGreatDoor.X
open Go.RowKit Go.WideMaps Go.Maps Go.Proofs.YtpoblffgclmmlaaGreatDoorW.PrintWords Go.Proofs.YtpoblffgclmmlaaGreatDoorW.PrintLast Go.Proofs.YtpoblffgclmmlaaGreatDoorW.PrintMore Go.Proofs.YtpoblffgclmmlaaGreatDoor.Q

structure Fam where
 id : ByteArray
 client : ByteArray
 user : ByteArray
 conn : ByteArray
 sub : ByteArray
 nonce : ByteArray
 scope : ByteArray
 claims : ByteArray
 refresh : ByteArray
 up : ByteArray
 old : List ByteArray
 rev : Bool
def flB (b : Bool) : ByteArray := if b = true then ⟨#[49]⟩ else ⟨#[48]⟩
def hdL (x : Fam) : List ByteArray := [x.id, x.client, x.user, x.conn, x.sub, x.nonce, x.scope, x.claims, x.refresh, x.up, flB x.rev]
def famL (x : Fam) : List ByteArray := hdL x ++ x.old
def famT (x : Fam) : ByteArray := ⟨(txs (famL x)).toArray⟩
def famZ : Fam := ⟨⟨#[]⟩, ⟨#[]⟩, ⟨#[]⟩, ⟨#[]⟩, ⟨#[]⟩, ⟨#[]⟩, ⟨#[]⟩, ⟨#[]⟩, ⟨#[]⟩, ⟨#[]⟩, [], false⟩
def famOf : List ByteArray → Option Fam
 | a :: b :: c :: d :: e :: f :: g :: h :: i :: j :: k :: old => if k = ⟨#[49]⟩ then some ⟨a, b, c, d, e, f, g, h, i, j, old, true⟩ else if k = ⟨#[48]⟩ then some ⟨a, b, c, d, e, f, g, h, i, j, old, false⟩ else none
 | _ => none
/-- The family of a text. -/
def readF (v : ByteArray) : Option Fam := (unTx v).bind famOf
theorem famOf_some {l : List ByteArray} {x : Fam} (h : famOf l = some x) : l = famL x := by
 unfold famOf at h
 split at h
 ·
  split at h
  ·
   rename_i hk
   obtain rfl := Option.some.inj h
   rw [hk]; rfl
  ·
   split at h
   ·
    rename_i hk
    obtain rfl := Option.some.inj h
    rw [hk]; rfl
   ·
    cases h
 ·
  cases h
theorem famOf_L (x : Fam) : famOf (famL x) = some x := by
 obtain ⟨a, b, c, d, e, f, g, h, i, j, old, rev⟩ := x
 cases rev with
 | true => simp [famOf, famL, hdL, flB]
 | false => simp [famOf, famL, hdL, flB]
theorem readF_some {v : ByteArray} {x : Fam} (h : readF v = some x) : famT x = v := by
 obtain ⟨l, h1, h2⟩ := Option.bind_eq_some_iff.1 h
 obtain rfl := famOf_some h2
 unfold famT
 rw [(unTx_iff v _).1 h1]
theorem readF_of (x : Fam) : readF (famT x) = some x := by
 unfold readF
 rw [(unTx_iff (famT x) (famL x)).2 rfl, Option.bind_some, famOf_L x]
theorem readF_nil {v : ByteArray} (h : unTx v = none) : readF v = none := by unfold readF; rw [h]; rfl
theorem readF_short {v : ByteArray} {l : List ByteArray} (h : unTx v = some l) (hl : l.length < 11) : readF v = none := by
 unfold readF
 rw [h, Option.bind_some]
 unfold famOf
 split
 ·
  simp only [List.length_cons] at hl; omega
 ·
  rfl
/-- A family as a value, its old texts in a row. -/
def famV (x : Fam) (A : Option Addr) (c : Nat) : Value := .agg #[.string x.id, .string x.client, .string x.user, .string x.conn, .string x.sub, .string x.nonce, .string x.scope, .string x.claims, .string x.refresh, .string x.up, .slice A x.old.length c, .bool x.rev]
theorem flag_says (b : Bool) (w : World) : Calls Tryz.prog 152 #[.bool b] w fun e w' => e = .returned (.string (flB b)) ∧ Below w.heap.size w w' := by
 refine (row_flag.calls b (flB b) w (by unfold row_flag.f flB; cases b <;> rfl)).mono ?_
 rintro e w' ⟨h, hd⟩
 exact ⟨h, hd.below⟩
set_option maxHeartbeats 4000000 in
set_option maxRecDepth 100000 in
theorem family_says (x : Fam) (A : Option Addr) (c : Nat) (w : World) (hC : Kd.C Kd.string w A x.old.length x.old) (hc : x.old.length ≤ c) (hl : x.old.length ≤ 900000000000) (hs : (txs (famL x)).length ≤ 140737488355328) (hGP : GP w) :
  Calls Tryz.prog 111 #[famV x A c] w fun e w' => e = .returned (.string (famT x)) ∧ Below w.heap.size w w' := by
 have hB0 : Below w.heap.size w (w.alloc (.cells #[.string x.id, .string x.client, .string x.user, .string x.conn, .string x.sub, .string x.nonce, .string x.scope, .string x.claims, .string x.refresh, .string x.up, .slice A x.old.length c, .bool x.rev] 93)) := (Below.refl _ w).alloc (Nat.le_refl _) _
 have hz := heap_alloc_new w (.cells #[.string x.id, .string x.client, .string x.user, .string x.conn, .string x.sub, .string x.nonce, .string x.scope, .string x.claims, .string x.refresh, .string x.up, .slice A x.old.length c, .bool x.rev] 93)
 have hfl : famL x = hdL x ++ x.old := rfl
 have hdl : (hdL x).length = 11 := rfl
 unfold famV
 go_enter Tryz.func111, Tryz.ntmps111
 go_upto_region 1 with (fail)
 have hB1 := below_drew hB0
 have hz1 := blk_drew hz
 have c0 : (w.alloc (.cells #[.string x.id, .string x.client, .string x.user, .string x.conn, .string x.sub, .string x.nonce, .string x.scope, .string x.claims, .string x.refresh, .string x.up, .slice A x.old.length c, .bool x.rev] 93)).drew.cell? ⟨w.heap.size, 0, none⟩ = some (.string x.id) := (blk_cell hz1 0).trans rfl
 have c1 : (w.alloc (.cells #[.string x.id, .string x.client, .string x.user, .string x.conn, .string x.sub, .string x.nonce, .string x.scope, .string x.claims, .string x.refresh, .string x.up, .slice A x.old.length c, .bool x.rev] 93)).drew.cell? ⟨w.heap.size, 1, none⟩ = some (.string x.client) := (blk_cell hz1 1).trans rfl
 have c2 : (w.alloc (.cells #[.string x.id, .string x.client, .string x.user, .string x.conn, .string x.sub, .string x.nonce, .string x.scope, .string x.claims, .string x.refresh, .string x.up, .slice A x.old.length c, .bool x.rev] 93)).drew.cell? ⟨w.heap.size, 2, none⟩ = some (.string x.user) := (blk_cell hz1 2).trans rfl
 have c3 : (w.alloc (.cells #[.string x.id, .string x.client, .string x.user, .string x.conn, .string x.sub, .string x.nonce, .string x.scope, .string x.claims, .string x.refresh, .string x.up, .slice A x.old.length c, .bool x.rev] 93)).drew.cell? ⟨w.heap.size, 3, none⟩ = some (.string x.conn) := (blk_cell hz1 3).trans rfl
 have c4 : (w.alloc (.cells #[.string x.id, .string x.client, .string x.user, .string x.conn, .string x.sub, .string x.nonce, .string x.scope, .string x.claims, .string x.refresh, .string x.up, .slice A x.old.length c, .bool x.rev] 93)).drew.cell? ⟨w.heap.size, 4, none⟩ = some (.string x.sub) := (blk_cell hz1 4).trans rfl
 have c5 : (w.alloc (.cells #[.string x.id, .string x.client, .string x.user, .string x.conn, .string x.sub, .string x.nonce, .string x.scope, .string x.claims, .string x.refresh, .string x.up, .slice A x.old.length c, .bool x.rev] 93)).drew.cell? ⟨w.heap.size, 5, none⟩ = some (.string x.nonce) := (blk_cell hz1 5).trans rfl
 have c6 : (w.alloc (.cells #[.string x.id, .string x.client, .string x.user, .string x.conn, .string x.sub, .string x.nonce, .string x.scope, .string x.claims, .string x.refresh, .string x.up, .slice A x.old.length c, .bool x.rev] 93)).drew.cell? ⟨w.heap.size, 6, none⟩ = some (.string x.scope) := (blk_cell hz1 6).trans rfl
 have c7 : (w.alloc (.cells #[.string x.id, .string x.client, .string x.user, .string x.conn, .string x.sub, .string x.nonce, .string x.scope, .string x.claims, .string x.refresh, .string x.up, .slice A x.old.length c, .bool x.rev] 93)).drew.cell? ⟨w.heap.size, 7, none⟩ = some (.string x.claims) := (blk_cell hz1 7).trans rfl
 have c8 : (w.alloc (.cells #[.string x.id, .string x.client, .string x.user, .string x.conn, .string x.sub, .string x.nonce, .string x.scope, .string x.claims, .string x.refresh, .string x.up, .slice A x.old.length c, .bool x.rev] 93)).drew.cell? ⟨w.heap.size, 8, none⟩ = some (.string x.refresh) := (blk_cell hz1 8).trans rfl
 have c9 : (w.alloc (.cells #[.string x.id, .string x.client, .string x.user, .string x.conn, .string x.sub, .string x.nonce, .string x.scope, .string x.claims, .string x.refresh, .string x.up, .slice A x.old.length c, .bool x.rev] 93)).drew.cell? ⟨w.heap.size, 9, none⟩ = some (.string x.up) := (blk_cell hz1 9).trans rfl
 have c10 : (w.alloc (.cells #[.string x.id, .string x.client, .string x.user, .string x.conn, .string x.sub, .string x.nonce, .string x.scope, .string x.claims, .string x.refresh, .string x.up, .slice A x.old.length c, .bool x.rev] 93)).drew.cell? ⟨w.heap.size, 10, none⟩ = some (.slice A x.old.length c) := (blk_cell hz1 10).trans rfl
 have c11 : (w.alloc (.cells #[.string x.id, .string x.client, .string x.user, .string x.conn, .string x.sub, .string x.nonce, .string x.scope, .string x.claims, .string x.refresh, .string x.up, .slice A x.old.length c, .bool x.rev] 93)).drew.cell? ⟨w.heap.size, 11, none⟩ = some (.bool x.rev) := (blk_cell hz1 11).trans rfl
 refine start_ (n := 25) (S := fun w' => w'.cell? ⟨w.heap.size, 0, none⟩ = some (.string x.id) ∧ w'.cell? ⟨w.heap.size, 1, none⟩ = some (.string x.client) ∧ w'.cell? ⟨w.heap.size, 2, none⟩ = some (.string x.user) ∧ w'.cell? ⟨w.heap.size, 3, none⟩ = some (.string x.conn) ∧ w'.cell? ⟨w.heap.size, 4, none⟩ = some (.string x.sub) ∧ w'.cell? ⟨w.heap.size, 5, none⟩ = some (.string x.nonce) ∧ w'.cell? ⟨w.heap.size, 6, none⟩ = some (.string x.scope) ∧ w'.cell? ⟨w.heap.size, 7, none⟩ = some (.string x.claims) ∧ w'.cell? ⟨w.heap.size, 8, none⟩ = some (.string x.refresh) ∧ w'.cell? ⟨w.heap.size, 9, none⟩ = some (.string x.up) ∧ w'.cell? ⟨w.heap.size, 11, none⟩ = some (.bool x.rev)) (ds := []) #[false, false, false, false, false, false, false, false, false, false, false, false, false, false, false, false, false, false, false, false, false, false, false, false, false] (by kernel_rfl) rfl rfl ⟨c0, c1, c2, c3, c4, c5, c6, c7, c8, c9, c11⟩ (fun hHeld => ?_)
 generalize (w.alloc (.cells #[.string x.id, .string x.client, .string x.user, .string x.conn, .string x.sub, .string x.nonce, .string x.scope, .string x.claims, .string x.refresh, .string x.up, .slice A x.old.length c, .bool x.rev] 93)).drew = w2 at hB1 hz1 hHeld c0 c1 c2 c3 c4 c5 c6 c7 c8 c9 c10 c11 ⊢
 refine pure_ (i := 0) (N := some 4) (v := ?_) (a' := ?_) #[true, false, false, false, false, false, false, false, false, false, false, false, false, false, false, false, false, false, false, false, false, false, false, false, false] rfl rfl (by kernel_rfl) (fun _ _ _ h => h) (Or.inl ⟨by rfl, ?_⟩) ?_ ?_
 rotate_left
 ·
  intro w'
  go_simp
  with_reducible rfl
 rotate_left
 ·
  simp only [Act.put, List.setIfInBounds_toArray, List.set_cons_zero, List.set_cons_succ, i64_w, i32_w]
  rfl
 refine pure_ (i := 2) (N := some 6) (v := ?_) (a' := ?_) #[true, false, true, false, false, false, false, false, false, false, false, false, false, false, false, false, false, false, false, false, false, false, false, false, false] rfl rfl (by kernel_rfl) (fun _ _ _ h => h) (Or.inl ⟨by rfl, ?_⟩) ?_ ?_
 rotate_left
 ·
  intro w'
  go_simp
  with_reducible rfl
 rotate_left
 ·
  simp only [Act.put, List.setIfInBounds_toArray, List.set_cons_zero, List.set_cons_succ, i64_w, i32_w]
  rfl
 refine pure_ (i := 4) (N := some 8) (v := ?_) (a' := ?_) #[true, false, true, false, true, false, false, false, false, false, false, false, false, false, false, false, false, false, false, false, false, false, false, false, false] rfl rfl (by kernel_rfl) (fun _ _ _ h => h) (Or.inl ⟨by rfl, ?_⟩) ?_ ?_
 rotate_left
 ·
  intro w'
  go_simp
  with_reducible rfl
 rotate_left
 ·
  simp only [Act.put, List.setIfInBounds_toArray, List.set_cons_zero, List.set_cons_succ, i64_w, i32_w]
  rfl
 refine pure_ (i := 6) (N := some 10) (v := ?_) (a' := ?_) #[true, false, true, false, true, false, true, false, false, false, false, false, false, false, false, false, false, false, false, false, false, false, false, false, false] rfl rfl (by kernel_rfl) (fun _ _ _ h => h) (Or.inl ⟨by rfl, ?_⟩) ?_ ?_
 rotate_left
 ·
  intro w'
  go_simp
  with_reducible rfl
 rotate_left
 ·
  simp only [Act.put, List.setIfInBounds_toArray, List.set_cons_zero, List.set_cons_succ, i64_w, i32_w]
  rfl
 refine pure_ (i := 8) (N := some 12) (v := ?_) (a' := ?_) #[true, false, true, false, true, false, true, false, true, false, false, false, false, false, false, false, false, false, false, false, false, false, false, false, false] rfl rfl (by kernel_rfl) (fun _ _ _ h => h) (Or.inl ⟨by rfl, ?_⟩) ?_ ?_
 rotate_left
 ·
  intro w'
  go_simp
  with_reducible rfl
 rotate_left
 ·
  simp only [Act.put, List.setIfInBounds_toArray, List.set_cons_zero, List.set_cons_succ, i64_w, i32_w]
  rfl
 refine pure_ (i := 10) (N := some 14) (v := ?_) (a' := ?_) #[true, false, true, false, true, false, true, false, true, false, true, false, false, false, false, false, false, false, false, false, false, false, false, false, false] rfl rfl (by kernel_rfl) (fun _ _ _ h => h) (Or.inl ⟨by rfl, ?_⟩) ?_ ?_
 rotate_left
 ·
  intro w'
  go_simp
  with_reducible rfl
 rotate_left
 ·
  simp only [Act.put, List.setIfInBounds_toArray, List.set_cons_zero, List.set_cons_succ, i64_w, i32_w]
  rfl
 refine pure_ (i := 12) (N := some 16) (v := ?_) (a' := ?_) #[true, false, true, false, true, false, true, false, true, false, true, false, true, false, false, false, false, false, false, false, false, false, false, false, false] rfl rfl (by kernel_rfl) (fun _ _ _ h => h) (Or.inl ⟨by rfl, ?_⟩) ?_ ?_
 rotate_left
 ·
  intro w'
  go_simp
  with_reducible rfl
 rotate_left
 ·
  simp only [Act.put, List.setIfInBounds_toArray, List.set_cons_zero, List.set_cons_succ, i64_w, i32_w]
  rfl
 refine pure_ (i := 14) (N := some 18) (v := ?_) (a' := ?_) #[true, false, true, false, true, false, true, false, true, false, true, false, true, false, true, false, false, false, false, false, false, false, false, false, false] rfl rfl (by kernel_rfl) (fun _ _ _ h => h) (Or.inl ⟨by rfl, ?_⟩) ?_ ?_
 rotate_left
 ·
  intro w'
  go_simp
  with_reducible rfl
 rotate_left
 ·
  simp only [Act.put, List.setIfInBounds_toArray, List.set_cons_zero, List.set_cons_succ, i64_w, i32_w]
  rfl
 refine pure_ (i := 16) (N := some 20) (v := ?_) (a' := ?_) #[true, false, true, false, true, false, true, false, true, false, true, false, true, false, true, false, true, false, false, false, false, false, false, false, false] rfl rfl (by kernel_rfl) (fun _ _ _ h => h) (Or.inl ⟨by rfl, ?_⟩) ?_ ?_
 rotate_left
 ·
  intro w'
  go_simp
  with_reducible rfl
 rotate_left
 ·
  simp only [Act.put, List.setIfInBounds_toArray, List.set_cons_zero, List.set_cons_succ, i64_w, i32_w]
  rfl
 refine pure_ (i := 18) (N := some 22) (v := ?_) (a' := ?_) #[true, false, true, false, true, false, true, false, true, false, true, false, true, false, true, false, true, false, true, false, false, false, false, false, false] rfl rfl (by kernel_rfl) (fun _ _ _ h => h) (Or.inl ⟨by rfl, ?_⟩) ?_ ?_
 rotate_left
 ·
  intro w'
  go_simp
  with_reducible rfl
 rotate_left
 ·
  simp only [Act.put, List.setIfInBounds_toArray, List.set_cons_zero, List.set_cons_succ, i64_w, i32_w]
  rfl
 refine pure_ (i := 20) (N := some 24) (v := ?_) (a' := ?_) #[true, false, true, false, true, false, true, false, true, false, true, false, true, false, true, false, true, false, true, false, true, false, false, false, false] rfl rfl (by kernel_rfl) (fun _ _ _ h => h) (Or.inl ⟨by rfl, ?_⟩) ?_ ?_
 rotate_left
 ·
  intro w'
  go_simp
  with_reducible rfl
 rotate_left
 ·
  simp only [Act.put, List.setIfInBounds_toArray, List.set_cons_zero, List.set_cons_succ, i64_w, i32_w]
  rfl
 refine take_ (i := 1) (N := some 5) (v := ?_) (a' := ?_) #[true, true, true, false, true, false, true, false, true, false, true, false, true, false, true, false, true, false, true, false, true, false, false, false, false] rfl rfl (by kernel_rfl) (fun _ _ _ h => h) (Or.inl ⟨by rfl, ?_⟩) hHeld ?_ ?_
 rotate_left
 ·
  rintro w' ⟨s0, s1, s2, s3, s4, s5, s6, s7, s8, s9, s10⟩
  go_simp
  with_reducible rfl
 rotate_left
 ·
  simp only [Act.put, List.setIfInBounds_toArray, List.set_cons_zero, List.set_cons_succ, i64_w, i32_w]
  rfl
 refine take_ (i := 3) (N := some 7) (v := ?_) (a' := ?_) #[true, true, true, true, true, false, true, false, true, false, true, false, true, false, true, false, true, false, true, false, true, false, false, false, false] rfl rfl (by kernel_rfl) (fun _ _ _ h => h) (Or.inl ⟨by rfl, ?_⟩) hHeld ?_ ?_
 rotate_left
 ·
  rintro w' ⟨s0, s1, s2, s3, s4, s5, s6, s7, s8, s9, s10⟩
  go_simp
  with_reducible rfl
 rotate_left
 ·
  simp only [Act.put, List.setIfInBounds_toArray, List.set_cons_zero, List.set_cons_succ, i64_w, i32_w]
  rfl
 refine take_ (i := 5) (N := some 9) (v := ?_) (a' := ?_) #[true, true, true, true, true, true, true, false, true, false, true, false, true, false, true, false, true, false, true, false, true, false, false, false, false] rfl rfl (by kernel_rfl) (fun _ _ _ h => h) (Or.inl ⟨by rfl, ?_⟩) hHeld ?_ ?_
 rotate_left
 ·
  rintro w' ⟨s0, s1, s2, s3, s4, s5, s6, s7, s8, s9, s10⟩
  go_simp
  with_reducible rfl
 rotate_left
 ·
  simp only [Act.put, List.setIfInBounds_toArray, List.set_cons_zero, List.set_cons_succ, i64_w, i32_w]
  rfl
 refine take_ (i := 7) (N := some 11) (v := ?_) (a' := ?_) #[true, true, true, true, true, true, true, true, true, false, true, false, true, false, true, false, true, false, true, false, true, false, false, false, false] rfl rfl (by kernel_rfl) (fun _ _ _ h => h) (Or.inl ⟨by rfl, ?_⟩) hHeld ?_ ?_
 rotate_left
 ·
  rintro w' ⟨s0, s1, s2, s3, s4, s5, s6, s7, s8, s9, s10⟩
  go_simp
  with_reducible rfl
 rotate_left
 ·
  simp only [Act.put, List.setIfInBounds_toArray, List.set_cons_zero, List.set_cons_succ, i64_w, i32_w]
  rfl
 refine take_ (i := 9) (N := some 13) (v := ?_) (a' := ?_) #[true, true, true, true, true, true, true, true, true, true, true, false, true, false, true, false, true, false, true, false, true, false, false, false, false] rfl rfl (by kernel_rfl) (fun _ _ _ h => h) (Or.inl ⟨by rfl, ?_⟩) hHeld ?_ ?_
 rotate_left
 ·
  rintro w' ⟨s0, s1, s2, s3, s4, s5, s6, s7, s8, s9, s10⟩
  go_simp
  with_reducible rfl
 rotate_left
 ·
  simp only [Act.put, List.setIfInBounds_toArray, List.set_cons_zero, List.set_cons_succ, i64_w, i32_w]
  rfl
 refine take_ (i := 11) (N := some 15) (v := ?_) (a' := ?_) #[true, true, true, true, true, true, true, true, true, true, true, true, true, false, true, false, true, false, true, false, true, false, false, false, false] rfl rfl (by kernel_rfl) (fun _ _ _ h => h) (Or.inl ⟨by rfl, ?_⟩) hHeld ?_ ?_
 rotate_left
 ·
  rintro w' ⟨s0, s1, s2, s3, s4, s5, s6, s7, s8, s9, s10⟩
  go_simp
  with_reducible rfl
 rotate_left
 ·
  simp only [Act.put, List.setIfInBounds_toArray, List.set_cons_zero, List.set_cons_succ, i64_w, i32_w]
  rfl
 refine take_ (i := 13) (N := some 17) (v := ?_) (a' := ?_) #[true, true, true, true, true, true, true, true, true, true, true, true, true, true, true, false, true, false, true, false, true, false, false, false, false] rfl rfl (by kernel_rfl) (fun _ _ _ h => h) (Or.inl ⟨by rfl, ?_⟩) hHeld ?_ ?_
 rotate_left
 ·
  rintro w' ⟨s0, s1, s2, s3, s4, s5, s6, s7, s8, s9, s10⟩
  go_simp
  with_reducible rfl
 rotate_left
 ·
  simp only [Act.put, List.setIfInBounds_toArray, List.set_cons_zero, List.set_cons_succ, i64_w, i32_w]
  rfl
 refine take_ (i := 15) (N := some 19) (v := ?_) (a' := ?_) #[true, true, true, true, true, true, true, true, true, true, true, true, true, true, true, true, true, false, true, false, true, false, false, false, false] rfl rfl (by kernel_rfl) (fun _ _ _ h => h) (Or.inl ⟨by rfl, ?_⟩) hHeld ?_ ?_
 rotate_left
 ·
  rintro w' ⟨s0, s1, s2, s3, s4, s5, s6, s7, s8, s9, s10⟩
  go_simp
  with_reducible rfl
 rotate_left
 ·
  simp only [Act.put, List.setIfInBounds_toArray, List.set_cons_zero, List.set_cons_succ, i64_w, i32_w]
  rfl
 refine take_ (i := 17) (N := some 21) (v := ?_) (a' := ?_) #[true, true, true, true, true, true, true, true, true, true, true, true, true, true, true, true, true, true, true, false, true, false, false, false, false] rfl rfl (by kernel_rfl) (fun _ _ _ h => h) (Or.inl ⟨by rfl, ?_⟩) hHeld ?_ ?_
 rotate_left
 ·
  rintro w' ⟨s0, s1, s2, s3, s4, s5, s6, s7, s8, s9, s10⟩
  go_simp
  with_reducible rfl
 rotate_left
 ·
  simp only [Act.put, List.setIfInBounds_toArray, List.set_cons_zero, List.set_cons_succ, i64_w, i32_w]
  rfl
 refine take_ (i := 19) (N := some 23) (v := ?_) (a' := ?_) #[true, true, true, true, true, true, true, true, true, true, true, true, true, true, true, true, true, true, true, true, true, false, false, false, false] rfl rfl (by kernel_rfl) (fun _ _ _ h => h) (Or.inl ⟨by rfl, ?_⟩) hHeld ?_ ?_
 rotate_left
 ·
  rintro w' ⟨s0, s1, s2, s3, s4, s5, s6, s7, s8, s9, s10⟩
  go_simp
  with_reducible rfl
 rotate_left
 ·
  simp only [Act.put, List.setIfInBounds_toArray, List.set_cons_zero, List.set_cons_succ, i64_w, i32_w]
  rfl
 refine take_ (i := 21) (N := some 25) (v := ?_) (a' := ?_) #[true, true, true, true, true, true, true, true, true, true, true, true, true, true, true, true, true, true, true, true, true, true, false, false, false] rfl rfl (by kernel_rfl) (fun _ _ _ h => h) (Or.inl ⟨by rfl, ?_⟩) hHeld ?_ ?_
 rotate_left
 ·
  rintro w' ⟨s0, s1, s2, s3, s4, s5, s6, s7, s8, s9, s10⟩
  go_simp
  with_reducible rfl
 rotate_left
 ·
  simp only [Act.put, List.setIfInBounds_toArray, List.set_cons_zero, List.set_cons_succ, i64_w, i32_w]
  rfl
 refine one_ (i := 22) (N := some 26) #[true, true, true, true, true, true, true, true, true, true, true, true, true, true, true, true, true, true, true, true, true, true, true, false, false] rfl rfl (by kernel_rfl) (by decide) (fun K hK => ?_)
 refine goes_ Tryz.func152 (by kernel_rfl) rfl #[.bool x.rev] (by rfl) rfl rfl (by first | (simp only [List.map_toArray, List.map_cons, List.map_nil]; done) | (simp only [List.map_toArray, List.map_cons, List.map_nil]; rfl)) ?_
 with_reducible refine (flag_says x.rev _).mono ?_
 rintro e w3 ⟨rfl, hb3⟩
 refine ⟨_, rfl, ?_⟩
 refine hK.out _ _ ⟨cellL hb3 c0, cellL hb3 c1, cellL hb3 c2, cellL hb3 c3, cellL hb3 c4, cellL hb3 c5, cellL hb3 c6, cellL hb3 c7, cellL hb3 c8, cellL hb3 c9, cellL hb3 c11⟩ (fun hHeld => ?_)
 clear hK K
 refine norm_ (a' := ?_) ?_ ?_
 rotate_left
 ·
  show Act.put _ (some 26) _ = _
  simp only [Act.put, List.setIfInBounds_toArray, List.set_cons_zero, List.set_cons_succ, i64_w, i32_w]
  rfl
 refine one_ (i := 23) (N := some 27) #[true, true, true, true, true, true, true, true, true, true, true, true, true, true, true, true, true, true, true, true, true, true, true, true, false] rfl rfl (by kernel_rfl) (by decide) (fun K hK => ?_)
 refine value_ (w1 := ?_) (v := ?_) (by rfl) rfl ?_ ?_
 rotate_left 2
 ·
  go_simp
  constructor
  ·
   rfl
  ·
   rfl
 refine hK.out _ _ ⟨cellL (below_alloc hb3 (.cells #[.string x.id, .string x.client, .string x.user, .string x.conn, .string x.sub, .string x.nonce, .string x.scope, .string x.claims, .string x.refresh, .string x.up, .string (flB x.rev)] 9)) c0, cellL (below_alloc hb3 (.cells #[.string x.id, .string x.client, .string x.user, .string x.conn, .string x.sub, .string x.nonce, .string x.scope, .string x.claims, .string x.refresh, .string x.up, .string (flB x.rev)] 9)) c1, cellL (below_alloc hb3 (.cells #[.string x.id, .string x.client, .string x.user, .string x.conn, .string x.sub, .string x.nonce, .string x.scope, .string x.claims, .string x.refresh, .string x.up, .string (flB x.rev)] 9)) c2, cellL (below_alloc hb3 (.cells #[.string x.id, .string x.client, .string x.user, .string x.conn, .string x.sub, .string x.nonce, .string x.scope, .string x.claims, .string x.refresh, .string x.up, .string (flB x.rev)] 9)) c3, cellL (below_alloc hb3 (.cells #[.string x.id, .string x.client, .string x.user, .string x.conn, .string x.sub, .string x.nonce, .string x.scope, .string x.claims, .string x.refresh, .string x.up, .string (flB x.rev)] 9)) c4, cellL (below_alloc hb3 (.cells #[.string x.id, .string x.client, .string x.user, .string x.conn, .string x.sub, .string x.nonce, .string x.scope, .string x.claims, .string x.refresh, .string x.up, .string (flB x.rev)] 9)) c5, cellL (below_alloc hb3 (.cells #[.string x.id, .string x.client, .string x.user, .string x.conn, .string x.sub, .string x.nonce, .string x.scope, .string x.claims, .string x.refresh, .string x.up, .string (flB x.rev)] 9)) c6, cellL (below_alloc hb3 (.cells #[.string x.id, .string x.client, .string x.user, .string x.conn, .string x.sub, .string x.nonce, .string x.scope, .string x.claims, .string x.refresh, .string x.up, .string (flB x.rev)] 9)) c7, cellL (below_alloc hb3 (.cells #[.string x.id, .string x.client, .string x.user, .string x.conn, .string x.sub, .string x.nonce, .string x.scope, .string x.claims, .string x.refresh, .string x.up, .string (flB x.rev)] 9)) c8, cellL (below_alloc hb3 (.cells #[.string x.id, .string x.client, .string x.user, .string x.conn, .string x.sub, .string x.nonce, .string x.scope, .string x.claims, .string x.refresh, .string x.up, .string (flB x.rev)] 9)) c9, cellL (below_alloc hb3 (.cells #[.string x.id, .string x.client, .string x.user, .string x.conn, .string x.sub, .string x.nonce, .string x.scope, .string x.claims, .string x.refresh, .string x.up, .string (flB x.rev)] 9)) c11⟩ (fun hHeld => ?_)
 clear hK K
 refine norm_ (a' := ?_) ?_ ?_
 rotate_left
 ·
  show Act.put _ (some 27) _ = _
  simp only [Act.put, List.setIfInBounds_toArray, List.set_cons_zero, List.set_cons_succ, i64_w, i32_w]
  rfl
 refine pure_ (i := 24) (N := some 3) (v := ?_) (a' := ?_) #[true, true, true, true, true, true, true, true, true, true, true, true, true, true, true, true, true, true, true, true, true, true, true, true, true] rfl rfl (by kernel_rfl) (fun _ _ _ h => h) (Or.inl ⟨by rfl, ?_⟩) ?_ ?_
 rotate_left
 ·
  intro w'
  go_simp
  with_reducible rfl
 rotate_left
 ·
  simp only [Act.put, List.setIfInBounds_toArray, List.set_cons_zero, List.set_cons_succ, i64_w, i32_w]
  rfl
 refine done_ (by kernel_rfl) ?_
 have hB3 := below_then hB1 hB1.size hb3
 have hz3 := blk_below hz1 hb3
 have hh4 := heap_alloc_new w3 (.cells #[.string x.id, .string x.client, .string x.user, .string x.conn, .string x.sub, .string x.nonce, .string x.scope, .string x.claims, .string x.refresh, .string x.up, .string (flB x.rev)] 9)
 have hb4 : Below w3.heap.size w3 (w3.alloc (.cells #[.string x.id, .string x.client, .string x.user, .string x.conn, .string x.sub, .string x.nonce, .string x.scope, .string x.claims, .string x.refresh, .string x.up, .string (flB x.rev)] 9)) := (Below.refl _ w3).alloc (Nat.le_refl _) _
 generalize w3.alloc (.cells #[.string x.id, .string x.client, .string x.user, .string x.conn, .string x.sub, .string x.nonce, .string x.scope, .string x.claims, .string x.refresh, .string x.up, .string (flB x.rev)] 9) = w4 at hb4 hh4 ⊢
 have hz4 := blk_below hz3 hb4
 have hB4 := below_then hB3 hB3.size hb4
 have hR4 : StrR w3.heap.size w4 (.slice (some ⟨w3.heap.size, 0, none⟩) (hdL x).length 11) (hdL x) := Kd.R_of_own (enc := Value.string) (h1 := fun _ => rfl) ⟨rfl, .inr ⟨w3.heap.size, 11, _, rfl, Nat.le_refl _, hh4, Nat.le_refl _, by decide, rfl, rfl⟩⟩ (fun _ _ => trivial)
 have c10 : w4.cell? ⟨w.heap.size, 10, none⟩ = some (.slice A x.old.length c) := (blk_cell hz4 10).trans rfl
 have hg5 := heap_alloc_new w4 (.cells #[.slice (some ⟨w3.heap.size, 0, none⟩) 11 11, .slice A x.old.length c] 88)
 have hb5 : Below w4.heap.size w4 (w4.alloc (.cells #[.slice (some ⟨w3.heap.size, 0, none⟩) 11 11, .slice A x.old.length c] 88)) := (Below.refl _ w4).alloc (Nat.le_refl _) _
 have hB5 := below_then hB4 hB4.size hb5
 have hcon := concat_says w4.heap.size (some ⟨w3.heap.size, 0, none⟩) A 11 c (hdL x) x.old (w4.alloc (.cells #[.slice (some ⟨w3.heap.size, 0, none⟩) 11 11, .slice A x.old.length c] 88)) hg5 (Kd.C_below (Kd.R_reads' hR4).2.2 hb5) (Kd.C_below hC hB5) (by rw [hdl]; omega)
 rw [← hfl] at hcon
 clear c0 c1 c2 c3 c4 c5 c6 c7 c8 c9 c11 hfl hdl hz hz1 hz3 hz4 hh4 hR4 hg5 hC
 go_wp2_with fail
 refine hcon.mono ?_
 rintro e w6 ⟨v6, rfl, hr6, hb6⟩
 have hB6 := below_then hB5 hB5.size hb6
 obtain ⟨A6, q6, e6⟩ := Kd.R_slice hr6
 subst e6
 have htx := row_Texts.says A6 q6 (famL x) w6 (Kd.R_reads' hr6).2.2 hs (hGP.below hB6)
 clear hcon
 go_wp2_with fail
 refine htx.mono ?_
 rintro e w7 ⟨rfl, hb7⟩
 go_wp2_with fail
 go_ret
 exact ⟨rfl, below_then hB6 hB6.size hb7⟩
end Go.Proofs.YtpoblffgclmmlaaGreatDoor.X
end
section
set_option linter.unusedVariables false
set_option linter.unusedSimpArgs false
namespace Go.Proofs.YtpoblffgclmmlaaGreatDoor.X
open Go.RowKit Go.WideMaps Go.Maps Go.Proofs.YtpoblffgclmmlaaGreatDoorW.PrintWords Go.Proofs.YtpoblffgclmmlaaGreatDoorW.PrintLast Go.Proofs.YtpoblffgclmmlaaGreatDoorW.PrintMore Go.Proofs.YtpoblffgclmmlaaGreatDoor.Q

def kFam : Kd Fam := Kd.iso (Kd.pair Kd.string (Kd.pair Kd.string (Kd.pair Kd.string (Kd.pair Kd.string (Kd.pair Kd.string (Kd.pair Kd.string (Kd.pair Kd.string (Kd.pair Kd.string (Kd.pair Kd.string (Kd.pair Kd.string (Kd.pair (Kd.slice 9 Kd.string) Kd.bool))))))))))) (fun x : Fam => (x.id, x.client, x.user, x.conn, x.sub, x.nonce, x.scope, x.claims, x.refresh, x.up, x.old, x.rev))
theorem kFam_open {w : World} {x : Fam} {cs : List Value} (h : kFam.K w x cs) : ∃ A10 c10, cs = [.string x.id, .string x.client, .string x.user, .string x.conn, .string x.sub, .string x.nonce, .string x.scope, .string x.claims, .string x.refresh, .string x.up, .slice A10 x.old.length c10, .bool x.rev] ∧ x.old.length ≤ c10 ∧ Kd.string.C w A10 x.old.length x.old := by
 obtain ⟨_, _, rfl, rfl, ⟨_, _, rfl, rfl, ⟨_, _, rfl, rfl, ⟨_, _, rfl, rfl, ⟨_, _, rfl, rfl, ⟨_, _, rfl, rfl, ⟨_, _, rfl, rfl, ⟨_, _, rfl, rfl, ⟨_, _, rfl, rfl, ⟨_, _, rfl, rfl, ⟨_, _, rfl, ⟨A10, c10, rfl, l10, g10⟩, rfl⟩⟩⟩⟩⟩⟩⟩⟩⟩⟩⟩ := h
 exact ⟨A10, c10, rfl, l10, g10⟩
theorem kFam_mk (w : World) (x : Fam) {A10 : Option Addr} {c10 : Nat} (l10 : x.old.length ≤ c10) (g10 : Kd.string.C w A10 x.old.length x.old) : kFam.K w x [.string x.id, .string x.client, .string x.user, .string x.conn, .string x.sub, .string x.nonce, .string x.scope, .string x.claims, .string x.refresh, .string x.up, .slice A10 x.old.length c10, .bool x.rev] := ⟨[.string x.id], [.string x.client, .string x.user, .string x.conn, .string x.sub, .string x.nonce, .string x.scope, .string x.claims, .string x.refresh, .string x.up, .slice A10 x.old.length c10, .bool x.rev], rfl, rfl, ⟨[.string x.client], [.string x.user, .string x.conn, .string x.sub, .string x.nonce, .string x.scope, .string x.claims, .string x.refresh, .string x.up, .slice A10 x.old.length c10, .bool x.rev], rfl, rfl, ⟨[.string x.user], [.string x.conn, .string x.sub, .string x.nonce, .string x.scope, .string x.claims, .string x.refresh, .string x.up, .slice A10 x.old.length c10, .bool x.rev], rfl, rfl, ⟨[.string x.conn], [.string x.sub, .string x.nonce, .string x.scope, .string x.claims, .string x.refresh, .string x.up, .slice A10 x.old.length c10, .bool x.rev], rfl, rfl, ⟨[.string x.sub], [.string x.nonce, .string x.scope, .string x.claims, .string x.refresh, .string x.up, .slice A10 x.old.length c10, .bool x.rev], rfl, rfl, ⟨[.string x.nonce], [.string x.scope, .string x.claims, .string x.refresh, .string x.up, .slice A10 x.old.length c10, .bool x.rev], rfl, rfl, ⟨[.string x.scope], [.string x.claims, .string x.refresh, .string x.up, .slice A10 x.old.length c10, .bool x.rev], rfl, rfl, ⟨[.string x.claims], [.string x.refresh, .string x.up, .slice A10 x.old.length c10, .bool x.rev], rfl, rfl, ⟨[.string x.refresh], [.string x.up, .slice A10 x.old.length c10, .bool x.rev], rfl, rfl, ⟨[.string x.up], [.slice A10 x.old.length c10, .bool x.rev], rfl, rfl, ⟨[.slice A10 x.old.length c10], [.bool x.rev], rfl, ⟨A10, c10, rfl, l10, g10⟩, rfl⟩⟩⟩⟩⟩⟩⟩⟩⟩⟩⟩
theorem kFam_openF {W : World} {ok : Nat → Prop} {x : Fam} {cs : List Value} (h : Kd.FK kFam W ok x cs) : ∃ A10 c10, cs = [.string x.id, .string x.client, .string x.user, .string x.conn, .string x.sub, .string x.nonce, .string x.scope, .string x.claims, .string x.refresh, .string x.up, .slice A10 x.old.length c10, .bool x.rev] ∧ x.old.length ≤ c10 ∧ Kd.F Kd.string W ok A10 x.old.length x.old := by
 obtain ⟨A10, c10, rfl, l10, _⟩ := kFam_open (Kd.FK_now h)
 exact ⟨A10, c10, rfl, l10, (fun W' hW => by obtain ⟨A10_, c10_, he, l10_, g10_⟩ := kFam_open (h W' hW); injection (Option.some.inj (show some (Value.slice A10 x.old.length c10) = some (Value.slice A10_ x.old.length c10_) from congrArg (fun l => l[10]?) he)) with ha_ _ _; rw [ha_]; exact g10_)⟩
theorem kFam_mkF (W : World) (ok : Nat → Prop) (x : Fam) {A10 : Option Addr} {c10 : Nat} (l10 : x.old.length ≤ c10) (g10 : Kd.F Kd.string W ok A10 x.old.length x.old) : Kd.FK kFam W ok x [.string x.id, .string x.client, .string x.user, .string x.conn, .string x.sub, .string x.nonce, .string x.scope, .string x.claims, .string x.refresh, .string x.up, .slice A10 x.old.length c10, .bool x.rev] := fun W2 hW => kFam_mk W2 x l10 (g10 W2 hW)
end Go.Proofs.YtpoblffgclmmlaaGreatDoor.X
end
section
set_option linter.unusedVariables false
set_option linter.unusedSimpArgs false
namespace Go.Proofs.YtpoblffgclmmlaaGreatDoor.X
open Go.RowKit Go.WideMaps Go.Maps Go.Proofs.YtpoblffgclmmlaaGreatDoorW.PrintWords Go.Proofs.YtpoblffgclmmlaaGreatDoorW.PrintLast Go.Proofs.YtpoblffgclmmlaaGreatDoorW.PrintMore Go.Proofs.YtpoblffgclmmlaaGreatDoor.Q

/-- What a family's value leads to: old texts, in blocks from b on. -/
def FamR (w : World) (b : Nat) (x : Fam) (A : Option Addr) (c : Nat) : Prop := x.old.length ≤ c ∧ Kd.F Kd.string w (fun k => b ≤ k) A x.old.length x.old
def famE (o : Option Fam) : Int := if o.isSome = true then 0 else 2
theorem FamR.below {w w' : World} {b : Nat} {x : Fam} {A : Option Addr} {c : Nat} (h : FamR w b x A c) (hb : Below w.heap.size w w') : FamR w' b x A c := ⟨h.1, Kd.F_below h.2 hb⟩
theorem FamR.lower {w : World} {b b' : Nat} {x : Fam} {A : Option Addr} {c : Nat} (h : FamR w b x A c) (hb : b' ≤ b) : FamR w b' x A c := ⟨h.1, Kd.F_mono h.2 (fun _ hk => Nat.le_trans hb hk)⟩
theorem FamR.C {w : World} {b : Nat} {x : Fam} {A : Option Addr} {c : Nat} (h : FamR w b x A c) : Kd.C Kd.string w A x.old.length x.old := Kd.F_now h.2
theorem FamR.nil (w : World) (b : Nat) (c : Nat) : FamR w b famZ none c := ⟨Nat.zero_le _, Kd.F_nil _ _ _⟩
theorem drop_row (A : Option Addr) (l : List ByteArray) (c m : Nat) (hc : l.length ≤ c) (hm : m ≤ l.length) :
  ∃ A2, (∀ W, (Instr.slice 88 (.slice A l.length c) (some (.int .i64 (m : Int))) none none).run Tryz.prog W = .ok (.slice A2 (l.length - m) (c - m)) W) ∧ ∀ w, Kd.C Kd.string w A l.length l → Kd.C Kd.string w A2 (l.length - m) (l.drop m) := by
 obtain ⟨i05, hi05, _, hsz5, _⟩ := info_parts (show (Tryz.prog.info? 9).map (fun i => (i.zero, i.size, i.bytes)) = some (some (.string ⟨#[]⟩), 1, 16) by kernel_rfl)
 have hcut := cut_from (P := Tryz.prog) 88 9 .i64 Tryz.underlying88 hi05 1 hsz5 A l.length c (m : Int) (by omega) (by omega)
 simp only [Int.toNat_natCast] at hcut
 refine ⟨_, hcut, fun w h => ?_⟩
 have := Kd.C_drop (m := m) h hm hc
 rw [List.length_drop] at this
 exact this
theorem readF_if {v : ByteArray} {s0 s1 s2 s3 s4 s5 s6 s7 s8 s9 s10 : ByteArray} {rest : List ByteArray} {bb : Bool} (h : unTx v = some (s0 :: s1 :: s2 :: s3 :: s4 :: s5 :: s6 :: s7 :: s8 :: s9 :: s10 :: rest)) (hbb : (s10.toList == [49]) = bb) :
  readF v = if famT (⟨s0, s1, s2, s3, s4, s5, s6, s7, s8, s9, rest, bb⟩ : Fam) = v then some (⟨s0, s1, s2, s3, s4, s5, s6, s7, s8, s9, rest, bb⟩ : Fam) else none := by
 split
 ·
  rename_i e
  rw [← e]; exact readF_of _
 ·
  rename_i hne
  cases hr : readF v with
  | none => rfl
  | some y =>
   have e := readF_some hr
   have e2 : famL y = s0 :: s1 :: s2 :: s3 :: s4 :: s5 :: s6 :: s7 :: s8 :: s9 :: s10 :: rest := txs_inj ((congrArg (fun b : ByteArray => b.data.toList) e).trans ((unTx_iff v _).1 h).symm)
   obtain ⟨y0, y1, y2, y3, y4, y5, y6, y7, y8, y9, yo, yr⟩ := y
   simp only [famL, hdL, List.cons_append, List.nil_append, List.cons.injEq] at e2
   obtain ⟨e0, e1, e2, e3, e4, e5, e6, e7, e8, e9, e10, e11⟩ := e2
   have f10 : yr = bb := by
    rw [← hbb, ← e10]
    cases yr <;> simp [flB, ByteArray.toList_eq]
   refine absurd ?_ hne
   rw [← e]
   subst e0 e1 e2 e3 e4 e5 e6 e7 e8 e9 e11 f10
   rfl
theorem txs_lenA (a b : List ByteArray) : (txs (a ++ b)).length = (txs a).length + (txs b).length := by
 induction a with
 | nil => rw [List.nil_append, txs_nil, List.length_nil, Nat.zero_add]
 | cons x a ih => rw [List.cons_append, txs_cons, txs_cons, List.length_append, List.length_append, List.length_cons, List.length_cons, List.length_append, List.length_append, ih]; omega
theorem txs_swap {a r : List ByteArray} {s t : ByteArray} {N : Nat} (h : (txs (a ++ s :: r)).length ≤ N) (ht : t.size ≤ 10) : (txs (a ++ t :: r)).length ≤ N + 30 := by
 have hd := dd_len20 t.size (by omega)
 have h2 : t.data.toList.length = t.size := by rw [Array.length_toList, ByteArray.size_data]
 rw [txs_lenA, txs_cons, List.length_append, List.length_cons, List.length_append] at h ⊢
 omega
theorem fam_len {s0 s1 s2 s3 s4 s5 s6 s7 s8 s9 s10 : ByteArray} {rest : List ByteArray} {bb : Bool} {N : Nat} (h : (txs (s0 :: s1 :: s2 :: s3 :: s4 :: s5 :: s6 :: s7 :: s8 :: s9 :: s10 :: rest)).length ≤ N) : (txs (famL (⟨s0, s1, s2, s3, s4, s5, s6, s7, s8, s9, rest, bb⟩ : Fam))).length ≤ N + 30 :=
 txs_swap (a := [s0, s1, s2, s3, s4, s5, s6, s7, s8, s9]) (s := s10) (t := flB bb) (r := rest) h (by cases bb <;> decide)
theorem row11 {w : World} {A : Option Addr} {s0 s1 s2 s3 s4 s5 s6 s7 s8 s9 s10 : ByteArray} {rest : List ByteArray} {n : Nat} (hn : n = (s0 :: s1 :: s2 :: s3 :: s4 :: s5 :: s6 :: s7 :: s8 :: s9 :: s10 :: rest).length) (h : Kd.C Kd.string w A n (s0 :: s1 :: s2 :: s3 :: s4 :: s5 :: s6 :: s7 :: s8 :: s9 :: s10 :: rest)) :
  ∃ ad : Addr, A = some ad ∧ w.cell? ad = some (.string s0) ∧ w.cell? ⟨ad.block, ad.off + 1, none⟩ = some (.string s1) ∧ w.cell? ⟨ad.block, ad.off + 2, none⟩ = some (.string s2) ∧ w.cell? ⟨ad.block, ad.off + 3, none⟩ = some (.string s3) ∧ w.cell? ⟨ad.block, ad.off + 4, none⟩ = some (.string s4) ∧ w.cell? ⟨ad.block, ad.off + 5, none⟩ = some (.string s5) ∧ w.cell? ⟨ad.block, ad.off + 6, none⟩ = some (.string s6) ∧ w.cell? ⟨ad.block, ad.off + 7, none⟩ = some (.string s7) ∧ w.cell? ⟨ad.block, ad.off + 8, none⟩ = some (.string s8) ∧ w.cell? ⟨ad.block, ad.off + 9, none⟩ = some (.string s9) ∧ w.cell? ⟨ad.block, ad.off + 10, none⟩ = some (.string s10) := by
 subst hn
 obtain ⟨ad, rfl, h0⟩ := Kd.at_string h 0 (by omega) (by simp only [List.length_cons]; omega)
 refine ⟨ad, rfl, ?_, ?_, ?_, ?_, ?_, ?_, ?_, ?_, ?_, ?_, ?_⟩
 ·
  obtain ⟨ad', e, h1⟩ := Kd.at_string h 0 (by omega) (by simp only [List.length_cons]; omega)
  cases e; exact h1
 ·
  obtain ⟨ad', e, h1⟩ := Kd.at_string h 1 (by omega) (by simp only [List.length_cons]; omega)
  cases e; exact h1
 ·
  obtain ⟨ad', e, h1⟩ := Kd.at_string h 2 (by omega) (by simp only [List.length_cons]; omega)
  cases e; exact h1
 ·
  obtain ⟨ad', e, h1⟩ := Kd.at_string h 3 (by omega) (by simp only [List.length_cons]; omega)
  cases e; exact h1
 ·
  obtain ⟨ad', e, h1⟩ := Kd.at_string h 4 (by omega) (by simp only [List.length_cons]; omega)
  cases e; exact h1
 ·
  obtain ⟨ad', e, h1⟩ := Kd.at_string h 5 (by omega) (by simp only [List.length_cons]; omega)
  cases e; exact h1
 ·
  obtain ⟨ad', e, h1⟩ := Kd.at_string h 6 (by omega) (by simp only [List.length_cons]; omega)
  cases e; exact h1
 ·
  obtain ⟨ad', e, h1⟩ := Kd.at_string h 7 (by omega) (by simp only [List.length_cons]; omega)
  cases e; exact h1
 ·
  obtain ⟨ad', e, h1⟩ := Kd.at_string h 8 (by omega) (by simp only [List.length_cons]; omega)
  cases e; exact h1
 ·
  obtain ⟨ad', e, h1⟩ := Kd.at_string h 9 (by omega) (by simp only [List.length_cons]; omega)
  cases e; exact h1
 ·
  obtain ⟨ad', e, h1⟩ := Kd.at_string h 10 (by omega) (by simp only [List.length_cons]; omega)
  cases e; exact h1
set_option maxHeartbeats 4000000 in
set_option maxRecDepth 100000 in
theorem rfam_says (v : ByteArray) (hv : v.size ≤ 4294967280) (w : World) (hGP : GP w) (hGE : GE w) :
  Calls Tryz.prog 118 #[.string v] w fun e w' => ∃ A c, e = .returned (.tuple #[famV ((readF v).getD famZ) A c, .int .i64 (famE (readF v))]) ∧ FamR w' w.heap.size ((readF v).getD famZ) A c ∧ Below w.heap.size w w' := by
 have hB0 : Below w.heap.size w (w.alloc (.cells #[.string ⟨#[]⟩, .string ⟨#[]⟩, .string ⟨#[]⟩, .string ⟨#[]⟩, .string ⟨#[]⟩, .string ⟨#[]⟩, .string ⟨#[]⟩, .string ⟨#[]⟩, .string ⟨#[]⟩, .string ⟨#[]⟩, .slice none 0 0, .bool false] 93)) := (Below.refl _ w).alloc (Nat.le_refl _) _
 have hf := fun w1 (hb : Below w.heap.size w w1) => fields_says v 11 hv w1 (hGP.below hb) (hGE.below hb)
 have hz := heap_alloc_new w (.cells #[.string ⟨#[]⟩, .string ⟨#[]⟩, .string ⟨#[]⟩, .string ⟨#[]⟩, .string ⟨#[]⟩, .string ⟨#[]⟩, .string ⟨#[]⟩, .string ⟨#[]⟩, .string ⟨#[]⟩, .string ⟨#[]⟩, .slice none 0 0, .bool false] 93)
 cases hU : unTx v with
 | none =>
  rw [readF_nil hU]
  rw [fldR_none hU] at hf
  go_enter Tryz.func118, Tryz.ntmps118
  go_wp2_with fail
  refine (hf _ hB0).mono ?_
  rintro e w1 ⟨v1, rfl, hr1, hb1⟩
  have hB1 := below_then hB0 hB0.size hb1
  have hz1 := blk_below hz hb1
  have c0 := blk_cell hz1 0
  have f0 := blk_frozen hz1 0
  have c1 := blk_cell hz1 1
  have f1 := blk_frozen hz1 1
  have c2 := blk_cell hz1 2
  have f2 := blk_frozen hz1 2
  have c3 := blk_cell hz1 3
  have f3 := blk_frozen hz1 3
  have c4 := blk_cell hz1 4
  have f4 := blk_frozen hz1 4
  have c5 := blk_cell hz1 5
  have f5 := blk_frozen hz1 5
  have c6 := blk_cell hz1 6
  have f6 := blk_frozen hz1 6
  have c7 := blk_cell hz1 7
  have f7 := blk_frozen hz1 7
  have c8 := blk_cell hz1 8
  have f8 := blk_frozen hz1 8
  have c9 := blk_cell hz1 9
  have f9 := blk_frozen hz1 9
  have c10 := blk_cell hz1 10
  have f10 := blk_frozen hz1 10
  have c11 := blk_cell hz1 11
  have f11 := blk_frozen hz1 11
  go_wp2_with fail
  refine bodyPost_ret (results_ct rfl _ _ w.heap.size 93 #[.string ⟨#[]⟩, .string ⟨#[]⟩, .string ⟨#[]⟩, .string ⟨#[]⟩, .string ⟨#[]⟩, .string ⟨#[]⟩, .string ⟨#[]⟩, .string ⟨#[]⟩, .string ⟨#[]⟩, .string ⟨#[]⟩, .slice none 0 0, .bool false] (0, 0) _ rfl (by
   refine blk_put (cs := #[.string ⟨#[]⟩, .string ⟨#[]⟩, .string ⟨#[]⟩, .string ⟨#[]⟩, .string ⟨#[]⟩, .string ⟨#[]⟩, .string ⟨#[]⟩, .string ⟨#[]⟩, .string ⟨#[]⟩, .string ⟨#[]⟩, .slice none 0 0, .bool false]) ?_ 11 _ rfl
   refine blk_put (cs := #[.string ⟨#[]⟩, .string ⟨#[]⟩, .string ⟨#[]⟩, .string ⟨#[]⟩, .string ⟨#[]⟩, .string ⟨#[]⟩, .string ⟨#[]⟩, .string ⟨#[]⟩, .string ⟨#[]⟩, .string ⟨#[]⟩, .slice none 0 0, .bool false]) ?_ 10 _ rfl
   refine blk_put (cs := #[.string ⟨#[]⟩, .string ⟨#[]⟩, .string ⟨#[]⟩, .string ⟨#[]⟩, .string ⟨#[]⟩, .string ⟨#[]⟩, .string ⟨#[]⟩, .string ⟨#[]⟩, .string ⟨#[]⟩, .string ⟨#[]⟩, .slice none 0 0, .bool false]) ?_ 9 _ rfl
   refine blk_put (cs := #[.string ⟨#[]⟩, .string ⟨#[]⟩, .string ⟨#[]⟩, .string ⟨#[]⟩, .string ⟨#[]⟩, .string ⟨#[]⟩, .string ⟨#[]⟩, .string ⟨#[]⟩, .string ⟨#[]⟩, .string ⟨#[]⟩, .slice none 0 0, .bool false]) ?_ 8 _ rfl
   refine blk_put (cs := #[.string ⟨#[]⟩, .string ⟨#[]⟩, .string ⟨#[]⟩, .string ⟨#[]⟩, .string ⟨#[]⟩, .string ⟨#[]⟩, .string ⟨#[]⟩, .string ⟨#[]⟩, .string ⟨#[]⟩, .string ⟨#[]⟩, .slice none 0 0, .bool false]) ?_ 7 _ rfl
   refine blk_put (cs := #[.string ⟨#[]⟩, .string ⟨#[]⟩, .string ⟨#[]⟩, .string ⟨#[]⟩, .string ⟨#[]⟩, .string ⟨#[]⟩, .string ⟨#[]⟩, .string ⟨#[]⟩, .string ⟨#[]⟩, .string ⟨#[]⟩, .slice none 0 0, .bool false]) ?_ 6 _ rfl
   refine blk_put (cs := #[.string ⟨#[]⟩, .string ⟨#[]⟩, .string ⟨#[]⟩, .string ⟨#[]⟩, .string ⟨#[]⟩, .string ⟨#[]⟩, .string ⟨#[]⟩, .string ⟨#[]⟩, .string ⟨#[]⟩, .string ⟨#[]⟩, .slice none 0 0, .bool false]) ?_ 5 _ rfl
   refine blk_put (cs := #[.string ⟨#[]⟩, .string ⟨#[]⟩, .string ⟨#[]⟩, .string ⟨#[]⟩, .string ⟨#[]⟩, .string ⟨#[]⟩, .string ⟨#[]⟩, .string ⟨#[]⟩, .string ⟨#[]⟩, .string ⟨#[]⟩, .slice none 0 0, .bool false]) ?_ 4 _ rfl
   refine blk_put (cs := #[.string ⟨#[]⟩, .string ⟨#[]⟩, .string ⟨#[]⟩, .string ⟨#[]⟩, .string ⟨#[]⟩, .string ⟨#[]⟩, .string ⟨#[]⟩, .string ⟨#[]⟩, .string ⟨#[]⟩, .string ⟨#[]⟩, .slice none 0 0, .bool false]) ?_ 3 _ rfl
   refine blk_put (cs := #[.string ⟨#[]⟩, .string ⟨#[]⟩, .string ⟨#[]⟩, .string ⟨#[]⟩, .string ⟨#[]⟩, .string ⟨#[]⟩, .string ⟨#[]⟩, .string ⟨#[]⟩, .string ⟨#[]⟩, .string ⟨#[]⟩, .slice none 0 0, .bool false]) ?_ 2 _ rfl
   refine blk_put (cs := #[.string ⟨#[]⟩, .string ⟨#[]⟩, .string ⟨#[]⟩, .string ⟨#[]⟩, .string ⟨#[]⟩, .string ⟨#[]⟩, .string ⟨#[]⟩, .string ⟨#[]⟩, .string ⟨#[]⟩, .string ⟨#[]⟩, .slice none 0 0, .bool false]) ?_ 1 _ rfl
   refine blk_put (cs := #[.string ⟨#[]⟩, .string ⟨#[]⟩, .string ⟨#[]⟩, .string ⟨#[]⟩, .string ⟨#[]⟩, .string ⟨#[]⟩, .string ⟨#[]⟩, .string ⟨#[]⟩, .string ⟨#[]⟩, .string ⟨#[]⟩, .slice none 0 0, .bool false]) ?_ 0 _ rfl
   exact hz1) Tryz.underlying93 rfl (by kernel_rfl)) rfl ?_
  refine ⟨(none : Option Addr), 0, rfl, FamR.nil _ _ _, ?_⟩
  iterate 12 (with_reducible refine below_set ?_ (Nat.le_refl _))
  with_reducible exact hB1
 | some l =>
  by_cases h12 : l.length < 11
  ·
   rw [readF_short hU h12]
   rw [fldR_some hU, decide_eq_false (show ¬ ((l.length : Int) ≥ 11) by omega)] at hf
   go_enter Tryz.func118, Tryz.ntmps118
   go_wp2_with fail
   refine (hf _ hB0).mono ?_
   rintro e w1 ⟨v1, rfl, hr1, hb1⟩
   have hB1 := below_then hB0 hB0.size hb1
   have hz1 := blk_below hz hb1
   have c0 := blk_cell hz1 0
   have f0 := blk_frozen hz1 0
   have c1 := blk_cell hz1 1
   have f1 := blk_frozen hz1 1
   have c2 := blk_cell hz1 2
   have f2 := blk_frozen hz1 2
   have c3 := blk_cell hz1 3
   have f3 := blk_frozen hz1 3
   have c4 := blk_cell hz1 4
   have f4 := blk_frozen hz1 4
   have c5 := blk_cell hz1 5
   have f5 := blk_frozen hz1 5
   have c6 := blk_cell hz1 6
   have f6 := blk_frozen hz1 6
   have c7 := blk_cell hz1 7
   have f7 := blk_frozen hz1 7
   have c8 := blk_cell hz1 8
   have f8 := blk_frozen hz1 8
   have c9 := blk_cell hz1 9
   have f9 := blk_frozen hz1 9
   have c10 := blk_cell hz1 10
   have f10 := blk_frozen hz1 10
   have c11 := blk_cell hz1 11
   have f11 := blk_frozen hz1 11
   go_wp2_with fail
   refine bodyPost_ret (results_ct rfl _ _ w.heap.size 93 #[.string ⟨#[]⟩, .string ⟨#[]⟩, .string ⟨#[]⟩, .string ⟨#[]⟩, .string ⟨#[]⟩, .string ⟨#[]⟩, .string ⟨#[]⟩, .string ⟨#[]⟩, .string ⟨#[]⟩, .string ⟨#[]⟩, .slice none 0 0, .bool false] (0, 0) _ rfl (by
    refine blk_put (cs := #[.string ⟨#[]⟩, .string ⟨#[]⟩, .string ⟨#[]⟩, .string ⟨#[]⟩, .string ⟨#[]⟩, .string ⟨#[]⟩, .string ⟨#[]⟩, .string ⟨#[]⟩, .string ⟨#[]⟩, .string ⟨#[]⟩, .slice none 0 0, .bool false]) ?_ 11 _ rfl
    refine blk_put (cs := #[.string ⟨#[]⟩, .string ⟨#[]⟩, .string ⟨#[]⟩, .string ⟨#[]⟩, .string ⟨#[]⟩, .string ⟨#[]⟩, .string ⟨#[]⟩, .string ⟨#[]⟩, .string ⟨#[]⟩, .string ⟨#[]⟩, .slice none 0 0, .bool false]) ?_ 10 _ rfl
    refine blk_put (cs := #[.string ⟨#[]⟩, .string ⟨#[]⟩, .string ⟨#[]⟩, .string ⟨#[]⟩, .string ⟨#[]⟩, .string ⟨#[]⟩, .string ⟨#[]⟩, .string ⟨#[]⟩, .string ⟨#[]⟩, .string ⟨#[]⟩, .slice none 0 0, .bool false]) ?_ 9 _ rfl
    refine blk_put (cs := #[.string ⟨#[]⟩, .string ⟨#[]⟩, .string ⟨#[]⟩, .string ⟨#[]⟩, .string ⟨#[]⟩, .string ⟨#[]⟩, .string ⟨#[]⟩, .string ⟨#[]⟩, .string ⟨#[]⟩, .string ⟨#[]⟩, .slice none 0 0, .bool false]) ?_ 8 _ rfl
    refine blk_put (cs := #[.string ⟨#[]⟩, .string ⟨#[]⟩, .string ⟨#[]⟩, .string ⟨#[]⟩, .string ⟨#[]⟩, .string ⟨#[]⟩, .string ⟨#[]⟩, .string ⟨#[]⟩, .string ⟨#[]⟩, .string ⟨#[]⟩, .slice none 0 0, .bool false]) ?_ 7 _ rfl
    refine blk_put (cs := #[.string ⟨#[]⟩, .string ⟨#[]⟩, .string ⟨#[]⟩, .string ⟨#[]⟩, .string ⟨#[]⟩, .string ⟨#[]⟩, .string ⟨#[]⟩, .string ⟨#[]⟩, .string ⟨#[]⟩, .string ⟨#[]⟩, .slice none 0 0, .bool false]) ?_ 6 _ rfl
    refine blk_put (cs := #[.string ⟨#[]⟩, .string ⟨#[]⟩, .string ⟨#[]⟩, .string ⟨#[]⟩, .string ⟨#[]⟩, .string ⟨#[]⟩, .string ⟨#[]⟩, .string ⟨#[]⟩, .string ⟨#[]⟩, .string ⟨#[]⟩, .slice none 0 0, .bool false]) ?_ 5 _ rfl
    refine blk_put (cs := #[.string ⟨#[]⟩, .string ⟨#[]⟩, .string ⟨#[]⟩, .string ⟨#[]⟩, .string ⟨#[]⟩, .string ⟨#[]⟩, .string ⟨#[]⟩, .string ⟨#[]⟩, .string ⟨#[]⟩, .string ⟨#[]⟩, .slice none 0 0, .bool false]) ?_ 4 _ rfl
    refine blk_put (cs := #[.string ⟨#[]⟩, .string ⟨#[]⟩, .string ⟨#[]⟩, .string ⟨#[]⟩, .string ⟨#[]⟩, .string ⟨#[]⟩, .string ⟨#[]⟩, .string ⟨#[]⟩, .string ⟨#[]⟩, .string ⟨#[]⟩, .slice none 0 0, .bool false]) ?_ 3 _ rfl
    refine blk_put (cs := #[.string ⟨#[]⟩, .string ⟨#[]⟩, .string ⟨#[]⟩, .string ⟨#[]⟩, .string ⟨#[]⟩, .string ⟨#[]⟩, .string ⟨#[]⟩, .string ⟨#[]⟩, .string ⟨#[]⟩, .string ⟨#[]⟩, .slice none 0 0, .bool false]) ?_ 2 _ rfl
    refine blk_put (cs := #[.string ⟨#[]⟩, .string ⟨#[]⟩, .string ⟨#[]⟩, .string ⟨#[]⟩, .string ⟨#[]⟩, .string ⟨#[]⟩, .string ⟨#[]⟩, .string ⟨#[]⟩, .string ⟨#[]⟩, .string ⟨#[]⟩, .slice none 0 0, .bool false]) ?_ 1 _ rfl
    refine blk_put (cs := #[.string ⟨#[]⟩, .string ⟨#[]⟩, .string ⟨#[]⟩, .string ⟨#[]⟩, .string ⟨#[]⟩, .string ⟨#[]⟩, .string ⟨#[]⟩, .string ⟨#[]⟩, .string ⟨#[]⟩, .string ⟨#[]⟩, .slice none 0 0, .bool false]) ?_ 0 _ rfl
    exact hz1) Tryz.underlying93 rfl (by kernel_rfl)) rfl ?_
   refine ⟨(none : Option Addr), 0, rfl, FamR.nil _ _ _, ?_⟩
   iterate 12 (with_reducible refine below_set ?_ (Nat.le_refl _))
   with_reducible exact hB1
  ·
   obtain ⟨s0, s1, s2, s3, s4, s5, s6, s7, s8, s9, s10, rest, rfl⟩ : ∃ s0 s1 s2 s3 s4 s5 s6 s7 s8 s9 s10 rest, l = s0 :: s1 :: s2 :: s3 :: s4 :: s5 :: s6 :: s7 :: s8 :: s9 :: s10 :: rest := by
    match l, h12 with
    | s0 :: s1 :: s2 :: s3 :: s4 :: s5 :: s6 :: s7 :: s8 :: s9 :: s10 :: rest, _ => exact ⟨s0, s1, s2, s3, s4, s5, s6, s7, s8, s9, s10, rest, rfl⟩
    | [], h => exact absurd (by decide) h
    | [_], h => exact absurd (by simp) h
    | [_, _], h => exact absurd (by simp) h
    | [_, _, _], h => exact absurd (by simp) h
    | [_, _, _, _], h => exact absurd (by simp) h
    | [_, _, _, _, _], h => exact absurd (by simp) h
    | [_, _, _, _, _, _], h => exact absurd (by simp) h
    | [_, _, _, _, _, _, _], h => exact absurd (by simp) h
    | [_, _, _, _, _, _, _, _], h => exact absurd (by simp) h
    | [_, _, _, _, _, _, _, _, _], h => exact absurd (by simp) h
    | [_, _, _, _, _, _, _, _, _, _], h => exact absurd (by simp) h
   rw [fldR_some hU, decide_eq_true (show (((s0 :: s1 :: s2 :: s3 :: s4 :: s5 :: s6 :: s7 :: s8 :: s9 :: s10 :: rest).length : Nat) : Int) ≥ 11 by simp only [List.length_cons]; omega)] at hf
   have hlen : (txs (s0 :: s1 :: s2 :: s3 :: s4 :: s5 :: s6 :: s7 :: s8 :: s9 :: s10 :: rest)).length = v.size := by rw [(unTx_iff v _).1 hU, data_size]
   have hcnt := txs_long (s0 :: s1 :: s2 :: s3 :: s4 :: s5 :: s6 :: s7 :: s8 :: s9 :: s10 :: rest)
   simp only [List.length_cons] at hcnt
   have hrl : rest.length ≤ 100000000000 := by omega
   obtain ⟨bb, hbb⟩ : ∃ bb, (s10.toList == [49]) = bb := ⟨_, rfl⟩
   have hif := readF_if hU hbb
   obtain ⟨n, hn⟩ : ∃ n, n = (s0 :: s1 :: s2 :: s3 :: s4 :: s5 :: s6 :: s7 :: s8 :: s9 :: s10 :: rest).length := ⟨_, rfl⟩
   have hn11 : 11 ≤ n := by rw [hn]; simp only [List.length_cons]; omega
   have hnr : n - 11 = rest.length := by rw [hn]; simp only [List.length_cons]; omega
   have i0 : ((0 : Int) < (n : Int)) = True := eq_true (by omega)
   have j0 : 0 < n := by omega
   have i1 : ((1 : Int) < (n : Int)) = True := eq_true (by omega)
   have j1 : 1 < n := by omega
   have i2 : ((2 : Int) < (n : Int)) = True := eq_true (by omega)
   have j2 : 2 < n := by omega
   have i3 : ((3 : Int) < (n : Int)) = True := eq_true (by omega)
   have j3 : 3 < n := by omega
   have i4 : ((4 : Int) < (n : Int)) = True := eq_true (by omega)
   have j4 : 4 < n := by omega
   have i5 : ((5 : Int) < (n : Int)) = True := eq_true (by omega)
   have j5 : 5 < n := by omega
   have i6 : ((6 : Int) < (n : Int)) = True := eq_true (by omega)
   have j6 : 6 < n := by omega
   have i7 : ((7 : Int) < (n : Int)) = True := eq_true (by omega)
   have j7 : 7 < n := by omega
   have i8 : ((8 : Int) < (n : Int)) = True := eq_true (by omega)
   have j8 : 8 < n := by omega
   have i9 : ((9 : Int) < (n : Int)) = True := eq_true (by omega)
   have j9 : 9 < n := by omega
   have i10 : ((10 : Int) < (n : Int)) = True := eq_true (by omega)
   have j10 : 10 < n := by omega
   go_enter Tryz.func118, Tryz.ntmps118
   go_wp2_with fail
   refine (hf _ hB0).mono ?_
   rintro e w1 ⟨v1, rfl, hr1, hb1⟩
   have hB1 := below_then hB0 hB0.size hb1
   have hz1 := blk_below hz hb1
   obtain ⟨A1, c1, e1⟩ := Kd.R_slice hr1
   subst e1
   have hcc := (Kd.R_reads' hr1).2.1
   obtain ⟨A2, hcut, hdr⟩ := drop_row A1 (s0 :: s1 :: s2 :: s3 :: s4 :: s5 :: s6 :: s7 :: s8 :: s9 :: s10 :: rest) c1 11 hcc (by rw [← hn]; exact hn11)
   have hC2 := hdr w1 (Kd.R_reads' hr1).2.2
   obtain ⟨ad, rfl, x0, x1, x2, x3, x4, x5, x6, x7, x8, x9, x10⟩ := row11 rfl (Kd.R_reads' hr1).2.2
   rw [← hn, hnr] at hcut hC2
   have hcut : ∀ W, (Instr.slice 88 (.slice (some ad) n c1) (some (.int .i64 11)) none none).run Tryz.prog W = .ok (.slice A2 rest.length (c1 - 11)) W := hcut
   rw [← hn]
   simp only [List.drop_succ_cons, List.drop_zero] at hC2
   have hlen2 := Lib.hid (show (txs (s0 :: s1 :: s2 :: s3 :: s4 :: s5 :: s6 :: s7 :: s8 :: s9 :: s10 :: rest)).length ≤ 4294967280 by omega)
   clear hr1 hn hf hdr hcc hnr hlen hcnt
   go_upto_region 4 with (fail)
   have hB1 := below_drew hB1
   have hz1 := blk_drew hz1
   have hC2 := Kd.C_drew hC2
   have x0 : w1.drew.cell? ad = some (.string s0) := x0
   have x1 : w1.drew.cell? ⟨ad.block, ad.off + 1, none⟩ = some (.string s1) := x1
   have x2 : w1.drew.cell? ⟨ad.block, ad.off + 2, none⟩ = some (.string s2) := x2
   have x3 : w1.drew.cell? ⟨ad.block, ad.off + 3, none⟩ = some (.string s3) := x3
   have x4 : w1.drew.cell? ⟨ad.block, ad.off + 4, none⟩ = some (.string s4) := x4
   have x5 : w1.drew.cell? ⟨ad.block, ad.off + 5, none⟩ = some (.string s5) := x5
   have x6 : w1.drew.cell? ⟨ad.block, ad.off + 6, none⟩ = some (.string s6) := x6
   have x7 : w1.drew.cell? ⟨ad.block, ad.off + 7, none⟩ = some (.string s7) := x7
   have x8 : w1.drew.cell? ⟨ad.block, ad.off + 8, none⟩ = some (.string s8) := x8
   have x9 : w1.drew.cell? ⟨ad.block, ad.off + 9, none⟩ = some (.string s9) := x9
   have x10 : w1.drew.cell? ⟨ad.block, ad.off + 10, none⟩ = some (.string s10) := x10
   refine start_ (n := 41) (S := fun w' => w'.cell? ad = some (.string s0) ∧ w'.cell? ⟨ad.block, ad.off + 1, none⟩ = some (.string s1) ∧ w'.cell? ⟨ad.block, ad.off + 2, none⟩ = some (.string s2) ∧ w'.cell? ⟨ad.block, ad.off + 3, none⟩ = some (.string s3) ∧ w'.cell? ⟨ad.block, ad.off + 4, none⟩ = some (.string s4) ∧ w'.cell? ⟨ad.block, ad.off + 5, none⟩ = some (.string s5) ∧ w'.cell? ⟨ad.block, ad.off + 6, none⟩ = some (.string s6) ∧ w'.cell? ⟨ad.block, ad.off + 7, none⟩ = some (.string s7) ∧ w'.cell? ⟨ad.block, ad.off + 8, none⟩ = some (.string s8) ∧ w'.cell? ⟨ad.block, ad.off + 9, none⟩ = some (.string s9) ∧ w'.cell? ⟨ad.block, ad.off + 10, none⟩ = some (.string s10)) (ds := [40]) #[false, false, false, false, false, false, false, false, false, false, false, false, false, false, false, false, false, false, false, false, false, false, false, false, false, false, false, false, false, false, false, false, false, false, false, false, false, false, false, false, false] (by kernel_rfl) rfl rfl ⟨x0, x1, x2, x3, x4, x5, x6, x7, x8, x9, x10⟩ (fun hHeld => ?_)
   generalize w1.drew = w2 at hB1 hz1 hC2 hHeld x0 x1 x2 x3 x4 x5 x6 x7 x8 x9 x10 ⊢
   have hbb : Below w2.heap.size w2 w2 := Below.refl _ _
   refine pure_ (i := 0) (N := some 15) (v := ?_) (a' := ?_) #[true, false, false, false, false, false, false, false, false, false, false, false, false, false, false, false, false, false, false, false, false, false, false, false, false, false, false, false, false, false, false, false, false, false, false, false, false, false, false, false, false] rfl rfl (by kernel_rfl) (fun _ _ _ h => h) (Or.inl ⟨by rfl, ?_⟩) ?_ ?_
   rotate_left
   ·
    intro w'
    go_simp
    with_reducible rfl
   rotate_left
   ·
    simp only [Act.put, List.setIfInBounds_toArray, List.set_cons_zero, List.set_cons_succ, i64_w, i32_w]
    rfl
   refine pure_ (i := 1) (N := some 16) (v := ?_) (a' := ?_) #[true, true, false, false, false, false, false, false, false, false, false, false, false, false, false, false, false, false, false, false, false, false, false, false, false, false, false, false, false, false, false, false, false, false, false, false, false, false, false, false, false] rfl rfl (by kernel_rfl) (fun _ _ _ h => h) (Or.inl ⟨by rfl, ?_⟩) ?_ ?_
   rotate_left
   ·
    intro w'
    go_simp
    with_reducible rfl
   rotate_left
   ·
    simp only [Act.put, List.setIfInBounds_toArray, List.set_cons_zero, List.set_cons_succ, i64_w, i32_w]
    rfl
   refine pure_ (i := 3) (N := some 18) (v := ?_) (a' := ?_) #[true, true, false, true, false, false, false, false, false, false, false, false, false, false, false, false, false, false, false, false, false, false, false, false, false, false, false, false, false, false, false, false, false, false, false, false, false, false, false, false, false] rfl rfl (by kernel_rfl) (fun _ _ _ h => h) (Or.inl ⟨by rfl, ?_⟩) ?_ ?_
   rotate_left
   ·
    intro w'
    go_simp
    with_reducible rfl
   rotate_left
   ·
    simp only [Act.put, List.setIfInBounds_toArray, List.set_cons_zero, List.set_cons_succ, i64_w, i32_w]
    rfl
   refine pure_ (i := 4) (N := some 19) (v := ?_) (a' := ?_) #[true, true, false, true, true, false, false, false, false, false, false, false, false, false, false, false, false, false, false, false, false, false, false, false, false, false, false, false, false, false, false, false, false, false, false, false, false, false, false, false, false] rfl rfl (by kernel_rfl) (fun _ _ _ h => h) (Or.inl ⟨by rfl, ?_⟩) ?_ ?_
   rotate_left
   ·
    intro w'
    go_simp
    with_reducible rfl
   rotate_left
   ·
    simp only [Act.put, List.setIfInBounds_toArray, List.set_cons_zero, List.set_cons_succ, i64_w, i32_w]
    rfl
   refine pure_ (i := 6) (N := some 21) (v := ?_) (a' := ?_) #[true, true, false, true, true, false, true, false, false, false, false, false, false, false, false, false, false, false, false, false, false, false, false, false, false, false, false, false, false, false, false, false, false, false, false, false, false, false, false, false, false] rfl rfl (by kernel_rfl) (fun _ _ _ h => h) (Or.inl ⟨by rfl, ?_⟩) ?_ ?_
   rotate_left
   ·
    intro w'
    go_simp
    with_reducible rfl
   rotate_left
   ·
    simp only [Act.put, List.setIfInBounds_toArray, List.set_cons_zero, List.set_cons_succ, i64_w, i32_w]
    rfl
   refine pure_ (i := 7) (N := some 22) (v := ?_) (a' := ?_) #[true, true, false, true, true, false, true, true, false, false, false, false, false, false, false, false, false, false, false, false, false, false, false, false, false, false, false, false, false, false, false, false, false, false, false, false, false, false, false, false, false] rfl rfl (by kernel_rfl) (fun _ _ _ h => h) (Or.inl ⟨by rfl, ?_⟩) ?_ ?_
   rotate_left
   ·
    intro w'
    go_simp
    with_reducible rfl
   rotate_left
   ·
    simp only [Act.put, List.setIfInBounds_toArray, List.set_cons_zero, List.set_cons_succ, i64_w, i32_w]
    rfl
   refine pure_ (i := 9) (N := some 24) (v := ?_) (a' := ?_) #[true, true, false, true, true, false, true, true, false, true, false, false, false, false, false, false, false, false, false, false, false, false, false, false, false, false, false, false, false, false, false, false, false, false, false, false, false, false, false, false, false] rfl rfl (by kernel_rfl) (fun _ _ _ h => h) (Or.inl ⟨by rfl, ?_⟩) ?_ ?_
   rotate_left
   ·
    intro w'
    go_simp
    with_reducible rfl
   rotate_left
   ·
    simp only [Act.put, List.setIfInBounds_toArray, List.set_cons_zero, List.set_cons_succ, i64_w, i32_w]
    rfl
   refine pure_ (i := 10) (N := some 25) (v := ?_) (a' := ?_) #[true, true, false, true, true, false, true, true, false, true, true, false, false, false, false, false, false, false, false, false, false, false, false, false, false, false, false, false, false, false, false, false, false, false, false, false, false, false, false, false, false] rfl rfl (by kernel_rfl) (fun _ _ _ h => h) (Or.inl ⟨by rfl, ?_⟩) ?_ ?_
   rotate_left
   ·
    intro w'
    go_simp
    with_reducible rfl
   rotate_left
   ·
    simp only [Act.put, List.setIfInBounds_toArray, List.set_cons_zero, List.set_cons_succ, i64_w, i32_w]
    rfl
   refine pure_ (i := 12) (N := some 27) (v := ?_) (a' := ?_) #[true, true, false, true, true, false, true, true, false, true, true, false, true, false, false, false, false, false, false, false, false, false, false, false, false, false, false, false, false, false, false, false, false, false, false, false, false, false, false, false, false] rfl rfl (by kernel_rfl) (fun _ _ _ h => h) (Or.inl ⟨by rfl, ?_⟩) ?_ ?_
   rotate_left
   ·
    intro w'
    go_simp
    with_reducible rfl
   rotate_left
   ·
    simp only [Act.put, List.setIfInBounds_toArray, List.set_cons_zero, List.set_cons_succ, i64_w, i32_w]
    rfl
   refine pure_ (i := 13) (N := some 28) (v := ?_) (a' := ?_) #[true, true, false, true, true, false, true, true, false, true, true, false, true, true, false, false, false, false, false, false, false, false, false, false, false, false, false, false, false, false, false, false, false, false, false, false, false, false, false, false, false] rfl rfl (by kernel_rfl) (fun _ _ _ h => h) (Or.inl ⟨by rfl, ?_⟩) ?_ ?_
   rotate_left
   ·
    intro w'
    go_simp
    with_reducible rfl
   rotate_left
   ·
    simp only [Act.put, List.setIfInBounds_toArray, List.set_cons_zero, List.set_cons_succ, i64_w, i32_w]
    rfl
   refine pure_ (i := 15) (N := some 30) (v := ?_) (a' := ?_) #[true, true, false, true, true, false, true, true, false, true, true, false, true, true, false, true, false, false, false, false, false, false, false, false, false, false, false, false, false, false, false, false, false, false, false, false, false, false, false, false, false] rfl rfl (by kernel_rfl) (fun _ _ _ h => h) (Or.inl ⟨by rfl, ?_⟩) ?_ ?_
   rotate_left
   ·
    intro w'
    go_simp
    with_reducible rfl
   rotate_left
   ·
    simp only [Act.put, List.setIfInBounds_toArray, List.set_cons_zero, List.set_cons_succ, i64_w, i32_w]
    rfl
   refine pure_ (i := 16) (N := some 31) (v := ?_) (a' := ?_) #[true, true, false, true, true, false, true, true, false, true, true, false, true, true, false, true, true, false, false, false, false, false, false, false, false, false, false, false, false, false, false, false, false, false, false, false, false, false, false, false, false] rfl rfl (by kernel_rfl) (fun _ _ _ h => h) (Or.inl ⟨by rfl, ?_⟩) ?_ ?_
   rotate_left
   ·
    intro w'
    go_simp
    with_reducible rfl
   rotate_left
   ·
    simp only [Act.put, List.setIfInBounds_toArray, List.set_cons_zero, List.set_cons_succ, i64_w, i32_w]
    rfl
   refine pure_ (i := 18) (N := some 33) (v := ?_) (a' := ?_) #[true, true, false, true, true, false, true, true, false, true, true, false, true, true, false, true, true, false, true, false, false, false, false, false, false, false, false, false, false, false, false, false, false, false, false, false, false, false, false, false, false] rfl rfl (by kernel_rfl) (fun _ _ _ h => h) (Or.inl ⟨by rfl, ?_⟩) ?_ ?_
   rotate_left
   ·
    intro w'
    go_simp
    with_reducible rfl
   rotate_left
   ·
    simp only [Act.put, List.setIfInBounds_toArray, List.set_cons_zero, List.set_cons_succ, i64_w, i32_w]
    rfl
   refine pure_ (i := 19) (N := some 34) (v := ?_) (a' := ?_) #[true, true, false, true, true, false, true, true, false, true, true, false, true, true, false, true, true, false, true, true, false, false, false, false, false, false, false, false, false, false, false, false, false, false, false, false, false, false, false, false, false] rfl rfl (by kernel_rfl) (fun _ _ _ h => h) (Or.inl ⟨by rfl, ?_⟩) ?_ ?_
   rotate_left
   ·
    intro w'
    go_simp
    with_reducible rfl
   rotate_left
   ·
    simp only [Act.put, List.setIfInBounds_toArray, List.set_cons_zero, List.set_cons_succ, i64_w, i32_w]
    rfl
   refine pure_ (i := 21) (N := some 36) (v := ?_) (a' := ?_) #[true, true, false, true, true, false, true, true, false, true, true, false, true, true, false, true, true, false, true, true, false, true, false, false, false, false, false, false, false, false, false, false, false, false, false, false, false, false, false, false, false] rfl rfl (by kernel_rfl) (fun _ _ _ h => h) (Or.inl ⟨by rfl, ?_⟩) ?_ ?_
   rotate_left
   ·
    intro w'
    go_simp
    with_reducible rfl
   rotate_left
   ·
    simp only [Act.put, List.setIfInBounds_toArray, List.set_cons_zero, List.set_cons_succ, i64_w, i32_w]
    rfl
   refine pure_ (i := 22) (N := some 37) (v := ?_) (a' := ?_) #[true, true, false, true, true, false, true, true, false, true, true, false, true, true, false, true, true, false, true, true, false, true, true, false, false, false, false, false, false, false, false, false, false, false, false, false, false, false, false, false, false] rfl rfl (by kernel_rfl) (fun _ _ _ h => h) (Or.inl ⟨by rfl, ?_⟩) ?_ ?_
   rotate_left
   ·
    intro w'
    go_simp
    with_reducible rfl
   rotate_left
   ·
    simp only [Act.put, List.setIfInBounds_toArray, List.set_cons_zero, List.set_cons_succ, i64_w, i32_w]
    rfl
   refine pure_ (i := 24) (N := some 39) (v := ?_) (a' := ?_) #[true, true, false, true, true, false, true, true, false, true, true, false, true, true, false, true, true, false, true, true, false, true, true, false, true, false, false, false, false, false, false, false, false, false, false, false, false, false, false, false, false] rfl rfl (by kernel_rfl) (fun _ _ _ h => h) (Or.inl ⟨by rfl, ?_⟩) ?_ ?_
   rotate_left
   ·
    intro w'
    go_simp
    with_reducible rfl
   rotate_left
   ·
    simp only [Act.put, List.setIfInBounds_toArray, List.set_cons_zero, List.set_cons_succ, i64_w, i32_w]
    rfl
   refine pure_ (i := 25) (N := some 40) (v := ?_) (a' := ?_) #[true, true, false, true, true, false, true, true, false, true, true, false, true, true, false, true, true, false, true, true, false, true, true, false, true, true, false, false, false, false, false, false, false, false, false, false, false, false, false, false, false] rfl rfl (by kernel_rfl) (fun _ _ _ h => h) (Or.inl ⟨by rfl, ?_⟩) ?_ ?_
   rotate_left
   ·
    intro w'
    go_simp
    with_reducible rfl
   rotate_left
   ·
    simp only [Act.put, List.setIfInBounds_toArray, List.set_cons_zero, List.set_cons_succ, i64_w, i32_w]
    rfl
   refine pure_ (i := 27) (N := some 42) (v := ?_) (a' := ?_) #[true, true, false, true, true, false, true, true, false, true, true, false, true, true, false, true, true, false, true, true, false, true, true, false, true, true, false, true, false, false, false, false, false, false, false, false, false, false, false, false, false] rfl rfl (by kernel_rfl) (fun _ _ _ h => h) (Or.inl ⟨by rfl, ?_⟩) ?_ ?_
   rotate_left
   ·
    intro w'
    go_simp
    with_reducible rfl
   rotate_left
   ·
    simp only [Act.put, List.setIfInBounds_toArray, List.set_cons_zero, List.set_cons_succ, i64_w, i32_w]
    rfl
   refine pure_ (i := 28) (N := some 43) (v := ?_) (a' := ?_) #[true, true, false, true, true, false, true, true, false, true, true, false, true, true, false, true, true, false, true, true, false, true, true, false, true, true, false, true, true, false, false, false, false, false, false, false, false, false, false, false, false] rfl rfl (by kernel_rfl) (fun _ _ _ h => h) (Or.inl ⟨by rfl, ?_⟩) ?_ ?_
   rotate_left
   ·
    intro w'
    go_simp
    with_reducible rfl
   rotate_left
   ·
    simp only [Act.put, List.setIfInBounds_toArray, List.set_cons_zero, List.set_cons_succ, i64_w, i32_w]
    rfl
   refine pure_ (i := 30) (N := some 45) (v := ?_) (a' := ?_) #[true, true, false, true, true, false, true, true, false, true, true, false, true, true, false, true, true, false, true, true, false, true, true, false, true, true, false, true, true, false, true, false, false, false, false, false, false, false, false, false, false] rfl rfl (by kernel_rfl) (fun _ _ _ h => h) (Or.inl ⟨by rfl, ?_⟩) ?_ ?_
   rotate_left
   ·
    intro w'
    go_simp
    with_reducible rfl
   rotate_left
   ·
    simp only [Act.put, List.setIfInBounds_toArray, List.set_cons_zero, List.set_cons_succ, i64_w, i32_w]
    rfl
   refine pure_ (i := 31) (N := some 46) (v := ?_) (a' := ?_) #[true, true, false, true, true, false, true, true, false, true, true, false, true, true, false, true, true, false, true, true, false, true, true, false, true, true, false, true, true, false, true, true, false, false, false, false, false, false, false, false, false] rfl rfl (by kernel_rfl) (fun _ _ _ h => h) (Or.inl ⟨by rfl, ?_⟩) ?_ ?_
   rotate_left
   ·
    intro w'
    go_simp
    with_reducible rfl
   rotate_left
   ·
    simp only [Act.put, List.setIfInBounds_toArray, List.set_cons_zero, List.set_cons_succ, i64_w, i32_w]
    rfl
   refine pure_ (i := 34) (N := some 49) (v := ?_) (a' := ?_) #[true, true, false, true, true, false, true, true, false, true, true, false, true, true, false, true, true, false, true, true, false, true, true, false, true, true, false, true, true, false, true, true, false, false, true, false, false, false, false, false, false] rfl rfl (by kernel_rfl) (fun _ _ _ h => h) (Or.inl ⟨by rfl, ?_⟩) ?_ ?_
   rotate_left
   ·
    intro w'
    go_simp
    with_reducible rfl
   rotate_left
   ·
    simp only [Act.put, List.setIfInBounds_toArray, List.set_cons_zero, List.set_cons_succ, i64_w, i32_w]
    rfl
   refine pure_ (i := 35) (N := some 50) (v := ?_) (a' := ?_) #[true, true, false, true, true, false, true, true, false, true, true, false, true, true, false, true, true, false, true, true, false, true, true, false, true, true, false, true, true, false, true, true, false, false, true, true, false, false, false, false, false] rfl rfl (by kernel_rfl) (fun _ _ _ h => h) (Or.inl ⟨by rfl, ?_⟩) ?_ ?_
   rotate_left
   ·
    intro w'
    go_simp
    with_reducible rfl
   rotate_left
   ·
    simp only [Act.put, List.setIfInBounds_toArray, List.set_cons_zero, List.set_cons_succ, i64_w, i32_w]
    rfl
   refine take_ (i := 2) (N := some 17) (v := ?_) (a' := ?_) #[true, true, true, true, true, false, true, true, false, true, true, false, true, true, false, true, true, false, true, true, false, true, true, false, true, true, false, true, true, false, true, true, false, false, true, true, false, false, false, false, false] rfl rfl (by kernel_rfl) (fun _ _ _ h => h) (Or.inl ⟨by rfl, ?_⟩) hHeld ?_ ?_
   rotate_left
   ·
    rintro w' ⟨s0, s1, s2, s3, s4, s5, s6, s7, s8, s9, s10⟩
    go_simp
    with_reducible rfl
   rotate_left
   ·
    simp only [Act.put, List.setIfInBounds_toArray, List.set_cons_zero, List.set_cons_succ, i64_w, i32_w]
    rfl
   refine take_ (i := 5) (N := some 20) (v := ?_) (a' := ?_) #[true, true, true, true, true, true, true, true, false, true, true, false, true, true, false, true, true, false, true, true, false, true, true, false, true, true, false, true, true, false, true, true, false, false, true, true, false, false, false, false, false] rfl rfl (by kernel_rfl) (fun _ _ _ h => h) (Or.inl ⟨by rfl, ?_⟩) hHeld ?_ ?_
   rotate_left
   ·
    rintro w' ⟨s0, s1, s2, s3, s4, s5, s6, s7, s8, s9, s10⟩
    go_simp
    with_reducible rfl
   rotate_left
   ·
    simp only [Act.put, List.setIfInBounds_toArray, List.set_cons_zero, List.set_cons_succ, i64_w, i32_w]
    rfl
   refine take_ (i := 8) (N := some 23) (v := ?_) (a' := ?_) #[true, true, true, true, true, true, true, true, true, true, true, false, true, true, false, true, true, false, true, true, false, true, true, false, true, true, false, true, true, false, true, true, false, false, true, true, false, false, false, false, false] rfl rfl (by kernel_rfl) (fun _ _ _ h => h) (Or.inl ⟨by rfl, ?_⟩) hHeld ?_ ?_
   rotate_left
   ·
    rintro w' ⟨s0, s1, s2, s3, s4, s5, s6, s7, s8, s9, s10⟩
    go_simp
    with_reducible rfl
   rotate_left
   ·
    simp only [Act.put, List.setIfInBounds_toArray, List.set_cons_zero, List.set_cons_succ, i64_w, i32_w]
    rfl
   refine take_ (i := 11) (N := some 26) (v := ?_) (a' := ?_) #[true, true, true, true, true, true, true, true, true, true, true, true, true, true, false, true, true, false, true, true, false, true, true, false, true, true, false, true, true, false, true, true, false, false, true, true, false, false, false, false, false] rfl rfl (by kernel_rfl) (fun _ _ _ h => h) (Or.inl ⟨by rfl, ?_⟩) hHeld ?_ ?_
   rotate_left
   ·
    rintro w' ⟨s0, s1, s2, s3, s4, s5, s6, s7, s8, s9, s10⟩
    go_simp
    with_reducible rfl
   rotate_left
   ·
    simp only [Act.put, List.setIfInBounds_toArray, List.set_cons_zero, List.set_cons_succ, i64_w, i32_w]
    rfl
   refine take_ (i := 14) (N := some 29) (v := ?_) (a' := ?_) #[true, true, true, true, true, true, true, true, true, true, true, true, true, true, true, true, true, false, true, true, false, true, true, false, true, true, false, true, true, false, true, true, false, false, true, true, false, false, false, false, false] rfl rfl (by kernel_rfl) (fun _ _ _ h => h) (Or.inl ⟨by rfl, ?_⟩) hHeld ?_ ?_
   rotate_left
   ·
    rintro w' ⟨s0, s1, s2, s3, s4, s5, s6, s7, s8, s9, s10⟩
    go_simp
    with_reducible rfl
   rotate_left
   ·
    simp only [Act.put, List.setIfInBounds_toArray, List.set_cons_zero, List.set_cons_succ, i64_w, i32_w]
    rfl
   refine take_ (i := 17) (N := some 32) (v := ?_) (a' := ?_) #[true, true, true, true, true, true, true, true, true, true, true, true, true, true, true, true, true, true, true, true, false, true, true, false, true, true, false, true, true, false, true, true, false, false, true, true, false, false, false, false, false] rfl rfl (by kernel_rfl) (fun _ _ _ h => h) (Or.inl ⟨by rfl, ?_⟩) hHeld ?_ ?_
   rotate_left
   ·
    rintro w' ⟨s0, s1, s2, s3, s4, s5, s6, s7, s8, s9, s10⟩
    go_simp
    with_reducible rfl
   rotate_left
   ·
    simp only [Act.put, List.setIfInBounds_toArray, List.set_cons_zero, List.set_cons_succ, i64_w, i32_w]
    rfl
   refine take_ (i := 20) (N := some 35) (v := ?_) (a' := ?_) #[true, true, true, true, true, true, true, true, true, true, true, true, true, true, true, true, true, true, true, true, true, true, true, false, true, true, false, true, true, false, true, true, false, false, true, true, false, false, false, false, false] rfl rfl (by kernel_rfl) (fun _ _ _ h => h) (Or.inl ⟨by rfl, ?_⟩) hHeld ?_ ?_
   rotate_left
   ·
    rintro w' ⟨s0, s1, s2, s3, s4, s5, s6, s7, s8, s9, s10⟩
    go_simp
    with_reducible rfl
   rotate_left
   ·
    simp only [Act.put, List.setIfInBounds_toArray, List.set_cons_zero, List.set_cons_succ, i64_w, i32_w]
    rfl
   refine take_ (i := 23) (N := some 38) (v := ?_) (a' := ?_) #[true, true, true, true, true, true, true, true, true, true, true, true, true, true, true, true, true, true, true, true, true, true, true, true, true, true, false, true, true, false, true, true, false, false, true, true, false, false, false, false, false] rfl rfl (by kernel_rfl) (fun _ _ _ h => h) (Or.inl ⟨by rfl, ?_⟩) hHeld ?_ ?_
   rotate_left
   ·
    rintro w' ⟨s0, s1, s2, s3, s4, s5, s6, s7, s8, s9, s10⟩
    go_simp
    with_reducible rfl
   rotate_left
   ·
    simp only [Act.put, List.setIfInBounds_toArray, List.set_cons_zero, List.set_cons_succ, i64_w, i32_w]
    rfl
   refine take_ (i := 26) (N := some 41) (v := ?_) (a' := ?_) #[true, true, true, true, true, true, true, true, true, true, true, true, true, true, true, true, true, true, true, true, true, true, true, true, true, true, true, true, true, false, true, true, false, false, true, true, false, false, false, false, false] rfl rfl (by kernel_rfl) (fun _ _ _ h => h) (Or.inl ⟨by rfl, ?_⟩) hHeld ?_ ?_
   rotate_left
   ·
    rintro w' ⟨s0, s1, s2, s3, s4, s5, s6, s7, s8, s9, s10⟩
    go_simp
    with_reducible rfl
   rotate_left
   ·
    simp only [Act.put, List.setIfInBounds_toArray, List.set_cons_zero, List.set_cons_succ, i64_w, i32_w]
    rfl
   refine take_ (i := 29) (N := some 44) (v := ?_) (a' := ?_) #[true, true, true, true, true, true, true, true, true, true, true, true, true, true, true, true, true, true, true, true, true, true, true, true, true, true, true, true, true, true, true, true, false, false, true, true, false, false, false, false, false] rfl rfl (by kernel_rfl) (fun _ _ _ h => h) (Or.inl ⟨by rfl, ?_⟩) hHeld ?_ ?_
   rotate_left
   ·
    rintro w' ⟨s0, s1, s2, s3, s4, s5, s6, s7, s8, s9, s10⟩
    go_simp
    with_reducible rfl
   rotate_left
   ·
    simp only [Act.put, List.setIfInBounds_toArray, List.set_cons_zero, List.set_cons_succ, i64_w, i32_w]
    rfl
   refine take_ (i := 32) (N := some 47) (v := ?_) (a' := ?_) #[true, true, true, true, true, true, true, true, true, true, true, true, true, true, true, true, true, true, true, true, true, true, true, true, true, true, true, true, true, true, true, true, true, false, true, true, false, false, false, false, false] rfl rfl (by kernel_rfl) (fun _ _ _ h => h) (Or.inl ⟨by rfl, ?_⟩) hHeld ?_ ?_
   rotate_left
   ·
    rintro w' ⟨s0, s1, s2, s3, s4, s5, s6, s7, s8, s9, s10⟩
    go_simp
    with_reducible rfl
   rotate_left
   ·
    simp only [Act.put, List.setIfInBounds_toArray, List.set_cons_zero, List.set_cons_succ, i64_w, i32_w]
    rfl
   refine pure_ (i := 33) (N := some 48) (v := ?_) (a' := ?_) #[true, true, true, true, true, true, true, true, true, true, true, true, true, true, true, true, true, true, true, true, true, true, true, true, true, true, true, true, true, true, true, true, true, true, true, true, false, false, false, false, false] rfl rfl (by kernel_rfl) (fun _ _ _ h => h) (Or.inl ⟨by rfl, ?_⟩) ?_ ?_
   rotate_left
   ·
    intro w'
    go_simp
    with_reducible rfl
   rotate_left
   ·
    simp only [Act.put, List.setIfInBounds_toArray, List.set_cons_zero, List.set_cons_succ, i64_w, i32_w]
    rfl
   refine join_ (σ := Nat × Option Addr × Nat) 1 #[true, true, true, true, true, true, true, true, true, true, true, true, true, true, true, true, true, true, true, true, true, true, true, true, true, true, true, true, true, true, true, true, true, true, true, true, true, true, true, true, false] (fun (s : Nat × Option Addr × Nat) => [(51, .slice s.2.1 rest.length s.2.2), (52, .slice s.2.1 rest.length rest.length), (53, .agg #[.string s0, .string s1, .string s2, .string s3, .string s4, .string s5, .string s6, .string s7, .string s8, .string s9, .slice s.2.1 rest.length rest.length, .bool bb]), (6, .pointer (some ⟨s.1, 0, none⟩))]) (fun (s : Nat × Option Addr × Nat) w' => w'.cell? ad = some (.string s0) ∧ w'.cell? ⟨ad.block, ad.off + 1, none⟩ = some (.string s1) ∧ w'.cell? ⟨ad.block, ad.off + 2, none⟩ = some (.string s2) ∧ w'.cell? ⟨ad.block, ad.off + 3, none⟩ = some (.string s3) ∧ w'.cell? ⟨ad.block, ad.off + 4, none⟩ = some (.string s4) ∧ w'.cell? ⟨ad.block, ad.off + 5, none⟩ = some (.string s5) ∧ w'.cell? ⟨ad.block, ad.off + 6, none⟩ = some (.string s6) ∧ w'.cell? ⟨ad.block, ad.off + 7, none⟩ = some (.string s7) ∧ w'.cell? ⟨ad.block, ad.off + 8, none⟩ = some (.string s8) ∧ w'.cell? ⟨ad.block, ad.off + 9, none⟩ = some (.string s9) ∧ w'.cell? ⟨ad.block, ad.off + 10, none⟩ = some (.string s10) ∧ Below w2.heap.size w2 w' ∧ w'.heap[s.1]? = some (.cells #[.string ⟨#[]⟩, .string ⟨#[]⟩, .string ⟨#[]⟩, .string ⟨#[]⟩, .string ⟨#[]⟩, .string ⟨#[]⟩, .string ⟨#[]⟩, .string ⟨#[]⟩, .string ⟨#[]⟩, .string ⟨#[]⟩, .slice none 0 0, .bool false] 93 (0, 0)) ∧ w2.heap.size ≤ s.1 ∧ StrR w2.heap.size w' (.slice s.2.1 rest.length s.2.2) rest) ?_ ?_
   rotate_left
   ·
    intro hCont
    refine two_ (i := 36) (j := 39) (Ni := some 51) (Nj := some 6) #[true, true, true, true, true, true, true, true, true, true, true, true, true, true, true, true, true, true, true, true, true, true, true, true, true, true, true, true, true, true, true, true, true, true, true, true, true, false, false, false, false] #[true, true, true, true, true, true, true, true, true, true, true, true, true, true, true, true, true, true, true, true, true, true, true, true, true, true, true, true, true, true, true, true, true, true, true, true, false, false, false, true, false] rfl rfl rfl rfl (by kernel_rfl) (by decide) (by decide) (fun K hK => ?_) (fun K hK => ?_)
    ·
     skip
     refine goes_ Tryz.func115 (by kernel_rfl) rfl #[.slice A2 rest.length (c1 - 11)] (by rfl) rfl rfl (by first | (simp only [List.map_toArray, List.map_cons, List.map_nil]; done) | (simp only [List.map_toArray, List.map_cons, List.map_nil]; rfl)) ?_
     refine (clone_says A2 (c1 - 11) rest w2 (Kd.C_below hC2 hbb) (by omega)).mono ?_
     rintro e w3 ⟨v3, rfl, hR, hb3⟩
     obtain ⟨A3, c3, e3⟩ := Kd.R_slice hR
     subst e3
     have hcc3 := (Kd.R_reads' hR).2.1
     have hR := Kd.R_lower hR hbb.size
     have hbb := below_then hbb hbb.size hb3
     refine ⟨_, rfl, ?_⟩
     refine hK.out _ _ ⟨cellL hbb x0, cellL hbb x1, cellL hbb x2, cellL hbb x3, cellL hbb x4, cellL hbb x5, cellL hbb x6, cellL hbb x7, cellL hbb x8, cellL hbb x9, cellL hbb x10⟩ (fun hHeld => ?_)
     clear hK K
     refine norm_ (a' := ?_) ?_ ?_
     rotate_left
     ·
      show Act.put _ (some 51) _ = _
      simp only [Act.put, List.setIfInBounds_toArray, List.set_cons_zero, List.set_cons_succ, i64_w, i32_w]
      rfl
     refine two_ (i := 37) (j := 39) (Ni := some 52) (Nj := some 6) #[true, true, true, true, true, true, true, true, true, true, true, true, true, true, true, true, true, true, true, true, true, true, true, true, true, true, true, true, true, true, true, true, true, true, true, true, true, true, false, false, false] #[true, true, true, true, true, true, true, true, true, true, true, true, true, true, true, true, true, true, true, true, true, true, true, true, true, true, true, true, true, true, true, true, true, true, true, true, true, false, false, true, false] rfl rfl rfl rfl (by kernel_rfl) (by decide) (by decide) (fun K hK => ?_) (fun K hK => ?_)
     ·
      skip
      refine goes_ Tryz.func110 (by kernel_rfl) rfl #[.slice A3 rest.length c3] (by rfl) rfl rfl (by first | (simp only [List.map_toArray, List.map_cons, List.map_nil]; done) | (simp only [List.map_toArray, List.map_cons, List.map_nil]; rfl)) ?_
      refine (clip_says A3 rest.length c3 hcc3 w3).mono ?_
      rintro e w4 ⟨rfl, hw4⟩
      subst hw4
      refine ⟨_, rfl, ?_⟩
      refine hK.out _ _ ⟨cellL hbb x0, cellL hbb x1, cellL hbb x2, cellL hbb x3, cellL hbb x4, cellL hbb x5, cellL hbb x6, cellL hbb x7, cellL hbb x8, cellL hbb x9, cellL hbb x10⟩ (fun hHeld => ?_)
      clear hK K
      refine norm_ (a' := ?_) ?_ ?_
      rotate_left
      ·
       show Act.put _ (some 52) _ = _
       simp only [Act.put, List.setIfInBounds_toArray, List.set_cons_zero, List.set_cons_succ, i64_w, i32_w]
       rfl
      refine pure_ (i := 38) (N := some 53) (v := ?_) (a' := ?_) #[true, true, true, true, true, true, true, true, true, true, true, true, true, true, true, true, true, true, true, true, true, true, true, true, true, true, true, true, true, true, true, true, true, true, true, true, true, true, true, false, false] rfl rfl (by kernel_rfl) (fun _ _ _ h => h) (Or.inl ⟨by rfl, ?_⟩) ?_ ?_
      rotate_left
      ·
       intro w'
       go_simp
       with_reducible rfl
      rotate_left
      ·
       simp only [Act.put, List.setIfInBounds_toArray, List.set_cons_zero, List.set_cons_succ, i64_w, i32_w]
       rfl
      refine one_ (i := 39) (N := some 6) #[true, true, true, true, true, true, true, true, true, true, true, true, true, true, true, true, true, true, true, true, true, true, true, true, true, true, true, true, true, true, true, true, true, true, true, true, true, true, true, true, false] rfl rfl (by kernel_rfl) (by decide) (fun K hK => ?_)
      refine value_ (w1 := ?_) (v := ?_) (by rfl) rfl ?_ ?_
      rotate_left 2
      ·
       go_simp
       constructor
       ·
        rfl
       ·
        rfl
      have hg := heap_alloc_new w4 (.cells #[.string ⟨#[]⟩, .string ⟨#[]⟩, .string ⟨#[]⟩, .string ⟨#[]⟩, .string ⟨#[]⟩, .string ⟨#[]⟩, .string ⟨#[]⟩, .string ⟨#[]⟩, .string ⟨#[]⟩, .string ⟨#[]⟩, .slice none 0 0, .bool false] 93)
      have hbA : Below w4.heap.size w4 (w4.alloc (.cells #[.string ⟨#[]⟩, .string ⟨#[]⟩, .string ⟨#[]⟩, .string ⟨#[]⟩, .string ⟨#[]⟩, .string ⟨#[]⟩, .string ⟨#[]⟩, .string ⟨#[]⟩, .string ⟨#[]⟩, .string ⟨#[]⟩, .slice none 0 0, .bool false] 93)) := (Below.refl _ w4).alloc (Nat.le_refl _) _
      have hge : w2.heap.size ≤ w4.heap.size := hbb.size
      have hR := Kd.R_below hR hbA
      have hbb := below_then hbb hbb.size hbA
      generalize w4.alloc (.cells #[.string ⟨#[]⟩, .string ⟨#[]⟩, .string ⟨#[]⟩, .string ⟨#[]⟩, .string ⟨#[]⟩, .string ⟨#[]⟩, .string ⟨#[]⟩, .string ⟨#[]⟩, .string ⟨#[]⟩, .string ⟨#[]⟩, .slice none 0 0, .bool false] 93) = w5 at hg hbA hbb hR ⊢
      refine hK.out _ _ ⟨cellL hbb x0, cellL hbb x1, cellL hbb x2, cellL hbb x3, cellL hbb x4, cellL hbb x5, cellL hbb x6, cellL hbb x7, cellL hbb x8, cellL hbb x9, cellL hbb x10⟩ (fun hHeld => ?_)
      clear hK K
      refine norm_ (a' := ?_) ?_ ?_
      rotate_left
      ·
       show Act.put _ (some 6) _ = _
       simp only [Act.put, List.setIfInBounds_toArray, List.set_cons_zero, List.set_cons_succ, i64_w, i32_w]
       rfl
      exact norm_ (by first | (simp only [putAll, Act.put, List.setIfInBounds_toArray, List.set_cons_zero, List.set_cons_succ]; done) | (simp only [putAll, Act.put, List.setIfInBounds_toArray, List.set_cons_zero, List.set_cons_succ]; rfl)) (hCont (w4.heap.size, A3, c3) _ ⟨cellL hbb x0, cellL hbb x1, cellL hbb x2, cellL hbb x3, cellL hbb x4, cellL hbb x5, cellL hbb x6, cellL hbb x7, cellL hbb x8, cellL hbb x9, cellL hbb x10, hbb, hg, hge, hR⟩)
     ·
      skip
      refine value_ (w1 := ?_) (v := ?_) (by rfl) rfl ?_ ?_
      rotate_left 2
      ·
       go_simp
       constructor
       ·
        rfl
       ·
        rfl
      have hg := heap_alloc_new w3 (.cells #[.string ⟨#[]⟩, .string ⟨#[]⟩, .string ⟨#[]⟩, .string ⟨#[]⟩, .string ⟨#[]⟩, .string ⟨#[]⟩, .string ⟨#[]⟩, .string ⟨#[]⟩, .string ⟨#[]⟩, .string ⟨#[]⟩, .slice none 0 0, .bool false] 93)
      have hbA : Below w3.heap.size w3 (w3.alloc (.cells #[.string ⟨#[]⟩, .string ⟨#[]⟩, .string ⟨#[]⟩, .string ⟨#[]⟩, .string ⟨#[]⟩, .string ⟨#[]⟩, .string ⟨#[]⟩, .string ⟨#[]⟩, .string ⟨#[]⟩, .string ⟨#[]⟩, .slice none 0 0, .bool false] 93)) := (Below.refl _ w3).alloc (Nat.le_refl _) _
      have hge : w2.heap.size ≤ w3.heap.size := hbb.size
      have hR := Kd.R_below hR hbA
      have hbb := below_then hbb hbb.size hbA
      generalize w3.alloc (.cells #[.string ⟨#[]⟩, .string ⟨#[]⟩, .string ⟨#[]⟩, .string ⟨#[]⟩, .string ⟨#[]⟩, .string ⟨#[]⟩, .string ⟨#[]⟩, .string ⟨#[]⟩, .string ⟨#[]⟩, .string ⟨#[]⟩, .slice none 0 0, .bool false] 93) = w4 at hg hbA hbb hR ⊢
      refine hK.out _ _ ⟨cellL hbb x0, cellL hbb x1, cellL hbb x2, cellL hbb x3, cellL hbb x4, cellL hbb x5, cellL hbb x6, cellL hbb x7, cellL hbb x8, cellL hbb x9, cellL hbb x10⟩ (fun hHeld => ?_)
      clear hK K
      refine norm_ (a' := ?_) ?_ ?_
      rotate_left
      ·
       show Act.put _ (some 6) _ = _
       simp only [Act.put, List.setIfInBounds_toArray, List.set_cons_zero, List.set_cons_succ, i64_w, i32_w]
       rfl
      refine one_ (i := 37) (N := some 52) #[true, true, true, true, true, true, true, true, true, true, true, true, true, true, true, true, true, true, true, true, true, true, true, true, true, true, true, true, true, true, true, true, true, true, true, true, true, true, false, true, false] rfl rfl (by kernel_rfl) (by decide) (fun K hK => ?_)
      refine goes_ Tryz.func110 (by kernel_rfl) rfl #[.slice A3 rest.length c3] (by rfl) rfl rfl (by first | (simp only [List.map_toArray, List.map_cons, List.map_nil]; done) | (simp only [List.map_toArray, List.map_cons, List.map_nil]; rfl)) ?_
      refine (clip_says A3 rest.length c3 hcc3 w4).mono ?_
      rintro e w5 ⟨rfl, hw4⟩
      subst hw4
      refine ⟨_, rfl, ?_⟩
      refine hK.out _ _ ⟨cellL hbb x0, cellL hbb x1, cellL hbb x2, cellL hbb x3, cellL hbb x4, cellL hbb x5, cellL hbb x6, cellL hbb x7, cellL hbb x8, cellL hbb x9, cellL hbb x10⟩ (fun hHeld => ?_)
      clear hK K
      refine norm_ (a' := ?_) ?_ ?_
      rotate_left
      ·
       show Act.put _ (some 52) _ = _
       simp only [Act.put, List.setIfInBounds_toArray, List.set_cons_zero, List.set_cons_succ, i64_w, i32_w]
       rfl
      refine pure_ (i := 38) (N := some 53) (v := ?_) (a' := ?_) #[true, true, true, true, true, true, true, true, true, true, true, true, true, true, true, true, true, true, true, true, true, true, true, true, true, true, true, true, true, true, true, true, true, true, true, true, true, true, true, true, false] rfl rfl (by kernel_rfl) (fun _ _ _ h => h) (Or.inl ⟨by rfl, ?_⟩) ?_ ?_
      rotate_left
      ·
       intro w'
       go_simp
       with_reducible rfl
      rotate_left
      ·
       simp only [Act.put, List.setIfInBounds_toArray, List.set_cons_zero, List.set_cons_succ, i64_w, i32_w]
       rfl
      exact norm_ (by first | (simp only [putAll, Act.put, List.setIfInBounds_toArray, List.set_cons_zero, List.set_cons_succ]; done) | (simp only [putAll, Act.put, List.setIfInBounds_toArray, List.set_cons_zero, List.set_cons_succ]; rfl)) (hCont (w3.heap.size, A3, c3) _ ⟨cellL hbb x0, cellL hbb x1, cellL hbb x2, cellL hbb x3, cellL hbb x4, cellL hbb x5, cellL hbb x6, cellL hbb x7, cellL hbb x8, cellL hbb x9, cellL hbb x10, hbb, hg, hge, hR⟩)
    ·
     skip
     refine value_ (w1 := ?_) (v := ?_) (by rfl) rfl ?_ ?_
     rotate_left 2
     ·
      go_simp
      constructor
      ·
       rfl
      ·
       rfl
     have hg := heap_alloc_new w2 (.cells #[.string ⟨#[]⟩, .string ⟨#[]⟩, .string ⟨#[]⟩, .string ⟨#[]⟩, .string ⟨#[]⟩, .string ⟨#[]⟩, .string ⟨#[]⟩, .string ⟨#[]⟩, .string ⟨#[]⟩, .string ⟨#[]⟩, .slice none 0 0, .bool false] 93)
     have hbA : Below w2.heap.size w2 (w2.alloc (.cells #[.string ⟨#[]⟩, .string ⟨#[]⟩, .string ⟨#[]⟩, .string ⟨#[]⟩, .string ⟨#[]⟩, .string ⟨#[]⟩, .string ⟨#[]⟩, .string ⟨#[]⟩, .string ⟨#[]⟩, .string ⟨#[]⟩, .slice none 0 0, .bool false] 93)) := (Below.refl _ w2).alloc (Nat.le_refl _) _
     have hge : w2.heap.size ≤ w2.heap.size := hbb.size
     have hbb := below_then hbb hbb.size hbA
     generalize w2.alloc (.cells #[.string ⟨#[]⟩, .string ⟨#[]⟩, .string ⟨#[]⟩, .string ⟨#[]⟩, .string ⟨#[]⟩, .string ⟨#[]⟩, .string ⟨#[]⟩, .string ⟨#[]⟩, .string ⟨#[]⟩, .string ⟨#[]⟩, .slice none 0 0, .bool false] 93) = w3 at hg hbA hbb ⊢
     refine hK.out _ _ ⟨cellL hbb x0, cellL hbb x1, cellL hbb x2, cellL hbb x3, cellL hbb x4, cellL hbb x5, cellL hbb x6, cellL hbb x7, cellL hbb x8, cellL hbb x9, cellL hbb x10⟩ (fun hHeld => ?_)
     clear hK K
     refine norm_ (a' := ?_) ?_ ?_
     rotate_left
     ·
      show Act.put _ (some 6) _ = _
      simp only [Act.put, List.setIfInBounds_toArray, List.set_cons_zero, List.set_cons_succ, i64_w, i32_w]
      rfl
     refine one_ (i := 36) (N := some 51) #[true, true, true, true, true, true, true, true, true, true, true, true, true, true, true, true, true, true, true, true, true, true, true, true, true, true, true, true, true, true, true, true, true, true, true, true, true, false, false, true, false] rfl rfl (by kernel_rfl) (by decide) (fun K hK => ?_)
     refine goes_ Tryz.func115 (by kernel_rfl) rfl #[.slice A2 rest.length (c1 - 11)] (by rfl) rfl rfl (by first | (simp only [List.map_toArray, List.map_cons, List.map_nil]; done) | (simp only [List.map_toArray, List.map_cons, List.map_nil]; rfl)) ?_
     refine (clone_says A2 (c1 - 11) rest w3 (Kd.C_below hC2 hbb) (by omega)).mono ?_
     rintro e w4 ⟨v3, rfl, hR, hb3⟩
     obtain ⟨A3, c3, e3⟩ := Kd.R_slice hR
     subst e3
     have hcc3 := (Kd.R_reads' hR).2.1
     have hR := Kd.R_lower hR hbb.size
     have hg := blk_below hg hb3
     have hbb := below_then hbb hbb.size hb3
     refine ⟨_, rfl, ?_⟩
     refine hK.out _ _ ⟨cellL hbb x0, cellL hbb x1, cellL hbb x2, cellL hbb x3, cellL hbb x4, cellL hbb x5, cellL hbb x6, cellL hbb x7, cellL hbb x8, cellL hbb x9, cellL hbb x10⟩ (fun hHeld => ?_)
     clear hK K
     refine norm_ (a' := ?_) ?_ ?_
     rotate_left
     ·
      show Act.put _ (some 51) _ = _
      simp only [Act.put, List.setIfInBounds_toArray, List.set_cons_zero, List.set_cons_succ, i64_w, i32_w]
      rfl
     refine one_ (i := 37) (N := some 52) #[true, true, true, true, true, true, true, true, true, true, true, true, true, true, true, true, true, true, true, true, true, true, true, true, true, true, true, true, true, true, true, true, true, true, true, true, true, true, false, true, false] rfl rfl (by kernel_rfl) (by decide) (fun K hK => ?_)
     refine goes_ Tryz.func110 (by kernel_rfl) rfl #[.slice A3 rest.length c3] (by rfl) rfl rfl (by first | (simp only [List.map_toArray, List.map_cons, List.map_nil]; done) | (simp only [List.map_toArray, List.map_cons, List.map_nil]; rfl)) ?_
     refine (clip_says A3 rest.length c3 hcc3 w4).mono ?_
     rintro e w5 ⟨rfl, hw4⟩
     subst hw4
     refine ⟨_, rfl, ?_⟩
     refine hK.out _ _ ⟨cellL hbb x0, cellL hbb x1, cellL hbb x2, cellL hbb x3, cellL hbb x4, cellL hbb x5, cellL hbb x6, cellL hbb x7, cellL hbb x8, cellL hbb x9, cellL hbb x10⟩ (fun hHeld => ?_)
     clear hK K
     refine norm_ (a' := ?_) ?_ ?_
     rotate_left
     ·
      show Act.put _ (some 52) _ = _
      simp only [Act.put, List.setIfInBounds_toArray, List.set_cons_zero, List.set_cons_succ, i64_w, i32_w]
      rfl
     refine pure_ (i := 38) (N := some 53) (v := ?_) (a' := ?_) #[true, true, true, true, true, true, true, true, true, true, true, true, true, true, true, true, true, true, true, true, true, true, true, true, true, true, true, true, true, true, true, true, true, true, true, true, true, true, true, true, false] rfl rfl (by kernel_rfl) (fun _ _ _ h => h) (Or.inl ⟨by rfl, ?_⟩) ?_ ?_
     rotate_left
     ·
      intro w'
      go_simp
      with_reducible rfl
     rotate_left
     ·
      simp only [Act.put, List.setIfInBounds_toArray, List.set_cons_zero, List.set_cons_succ, i64_w, i32_w]
      rfl
     exact norm_ (by first | (simp only [putAll, Act.put, List.setIfInBounds_toArray, List.set_cons_zero, List.set_cons_succ]; done) | (simp only [putAll, Act.put, List.setIfInBounds_toArray, List.set_cons_zero, List.set_cons_succ]; rfl)) (hCont (w2.heap.size, A3, c3) _ ⟨cellL hbb x0, cellL hbb x1, cellL hbb x2, cellL hbb x3, cellL hbb x4, cellL hbb x5, cellL hbb x6, cellL hbb x7, cellL hbb x8, cellL hbb x9, cellL hbb x10, hbb, hg, hge, hR⟩)
   rintro ⟨g, A3, c3⟩ w9 ⟨y0, y1, y2, y3, y4, y5, y6, y7, y8, y9, y10, hbb, hg, hge, hR⟩
   have hHeld := (⟨y0, y1, y2, y3, y4, y5, y6, y7, y8, y9, y10⟩ : w9.cell? ad = some (.string s0) ∧ w9.cell? ⟨ad.block, ad.off + 1, none⟩ = some (.string s1) ∧ w9.cell? ⟨ad.block, ad.off + 2, none⟩ = some (.string s2) ∧ w9.cell? ⟨ad.block, ad.off + 3, none⟩ = some (.string s3) ∧ w9.cell? ⟨ad.block, ad.off + 4, none⟩ = some (.string s4) ∧ w9.cell? ⟨ad.block, ad.off + 5, none⟩ = some (.string s5) ∧ w9.cell? ⟨ad.block, ad.off + 6, none⟩ = some (.string s6) ∧ w9.cell? ⟨ad.block, ad.off + 7, none⟩ = some (.string s7) ∧ w9.cell? ⟨ad.block, ad.off + 8, none⟩ = some (.string s8) ∧ w9.cell? ⟨ad.block, ad.off + 9, none⟩ = some (.string s9) ∧ w9.cell? ⟨ad.block, ad.off + 10, none⟩ = some (.string s10))
   have cg0 := blk_cell hg 0
   have fg0 := blk_frozen hg 0
   have cg1 := blk_cell hg 1
   have fg1 := blk_frozen hg 1
   have cg2 := blk_cell hg 2
   have fg2 := blk_frozen hg 2
   have cg3 := blk_cell hg 3
   have fg3 := blk_frozen hg 3
   have cg4 := blk_cell hg 4
   have fg4 := blk_frozen hg 4
   have cg5 := blk_cell hg 5
   have fg5 := blk_frozen hg 5
   have cg6 := blk_cell hg 6
   have fg6 := blk_frozen hg 6
   have cg7 := blk_cell hg 7
   have fg7 := blk_frozen hg 7
   have cg8 := blk_cell hg 8
   have fg8 := blk_frozen hg 8
   have cg9 := blk_cell hg 9
   have fg9 := blk_frozen hg 9
   have cg10 := blk_cell hg 10
   have fg10 := blk_frozen hg 10
   have cg11 := blk_cell hg 11
   have fg11 := blk_frozen hg 11
   refine norm_ (a' := ?_) ?_ ?_
   rotate_left
   ·
    simp only [putAll, Act.put, List.setIfInBounds_toArray, List.set_cons_zero, List.set_cons_succ]
    rfl
   refine last_ (i := 40) (N := none) #[true, true, true, true, true, true, true, true, true, true, true, true, true, true, true, true, true, true, true, true, true, true, true, true, true, true, true, true, true, true, true, true, true, true, true, true, true, true, true, true, true] rfl rfl (by kernel_rfl) (by decide) (fun K hK => ?_)
   refine skip_ (w1 := ?_) (by rfl) rfl ?_ ?_
   rotate_left
   ·
    go_simp
    rfl
   refine hK.out _ _ ?_
   clear hK K
   refine done_ (by kernel_rfl) ?_
   have hx10 : ((((((((((((w9.setCell ⟨g, 0, none⟩ (.string s0)).setCell ⟨g, 1, none⟩ (.string s1)).setCell ⟨g, 2, none⟩ (.string s2)).setCell ⟨g, 3, none⟩ (.string s3)).setCell ⟨g, 4, none⟩ (.string s4)).setCell ⟨g, 5, none⟩ (.string s5)).setCell ⟨g, 6, none⟩ (.string s6)).setCell ⟨g, 7, none⟩ (.string s7)).setCell ⟨g, 8, none⟩ (.string s8)).setCell ⟨g, 9, none⟩ (.string s9)).setCell ⟨g, 10, none⟩ (.slice A3 rest.length rest.length)).setCell ⟨g, 11, none⟩ (.bool bb)).heap[g]? = some (.cells #[.string s0, .string s1, .string s2, .string s3, .string s4, .string s5, .string s6, .string s7, .string s8, .string s9, .slice A3 rest.length rest.length, .bool bb] 93 (0, 0)) := by
    refine blk_put (cs := #[.string s0, .string s1, .string s2, .string s3, .string s4, .string s5, .string s6, .string s7, .string s8, .string s9, .slice A3 rest.length rest.length, .bool false]) ?_ 11 _ rfl
    refine blk_put (cs := #[.string s0, .string s1, .string s2, .string s3, .string s4, .string s5, .string s6, .string s7, .string s8, .string s9, .slice none 0 0, .bool false]) ?_ 10 _ rfl
    refine blk_put (cs := #[.string s0, .string s1, .string s2, .string s3, .string s4, .string s5, .string s6, .string s7, .string s8, .string ⟨#[]⟩, .slice none 0 0, .bool false]) ?_ 9 _ rfl
    refine blk_put (cs := #[.string s0, .string s1, .string s2, .string s3, .string s4, .string s5, .string s6, .string s7, .string ⟨#[]⟩, .string ⟨#[]⟩, .slice none 0 0, .bool false]) ?_ 8 _ rfl
    refine blk_put (cs := #[.string s0, .string s1, .string s2, .string s3, .string s4, .string s5, .string s6, .string ⟨#[]⟩, .string ⟨#[]⟩, .string ⟨#[]⟩, .slice none 0 0, .bool false]) ?_ 7 _ rfl
    refine blk_put (cs := #[.string s0, .string s1, .string s2, .string s3, .string s4, .string s5, .string ⟨#[]⟩, .string ⟨#[]⟩, .string ⟨#[]⟩, .string ⟨#[]⟩, .slice none 0 0, .bool false]) ?_ 6 _ rfl
    refine blk_put (cs := #[.string s0, .string s1, .string s2, .string s3, .string s4, .string ⟨#[]⟩, .string ⟨#[]⟩, .string ⟨#[]⟩, .string ⟨#[]⟩, .string ⟨#[]⟩, .slice none 0 0, .bool false]) ?_ 5 _ rfl
    refine blk_put (cs := #[.string s0, .string s1, .string s2, .string s3, .string ⟨#[]⟩, .string ⟨#[]⟩, .string ⟨#[]⟩, .string ⟨#[]⟩, .string ⟨#[]⟩, .string ⟨#[]⟩, .slice none 0 0, .bool false]) ?_ 4 _ rfl
    refine blk_put (cs := #[.string s0, .string s1, .string s2, .string ⟨#[]⟩, .string ⟨#[]⟩, .string ⟨#[]⟩, .string ⟨#[]⟩, .string ⟨#[]⟩, .string ⟨#[]⟩, .string ⟨#[]⟩, .slice none 0 0, .bool false]) ?_ 3 _ rfl
    refine blk_put (cs := #[.string s0, .string s1, .string ⟨#[]⟩, .string ⟨#[]⟩, .string ⟨#[]⟩, .string ⟨#[]⟩, .string ⟨#[]⟩, .string ⟨#[]⟩, .string ⟨#[]⟩, .string ⟨#[]⟩, .slice none 0 0, .bool false]) ?_ 2 _ rfl
    refine blk_put (cs := #[.string s0, .string ⟨#[]⟩, .string ⟨#[]⟩, .string ⟨#[]⟩, .string ⟨#[]⟩, .string ⟨#[]⟩, .string ⟨#[]⟩, .string ⟨#[]⟩, .string ⟨#[]⟩, .string ⟨#[]⟩, .slice none 0 0, .bool false]) ?_ 1 _ rfl
    refine blk_put (cs := #[.string ⟨#[]⟩, .string ⟨#[]⟩, .string ⟨#[]⟩, .string ⟨#[]⟩, .string ⟨#[]⟩, .string ⟨#[]⟩, .string ⟨#[]⟩, .string ⟨#[]⟩, .string ⟨#[]⟩, .string ⟨#[]⟩, .slice none 0 0, .bool false]) ?_ 0 _ rfl
    exact hg
   have hb10 : Below w2.heap.size w2 ((((((((((((w9.setCell ⟨g, 0, none⟩ (.string s0)).setCell ⟨g, 1, none⟩ (.string s1)).setCell ⟨g, 2, none⟩ (.string s2)).setCell ⟨g, 3, none⟩ (.string s3)).setCell ⟨g, 4, none⟩ (.string s4)).setCell ⟨g, 5, none⟩ (.string s5)).setCell ⟨g, 6, none⟩ (.string s6)).setCell ⟨g, 7, none⟩ (.string s7)).setCell ⟨g, 8, none⟩ (.string s8)).setCell ⟨g, 9, none⟩ (.string s9)).setCell ⟨g, 10, none⟩ (.slice A3 rest.length rest.length)).setCell ⟨g, 11, none⟩ (.bool bb)) := by
    iterate 12 (with_reducible refine below_set ?_ hge)
    exact hbb
   have hF9 : Kd.F Kd.string w9 (fun k => w2.heap.size ≤ k ∧ k ≠ g) A3 rest.length rest := Kd.R_F (cc := c3) (Kd.R_of_own (Kd.own_of_R hR) (fun k hk => ⟨Kd.R_base hR k hk, fun e => by
    subst e
    obtain ⟨cells, hc⟩ := Kd.R_typed hR k hk
    rw [hg] at hc
    simp at hc⟩))
   have hF10 : Kd.F Kd.string ((((((((((((w9.setCell ⟨g, 0, none⟩ (.string s0)).setCell ⟨g, 1, none⟩ (.string s1)).setCell ⟨g, 2, none⟩ (.string s2)).setCell ⟨g, 3, none⟩ (.string s3)).setCell ⟨g, 4, none⟩ (.string s4)).setCell ⟨g, 5, none⟩ (.string s5)).setCell ⟨g, 6, none⟩ (.string s6)).setCell ⟨g, 7, none⟩ (.string s7)).setCell ⟨g, 8, none⟩ (.string s8)).setCell ⟨g, 9, none⟩ (.string s9)).setCell ⟨g, 10, none⟩ (.slice A3 rest.length rest.length)).setCell ⟨g, 11, none⟩ (.bool bb)) (fun k => w2.heap.size ≤ k ∧ k ≠ g) A3 rest.length rest := by
    with_reducible refine Kd.F_far (p := ⟨g, 11, none⟩) ?_ (fun k hk => hk.2) _
    with_reducible refine Kd.F_far (p := ⟨g, 10, none⟩) ?_ (fun k hk => hk.2) _
    with_reducible refine Kd.F_far (p := ⟨g, 9, none⟩) ?_ (fun k hk => hk.2) _
    with_reducible refine Kd.F_far (p := ⟨g, 8, none⟩) ?_ (fun k hk => hk.2) _
    with_reducible refine Kd.F_far (p := ⟨g, 7, none⟩) ?_ (fun k hk => hk.2) _
    with_reducible refine Kd.F_far (p := ⟨g, 6, none⟩) ?_ (fun k hk => hk.2) _
    with_reducible refine Kd.F_far (p := ⟨g, 5, none⟩) ?_ (fun k hk => hk.2) _
    with_reducible refine Kd.F_far (p := ⟨g, 4, none⟩) ?_ (fun k hk => hk.2) _
    with_reducible refine Kd.F_far (p := ⟨g, 3, none⟩) ?_ (fun k hk => hk.2) _
    with_reducible refine Kd.F_far (p := ⟨g, 2, none⟩) ?_ (fun k hk => hk.2) _
    with_reducible refine Kd.F_far (p := ⟨g, 1, none⟩) ?_ (fun k hk => hk.2) _
    with_reducible refine Kd.F_far (p := ⟨g, 0, none⟩) ?_ (fun k hk => hk.2) _
    exact hF9
   have hgne : g ≠ w.heap.size := by have := blk_lt hz1; omega
   generalize ((((((((((((w9.setCell ⟨g, 0, none⟩ (.string s0)).setCell ⟨g, 1, none⟩ (.string s1)).setCell ⟨g, 2, none⟩ (.string s2)).setCell ⟨g, 3, none⟩ (.string s3)).setCell ⟨g, 4, none⟩ (.string s4)).setCell ⟨g, 5, none⟩ (.string s5)).setCell ⟨g, 6, none⟩ (.string s6)).setCell ⟨g, 7, none⟩ (.string s7)).setCell ⟨g, 8, none⟩ (.string s8)).setCell ⟨g, 9, none⟩ (.string s9)).setCell ⟨g, 10, none⟩ (.slice A3 rest.length rest.length)).setCell ⟨g, 11, none⟩ (.bool bb)) = w10 at hx10 hb10 hF10 ⊢
   have hz10 := blk_below hz1 hb10
   have hB10 := below_then hB1 hB1.size hb10
   have hlt := blk_lt hz1
   have hne : ∀ k, (w2.heap.size ≤ k ∧ k ≠ g) → k ≠ w.heap.size := fun k hk => by omega
   have d0 : w10.cell? ⟨g, 0, none⟩ = some (.string s0) := (blk_cell hx10 0).trans rfl
   have d1 : w10.cell? ⟨g, 1, none⟩ = some (.string s1) := (blk_cell hx10 1).trans rfl
   have d2 : w10.cell? ⟨g, 2, none⟩ = some (.string s2) := (blk_cell hx10 2).trans rfl
   have d3 : w10.cell? ⟨g, 3, none⟩ = some (.string s3) := (blk_cell hx10 3).trans rfl
   have d4 : w10.cell? ⟨g, 4, none⟩ = some (.string s4) := (blk_cell hx10 4).trans rfl
   have d5 : w10.cell? ⟨g, 5, none⟩ = some (.string s5) := (blk_cell hx10 5).trans rfl
   have d6 : w10.cell? ⟨g, 6, none⟩ = some (.string s6) := (blk_cell hx10 6).trans rfl
   have d7 : w10.cell? ⟨g, 7, none⟩ = some (.string s7) := (blk_cell hx10 7).trans rfl
   have d8 : w10.cell? ⟨g, 8, none⟩ = some (.string s8) := (blk_cell hx10 8).trans rfl
   have d9 : w10.cell? ⟨g, 9, none⟩ = some (.string s9) := (blk_cell hx10 9).trans rfl
   have d10 : w10.cell? ⟨g, 10, none⟩ = some (.slice A3 rest.length rest.length) := (blk_cell hx10 10).trans rfl
   have d11 : w10.cell? ⟨g, 11, none⟩ = some (.bool bb) := (blk_cell hx10 11).trans rfl
   have c0 := blk_cell hz10 0
   have f0 := blk_frozen hz10 0
   have c1 := blk_cell hz10 1
   have f1 := blk_frozen hz10 1
   have c2 := blk_cell hz10 2
   have f2 := blk_frozen hz10 2
   have c3 := blk_cell hz10 3
   have f3 := blk_frozen hz10 3
   have c4 := blk_cell hz10 4
   have f4 := blk_frozen hz10 4
   have c5 := blk_cell hz10 5
   have f5 := blk_frozen hz10 5
   have c6 := blk_cell hz10 6
   have f6 := blk_frozen hz10 6
   have c7 := blk_cell hz10 7
   have f7 := blk_frozen hz10 7
   have c8 := blk_cell hz10 8
   have f8 := blk_frozen hz10 8
   have c9 := blk_cell hz10 9
   have f9 := blk_frozen hz10 9
   have c10 := blk_cell hz10 10
   have f10 := blk_frozen hz10 10
   have c11 := blk_cell hz10 11
   have f11 := blk_frozen hz10 11
   have hsz : (txs (famL (⟨s0, s1, s2, s3, s4, s5, s6, s7, s8, s9, rest, bb⟩ : Fam))).length ≤ 140737488355328 := by
    have := fam_len (bb := bb) hlen2.out
    exact Nat.le_trans this (by decide)
   have hfs := family_says (⟨s0, s1, s2, s3, s4, s5, s6, s7, s8, s9, rest, bb⟩ : Fam) A3 rest.length w10 (Kd.F_now hF10) (Nat.le_refl _) (by show rest.length ≤ _; omega) hsz (hGP.below hB10)
   simp only [famV] at hfs
   clear x0 x1 x2 x3 x4 x5 x6 x7 x8 x9 x10 y0 y1 y2 y3 y4 y5 y6 y7 y8 y9 y10 hHeld hsz hbb hg hR hge hF9 hcut hC2 hB1 hz1 hB0 hz cg0 fg0 cg1 fg1 cg2 fg2 cg3 fg3 cg4 fg4 cg5 fg5 cg6 fg6 cg7 fg7 cg8 fg8 cg9 fg9 cg10 fg10 cg11 fg11
   by_cases he : famT (⟨s0, s1, s2, s3, s4, s5, s6, s7, s8, s9, rest, bb⟩ : Fam) = v
   ·
    rw [if_pos he] at hif
    rw [he] at hfs
    have q1 : (v.toList != v.toList) = false := by simp
    have Hif := Lib.hid hif
    clear hif he
    go_wp2_with fail
    refine hfs.mono ?_
    rintro e w11 ⟨rfl, hb11⟩
    have hz11 := blk_below hz10 hb11
    have hx11 := blk_below hx10 hb11
    have hB11 := below_then hB10 hB10.size hb11
    have hF11 := Kd.F_below hF10 hb11
    have d0 : w11.cell? ⟨g, 0, none⟩ = some (.string s0) := (blk_cell hx11 0).trans rfl
    have d1 : w11.cell? ⟨g, 1, none⟩ = some (.string s1) := (blk_cell hx11 1).trans rfl
    have d2 : w11.cell? ⟨g, 2, none⟩ = some (.string s2) := (blk_cell hx11 2).trans rfl
    have d3 : w11.cell? ⟨g, 3, none⟩ = some (.string s3) := (blk_cell hx11 3).trans rfl
    have d4 : w11.cell? ⟨g, 4, none⟩ = some (.string s4) := (blk_cell hx11 4).trans rfl
    have d5 : w11.cell? ⟨g, 5, none⟩ = some (.string s5) := (blk_cell hx11 5).trans rfl
    have d6 : w11.cell? ⟨g, 6, none⟩ = some (.string s6) := (blk_cell hx11 6).trans rfl
    have d7 : w11.cell? ⟨g, 7, none⟩ = some (.string s7) := (blk_cell hx11 7).trans rfl
    have d8 : w11.cell? ⟨g, 8, none⟩ = some (.string s8) := (blk_cell hx11 8).trans rfl
    have d9 : w11.cell? ⟨g, 9, none⟩ = some (.string s9) := (blk_cell hx11 9).trans rfl
    have d10 : w11.cell? ⟨g, 10, none⟩ = some (.slice A3 rest.length rest.length) := (blk_cell hx11 10).trans rfl
    have d11 : w11.cell? ⟨g, 11, none⟩ = some (.bool bb) := (blk_cell hx11 11).trans rfl
    have c0 := blk_cell hz11 0
    have f0 := blk_frozen hz11 0
    have c1 := blk_cell hz11 1
    have f1 := blk_frozen hz11 1
    have c2 := blk_cell hz11 2
    have f2 := blk_frozen hz11 2
    have c3 := blk_cell hz11 3
    have f3 := blk_frozen hz11 3
    have c4 := blk_cell hz11 4
    have f4 := blk_frozen hz11 4
    have c5 := blk_cell hz11 5
    have f5 := blk_frozen hz11 5
    have c6 := blk_cell hz11 6
    have f6 := blk_frozen hz11 6
    have c7 := blk_cell hz11 7
    have f7 := blk_frozen hz11 7
    have c8 := blk_cell hz11 8
    have f8 := blk_frozen hz11 8
    have c9 := blk_cell hz11 9
    have f9 := blk_frozen hz11 9
    have c10 := blk_cell hz11 10
    have f10 := blk_frozen hz11 10
    have c11 := blk_cell hz11 11
    have f11 := blk_frozen hz11 11
    clear hfs
    go_wp2_with fail
    refine bodyPost_ret (results_ct rfl _ _ w.heap.size 93 #[.string s0, .string s1, .string s2, .string s3, .string s4, .string s5, .string s6, .string s7, .string s8, .string s9, .slice A3 rest.length rest.length, .bool bb] (0, 0) _ rfl (by
     refine blk_put (cs := #[.string s0, .string s1, .string s2, .string s3, .string s4, .string s5, .string s6, .string s7, .string s8, .string s9, .slice A3 rest.length rest.length, .bool false]) ?_ 11 _ rfl
     refine blk_put (cs := #[.string s0, .string s1, .string s2, .string s3, .string s4, .string s5, .string s6, .string s7, .string s8, .string s9, .slice none 0 0, .bool false]) ?_ 10 _ rfl
     refine blk_put (cs := #[.string s0, .string s1, .string s2, .string s3, .string s4, .string s5, .string s6, .string s7, .string s8, .string ⟨#[]⟩, .slice none 0 0, .bool false]) ?_ 9 _ rfl
     refine blk_put (cs := #[.string s0, .string s1, .string s2, .string s3, .string s4, .string s5, .string s6, .string s7, .string ⟨#[]⟩, .string ⟨#[]⟩, .slice none 0 0, .bool false]) ?_ 8 _ rfl
     refine blk_put (cs := #[.string s0, .string s1, .string s2, .string s3, .string s4, .string s5, .string s6, .string ⟨#[]⟩, .string ⟨#[]⟩, .string ⟨#[]⟩, .slice none 0 0, .bool false]) ?_ 7 _ rfl
     refine blk_put (cs := #[.string s0, .string s1, .string s2, .string s3, .string s4, .string s5, .string ⟨#[]⟩, .string ⟨#[]⟩, .string ⟨#[]⟩, .string ⟨#[]⟩, .slice none 0 0, .bool false]) ?_ 6 _ rfl
     refine blk_put (cs := #[.string s0, .string s1, .string s2, .string s3, .string s4, .string ⟨#[]⟩, .string ⟨#[]⟩, .string ⟨#[]⟩, .string ⟨#[]⟩, .string ⟨#[]⟩, .slice none 0 0, .bool false]) ?_ 5 _ rfl
     refine blk_put (cs := #[.string s0, .string s1, .string s2, .string s3, .string ⟨#[]⟩, .string ⟨#[]⟩, .string ⟨#[]⟩, .string ⟨#[]⟩, .string ⟨#[]⟩, .string ⟨#[]⟩, .slice none 0 0, .bool false]) ?_ 4 _ rfl
     refine blk_put (cs := #[.string s0, .string s1, .string s2, .string ⟨#[]⟩, .string ⟨#[]⟩, .string ⟨#[]⟩, .string ⟨#[]⟩, .string ⟨#[]⟩, .string ⟨#[]⟩, .string ⟨#[]⟩, .slice none 0 0, .bool false]) ?_ 3 _ rfl
     refine blk_put (cs := #[.string s0, .string s1, .string ⟨#[]⟩, .string ⟨#[]⟩, .string ⟨#[]⟩, .string ⟨#[]⟩, .string ⟨#[]⟩, .string ⟨#[]⟩, .string ⟨#[]⟩, .string ⟨#[]⟩, .slice none 0 0, .bool false]) ?_ 2 _ rfl
     refine blk_put (cs := #[.string s0, .string ⟨#[]⟩, .string ⟨#[]⟩, .string ⟨#[]⟩, .string ⟨#[]⟩, .string ⟨#[]⟩, .string ⟨#[]⟩, .string ⟨#[]⟩, .string ⟨#[]⟩, .string ⟨#[]⟩, .slice none 0 0, .bool false]) ?_ 1 _ rfl
     refine blk_put (cs := #[.string ⟨#[]⟩, .string ⟨#[]⟩, .string ⟨#[]⟩, .string ⟨#[]⟩, .string ⟨#[]⟩, .string ⟨#[]⟩, .string ⟨#[]⟩, .string ⟨#[]⟩, .string ⟨#[]⟩, .string ⟨#[]⟩, .slice none 0 0, .bool false]) ?_ 0 _ rfl
     exact hz11) Tryz.underlying93 rfl (by kernel_rfl)) rfl ?_
    rw [Hif.out]
    refine ⟨A3, rest.length, rfl, ⟨Nat.le_refl _, Kd.F_mono (ok := fun k => w2.heap.size ≤ k ∧ k ≠ g) ?_ (fun k hk => by have := hk.1; omega)⟩, ?_⟩
    ·
     with_reducible refine Kd.F_far (p := ⟨w.heap.size, 11, none⟩) ?_ (fun k hk => hne k hk) _
     with_reducible refine Kd.F_far (p := ⟨w.heap.size, 10, none⟩) ?_ (fun k hk => hne k hk) _
     with_reducible refine Kd.F_far (p := ⟨w.heap.size, 9, none⟩) ?_ (fun k hk => hne k hk) _
     with_reducible refine Kd.F_far (p := ⟨w.heap.size, 8, none⟩) ?_ (fun k hk => hne k hk) _
     with_reducible refine Kd.F_far (p := ⟨w.heap.size, 7, none⟩) ?_ (fun k hk => hne k hk) _
     with_reducible refine Kd.F_far (p := ⟨w.heap.size, 6, none⟩) ?_ (fun k hk => hne k hk) _
     with_reducible refine Kd.F_far (p := ⟨w.heap.size, 5, none⟩) ?_ (fun k hk => hne k hk) _
     with_reducible refine Kd.F_far (p := ⟨w.heap.size, 4, none⟩) ?_ (fun k hk => hne k hk) _
     with_reducible refine Kd.F_far (p := ⟨w.heap.size, 3, none⟩) ?_ (fun k hk => hne k hk) _
     with_reducible refine Kd.F_far (p := ⟨w.heap.size, 2, none⟩) ?_ (fun k hk => hne k hk) _
     with_reducible refine Kd.F_far (p := ⟨w.heap.size, 1, none⟩) ?_ (fun k hk => hne k hk) _
     with_reducible refine Kd.F_far (p := ⟨w.heap.size, 0, none⟩) ?_ (fun k hk => hne k hk) _
     exact hF11
    iterate 12 (with_reducible refine below_set ?_ (Nat.le_refl _))
    with_reducible exact hB11
   ·
    rw [if_neg he] at hif
    obtain ⟨Tx, hTx⟩ : ∃ Tx, Tx = famT (⟨s0, s1, s2, s3, s4, s5, s6, s7, s8, s9, rest, bb⟩ : Fam) := ⟨_, rfl⟩
    rw [← hTx] at hfs he
    clear hTx
    have hne2 : Tx.toList ≠ v.toList := fun h => he (toList_inj h)
    have q0 : (Tx.toList == v.toList) = false := beq_eq_false_iff_ne.2 hne2
    have q1 : (Tx.toList != v.toList) = true := bne_iff_ne.2 hne2
    have Hif := Lib.hid hif
    clear hif he
    go_wp2_with fail
    refine hfs.mono ?_
    rintro e w11 ⟨rfl, hb11⟩
    have hz11 := blk_below hz10 hb11
    have hB11 := below_then hB10 hB10.size hb11
    have c0 := blk_cell hz11 0
    have f0 := blk_frozen hz11 0
    have c1 := blk_cell hz11 1
    have f1 := blk_frozen hz11 1
    have c2 := blk_cell hz11 2
    have f2 := blk_frozen hz11 2
    have c3 := blk_cell hz11 3
    have f3 := blk_frozen hz11 3
    have c4 := blk_cell hz11 4
    have f4 := blk_frozen hz11 4
    have c5 := blk_cell hz11 5
    have f5 := blk_frozen hz11 5
    have c6 := blk_cell hz11 6
    have f6 := blk_frozen hz11 6
    have c7 := blk_cell hz11 7
    have f7 := blk_frozen hz11 7
    have c8 := blk_cell hz11 8
    have f8 := blk_frozen hz11 8
    have c9 := blk_cell hz11 9
    have f9 := blk_frozen hz11 9
    have c10 := blk_cell hz11 10
    have f10 := blk_frozen hz11 10
    have c11 := blk_cell hz11 11
    have f11 := blk_frozen hz11 11
    clear hfs
    go_wp2_with fail
    refine bodyPost_ret (results_ct rfl _ _ w.heap.size 93 #[.string ⟨#[]⟩, .string ⟨#[]⟩, .string ⟨#[]⟩, .string ⟨#[]⟩, .string ⟨#[]⟩, .string ⟨#[]⟩, .string ⟨#[]⟩, .string ⟨#[]⟩, .string ⟨#[]⟩, .string ⟨#[]⟩, .slice none 0 0, .bool false] (0, 0) _ rfl (by
     refine blk_put (cs := #[.string ⟨#[]⟩, .string ⟨#[]⟩, .string ⟨#[]⟩, .string ⟨#[]⟩, .string ⟨#[]⟩, .string ⟨#[]⟩, .string ⟨#[]⟩, .string ⟨#[]⟩, .string ⟨#[]⟩, .string ⟨#[]⟩, .slice none 0 0, .bool false]) ?_ 11 _ rfl
     refine blk_put (cs := #[.string ⟨#[]⟩, .string ⟨#[]⟩, .string ⟨#[]⟩, .string ⟨#[]⟩, .string ⟨#[]⟩, .string ⟨#[]⟩, .string ⟨#[]⟩, .string ⟨#[]⟩, .string ⟨#[]⟩, .string ⟨#[]⟩, .slice none 0 0, .bool false]) ?_ 10 _ rfl
     refine blk_put (cs := #[.string ⟨#[]⟩, .string ⟨#[]⟩, .string ⟨#[]⟩, .string ⟨#[]⟩, .string ⟨#[]⟩, .string ⟨#[]⟩, .string ⟨#[]⟩, .string ⟨#[]⟩, .string ⟨#[]⟩, .string ⟨#[]⟩, .slice none 0 0, .bool false]) ?_ 9 _ rfl
     refine blk_put (cs := #[.string ⟨#[]⟩, .string ⟨#[]⟩, .string ⟨#[]⟩, .string ⟨#[]⟩, .string ⟨#[]⟩, .string ⟨#[]⟩, .string ⟨#[]⟩, .string ⟨#[]⟩, .string ⟨#[]⟩, .string ⟨#[]⟩, .slice none 0 0, .bool false]) ?_ 8 _ rfl
     refine blk_put (cs := #[.string ⟨#[]⟩, .string ⟨#[]⟩, .string ⟨#[]⟩, .string ⟨#[]⟩, .string ⟨#[]⟩, .string ⟨#[]⟩, .string ⟨#[]⟩, .string ⟨#[]⟩, .string ⟨#[]⟩, .string ⟨#[]⟩, .slice none 0 0, .bool false]) ?_ 7 _ rfl
     refine blk_put (cs := #[.string ⟨#[]⟩, .string ⟨#[]⟩, .string ⟨#[]⟩, .string ⟨#[]⟩, .string ⟨#[]⟩, .string ⟨#[]⟩, .string ⟨#[]⟩, .string ⟨#[]⟩, .string ⟨#[]⟩, .string ⟨#[]⟩, .slice none 0 0, .bool false]) ?_ 6 _ rfl
     refine blk_put (cs := #[.string ⟨#[]⟩, .string ⟨#[]⟩, .string ⟨#[]⟩, .string ⟨#[]⟩, .string ⟨#[]⟩, .string ⟨#[]⟩, .string ⟨#[]⟩, .string ⟨#[]⟩, .string ⟨#[]⟩, .string ⟨#[]⟩, .slice none 0 0, .bool false]) ?_ 5 _ rfl
     refine blk_put (cs := #[.string ⟨#[]⟩, .string ⟨#[]⟩, .string ⟨#[]⟩, .string ⟨#[]⟩, .string ⟨#[]⟩, .string ⟨#[]⟩, .string ⟨#[]⟩, .string ⟨#[]⟩, .string ⟨#[]⟩, .string ⟨#[]⟩, .slice none 0 0, .bool false]) ?_ 4 _ rfl
     refine blk_put (cs := #[.string ⟨#[]⟩, .string ⟨#[]⟩, .string ⟨#[]⟩, .string ⟨#[]⟩, .string ⟨#[]⟩, .string ⟨#[]⟩, .string ⟨#[]⟩, .string ⟨#[]⟩, .string ⟨#[]⟩, .string ⟨#[]⟩, .slice none 0 0, .bool false]) ?_ 3 _ rfl
     refine blk_put (cs := #[.string ⟨#[]⟩, .string ⟨#[]⟩, .string ⟨#[]⟩, .string ⟨#[]⟩, .string ⟨#[]⟩, .string ⟨#[]⟩, .string ⟨#[]⟩, .string ⟨#[]⟩, .string ⟨#[]⟩, .string ⟨#[]⟩, .slice none 0 0, .bool false]) ?_ 2 _ rfl
     refine blk_put (cs := #[.string ⟨#[]⟩, .string ⟨#[]⟩, .string ⟨#[]⟩, .string ⟨#[]⟩, .string ⟨#[]⟩, .string ⟨#[]⟩, .string ⟨#[]⟩, .string ⟨#[]⟩, .string ⟨#[]⟩, .string ⟨#[]⟩, .slice none 0 0, .bool false]) ?_ 1 _ rfl
     refine blk_put (cs := #[.string ⟨#[]⟩, .string ⟨#[]⟩, .string ⟨#[]⟩, .string ⟨#[]⟩, .string ⟨#[]⟩, .string ⟨#[]⟩, .string ⟨#[]⟩, .string ⟨#[]⟩, .string ⟨#[]⟩, .string ⟨#[]⟩, .slice none 0 0, .bool false]) ?_ 0 _ rfl
     exact hz11) Tryz.underlying93 rfl (by kernel_rfl)) rfl ?_
    rw [Hif.out]
    refine ⟨(none : Option Addr), 0, rfl, FamR.nil _ _ _, ?_⟩
    iterate 12 (with_reducible refine below_set ?_ (Nat.le_refl _))
    with_reducible exact hB11
end Go.Proofs.YtpoblffgclmmlaaGreatDoor.X
end
section
set_option linter.unusedVariables false
set_option linter.unusedSimpArgs false
namespace Go.Proofs.YtpoblffgclmmlaaGreatDoor.X
open Go.RowKit Go.WideMaps Go.Maps Go.Proofs.YtpoblffgclmmlaaGreatDoorW.PrintWords Go.Proofs.YtpoblffgclmmlaaGreatDoorW.PrintLast Go.Proofs.YtpoblffgclmmlaaGreatDoorW.PrintMore Go.Proofs.YtpoblffgclmmlaaGreatDoor.Q

theorem cell_far {w : World} {g j : Nat} {a : Addr} {u v : Value} (hne : g ≠ a.block) (h : w.cell? a = some u) : (w.setCell ⟨g, j, none⟩ v).cell? a = some u :=
 (World.cell?_setCell_other _ _ _ _ (fun e => hne (by rw [← e]))).trans h
end Go.Proofs.YtpoblffgclmmlaaGreatDoor.X
end
section
set_option linter.unusedVariables false
set_option linter.unusedSimpArgs false
namespace Go.Proofs.YtpoblffgclmmlaaGreatDoor.X
open Go.RowKit Go.WideMaps Go.Maps Go.Proofs.YtpoblffgclmmlaaGreatDoorW.PrintWords Go.Proofs.YtpoblffgclmmlaaGreatDoorW.PrintLast Go.Proofs.YtpoblffgclmmlaaGreatDoorW.PrintMore Go.Proofs.YtpoblffgclmmlaaGreatDoor.Q
structure Cod where
 code : ByteArray
 client : ByteArray
 redirect : ByteArray
 challenge : ByteArray
 nonce : ByteArray
 scope : ByteArray
 user : ByteArray
 conn : ByteArray
 sub : ByteArray
 claims : ByteArray
 refresh : ByteArray
 ends : Int
 family : ByteArray
def codV (x : Cod) : Value := .agg #[.string x.code, .string x.client, .string x.redirect, .string x.challenge, .string x.nonce, .string x.scope, .string x.user, .string x.conn, .string x.sub, .string x.claims, .string x.refresh, .int .i64 x.ends, .string x.family]
end Go.Proofs.YtpoblffgclmmlaaGreatDoor.X
end
section
set_option linter.unusedVariables false
set_option linter.unusedSimpArgs false
namespace Go.Proofs.YtpoblffgclmmlaaGreatDoor.X
open Go.RowKit Go.WideMaps Go.Maps Go.Proofs.YtpoblffgclmmlaaGreatDoorW.PrintWords Go.Proofs.YtpoblffgclmmlaaGreatDoorW.PrintLast Go.Proofs.YtpoblffgclmmlaaGreatDoorW.PrintMore Go.Proofs.YtpoblffgclmmlaaGreatDoor.Q

theorem mkB_size (l : List UInt8) : (⟨l.toArray⟩ : ByteArray).size = l.length := by show (List.toArray _).size = _; simp
def cnt (r : List S82) (p : ByteArray) : List ByteArray := (r.map fun x => x.f0).filter fun k => preB k p
end Go.Proofs.YtpoblffgclmmlaaGreatDoor.X
end
section
set_option linter.unusedVariables false
set_option linter.unusedSimpArgs false
namespace Go.Proofs.YtpoblffgclmmlaaGreatDoor.X
open Go.RowKit Go.WideMaps Go.Maps Go.Proofs.YtpoblffgclmmlaaGreatDoorW.PrintWords Go.Proofs.YtpoblffgclmmlaaGreatDoorW.PrintLast Go.Proofs.YtpoblffgclmmlaaGreatDoorW.PrintMore Go.Proofs.YtpoblffgclmmlaaGreatDoor.Q

def fkey (c : ByteArray) : ByteArray := (⟨#[102]⟩ : ByteArray) ++ c
theorem fkey_size (c : ByteArray) : (fkey c).size = 1 + c.size := by unfold fkey; rw [ByteArray.size_append]; rfl
theorem fkey_says (c : ByteArray) (hc : c.size ≤ 5000000000) (w : World) : Calls Tryz.prog 73 #[.string c] w fun e w' => e = .returned (.string (fkey c)) ∧ Below w.heap.size w w' :=
 (grant_FamilyKey.calls c (fkey c) w (by unfold grant_FamilyKey.f; rw [if_pos (by omega)]; rfl)).mono fun e w' h => ⟨h.1, h.2.below⟩
/-- The family of a name. -/
def famOfR (r : List S82) (id : ByteArray) : Option Fam := (getR r (fkey id)).bind readF
theorem readF_cls (v : ByteArray) : ∃ y E b, (readF v).getD famZ = y ∧ famE (readF v) = E ∧ (readF v).isSome = b ∧ ((E = 0 ∧ b = true) ∨ (E = 2 ∧ b = false)) := by
 cases readF v with
 | none => exact ⟨_, _, _, rfl, rfl, rfl, .inr ⟨rfl, rfl⟩⟩
 | some y => exact ⟨_, _, _, rfl, rfl, rfl, .inl ⟨rfl, rfl⟩⟩
theorem getR_max {r : List S82} {k v : ByteArray} (h : getR r k = some v) : v.size ≤ wgt r := by
 unfold getR at h
 obtain ⟨x, hx, rfl⟩ := Option.map_eq_some_iff.1 h
 have hm := List.mem_of_find?_eq_some hx
 unfold wgt
 clear h hx
 induction r with
 | nil => cases hm
 | cons y r ih =>
  simp only [List.map_cons, List.sum_cons]
  rcases List.mem_cons.1 hm with h | h
  ·
   rw [h]; omega
  ·
   have := ih h; omega
set_option maxHeartbeats 4000000 in
set_option maxRecDepth 100000 in
theorem gfam_says (base s N : Nat) (r : List S82) (id : ByteArray) (hi : id.size ≤ 1000000) (hv : wgt r ≤ 4294967280) (w : World) (hS : StW base w s r N) (hGP : GP w) (hGE : GE w) :
  Calls Tryz.prog 67 #[.pointer (some ⟨s, 0, none⟩), .string id] w fun e w' => ∃ A c, e = .returned (.tuple #[famV ((famOfR r id).getD famZ) A c, .bool (famOfR r id).isSome]) ∧ FamR w' w.heap.size ((famOfR r id).getD famZ) A c ∧ Below w.heap.size w w' := by
 have hB0 : Below w.heap.size w (w.alloc (.cells #[.string ⟨#[]⟩, .string ⟨#[]⟩, .string ⟨#[]⟩, .string ⟨#[]⟩, .string ⟨#[]⟩, .string ⟨#[]⟩, .string ⟨#[]⟩, .string ⟨#[]⟩, .string ⟨#[]⟩, .string ⟨#[]⟩, .slice none 0 0, .bool false] 93)) := (Below.refl _ w).alloc (Nat.le_refl _) _
 have hz := heap_alloc_new w (.cells #[.string ⟨#[]⟩, .string ⟨#[]⟩, .string ⟨#[]⟩, .string ⟨#[]⟩, .string ⟨#[]⟩, .string ⟨#[]⟩, .string ⟨#[]⟩, .string ⟨#[]⟩, .string ⟨#[]⟩, .string ⟨#[]⟩, .slice none 0 0, .bool false] 93)
 have hks := fkey_size id
 have hkey := fun w1 => fkey_says id (by omega) w1
 have hget := fun w1 (hb : Below w.heap.size w w1) => wget_says base s N r (fkey id) (by unfold maxLen; omega) w1 (hS.below hb)
 cases hg : getR r (fkey id) with
 | none =>
  have hfo : famOfR r id = none := by unfold famOfR; rw [hg]; rfl
  rw [hfo]
  clear hfo
  go_enter Tryz.func67, Tryz.ntmps67
  go_wp2_with fail
  refine (hkey _).mono ?_
  rintro e w0 ⟨rfl, hb0⟩
  have hB1 := below_then hB0 hB0.size hb0
  have hget := hget w0 hB1
  rw [hg] at hget
  have hz1 := blk_below hz hb0
  clear hkey
  go_wp2_with fail
  refine hget.mono ?_
  rintro e w1 ⟨rfl, he⟩
  subst he
  simp only [Option.getD_none, Option.getD_some, Option.isSome_none, Option.isSome_some]
  have c0 := blk_cell hz1 0
  have f0 := blk_frozen hz1 0
  have c1 := blk_cell hz1 1
  have f1 := blk_frozen hz1 1
  have c2 := blk_cell hz1 2
  have f2 := blk_frozen hz1 2
  have c3 := blk_cell hz1 3
  have f3 := blk_frozen hz1 3
  have c4 := blk_cell hz1 4
  have f4 := blk_frozen hz1 4
  have c5 := blk_cell hz1 5
  have f5 := blk_frozen hz1 5
  have c6 := blk_cell hz1 6
  have f6 := blk_frozen hz1 6
  have c7 := blk_cell hz1 7
  have f7 := blk_frozen hz1 7
  have c8 := blk_cell hz1 8
  have f8 := blk_frozen hz1 8
  have c9 := blk_cell hz1 9
  have f9 := blk_frozen hz1 9
  have c10 := blk_cell hz1 10
  have f10 := blk_frozen hz1 10
  have c11 := blk_cell hz1 11
  have f11 := blk_frozen hz1 11
  clear hget hg hks
  go_wp2_with fail
  refine bodyPost_ret (results_ct rfl _ _ w.heap.size 93 #[.string ⟨#[]⟩, .string ⟨#[]⟩, .string ⟨#[]⟩, .string ⟨#[]⟩, .string ⟨#[]⟩, .string ⟨#[]⟩, .string ⟨#[]⟩, .string ⟨#[]⟩, .string ⟨#[]⟩, .string ⟨#[]⟩, .slice none 0 0, .bool false] (0, 0) _ rfl (by
   refine blk_put (cs := #[.string ⟨#[]⟩, .string ⟨#[]⟩, .string ⟨#[]⟩, .string ⟨#[]⟩, .string ⟨#[]⟩, .string ⟨#[]⟩, .string ⟨#[]⟩, .string ⟨#[]⟩, .string ⟨#[]⟩, .string ⟨#[]⟩, .slice none 0 0, .bool false]) ?_ 11 _ rfl
   refine blk_put (cs := #[.string ⟨#[]⟩, .string ⟨#[]⟩, .string ⟨#[]⟩, .string ⟨#[]⟩, .string ⟨#[]⟩, .string ⟨#[]⟩, .string ⟨#[]⟩, .string ⟨#[]⟩, .string ⟨#[]⟩, .string ⟨#[]⟩, .slice none 0 0, .bool false]) ?_ 10 _ rfl
   refine blk_put (cs := #[.string ⟨#[]⟩, .string ⟨#[]⟩, .string ⟨#[]⟩, .string ⟨#[]⟩, .string ⟨#[]⟩, .string ⟨#[]⟩, .string ⟨#[]⟩, .string ⟨#[]⟩, .string ⟨#[]⟩, .string ⟨#[]⟩, .slice none 0 0, .bool false]) ?_ 9 _ rfl
   refine blk_put (cs := #[.string ⟨#[]⟩, .string ⟨#[]⟩, .string ⟨#[]⟩, .string ⟨#[]⟩, .string ⟨#[]⟩, .string ⟨#[]⟩, .string ⟨#[]⟩, .string ⟨#[]⟩, .string ⟨#[]⟩, .string ⟨#[]⟩, .slice none 0 0, .bool false]) ?_ 8 _ rfl
   refine blk_put (cs := #[.string ⟨#[]⟩, .string ⟨#[]⟩, .string ⟨#[]⟩, .string ⟨#[]⟩, .string ⟨#[]⟩, .string ⟨#[]⟩, .string ⟨#[]⟩, .string ⟨#[]⟩, .string ⟨#[]⟩, .string ⟨#[]⟩, .slice none 0 0, .bool false]) ?_ 7 _ rfl
   refine blk_put (cs := #[.string ⟨#[]⟩, .string ⟨#[]⟩, .string ⟨#[]⟩, .string ⟨#[]⟩, .string ⟨#[]⟩, .string ⟨#[]⟩, .string ⟨#[]⟩, .string ⟨#[]⟩, .string ⟨#[]⟩, .string ⟨#[]⟩, .slice none 0 0, .bool false]) ?_ 6 _ rfl
   refine blk_put (cs := #[.string ⟨#[]⟩, .string ⟨#[]⟩, .string ⟨#[]⟩, .string ⟨#[]⟩, .string ⟨#[]⟩, .string ⟨#[]⟩, .string ⟨#[]⟩, .string ⟨#[]⟩, .string ⟨#[]⟩, .string ⟨#[]⟩, .slice none 0 0, .bool false]) ?_ 5 _ rfl
   refine blk_put (cs := #[.string ⟨#[]⟩, .string ⟨#[]⟩, .string ⟨#[]⟩, .string ⟨#[]⟩, .string ⟨#[]⟩, .string ⟨#[]⟩, .string ⟨#[]⟩, .string ⟨#[]⟩, .string ⟨#[]⟩, .string ⟨#[]⟩, .slice none 0 0, .bool false]) ?_ 4 _ rfl
   refine blk_put (cs := #[.string ⟨#[]⟩, .string ⟨#[]⟩, .string ⟨#[]⟩, .string ⟨#[]⟩, .string ⟨#[]⟩, .string ⟨#[]⟩, .string ⟨#[]⟩, .string ⟨#[]⟩, .string ⟨#[]⟩, .string ⟨#[]⟩, .slice none 0 0, .bool false]) ?_ 3 _ rfl
   refine blk_put (cs := #[.string ⟨#[]⟩, .string ⟨#[]⟩, .string ⟨#[]⟩, .string ⟨#[]⟩, .string ⟨#[]⟩, .string ⟨#[]⟩, .string ⟨#[]⟩, .string ⟨#[]⟩, .string ⟨#[]⟩, .string ⟨#[]⟩, .slice none 0 0, .bool false]) ?_ 2 _ rfl
   refine blk_put (cs := #[.string ⟨#[]⟩, .string ⟨#[]⟩, .string ⟨#[]⟩, .string ⟨#[]⟩, .string ⟨#[]⟩, .string ⟨#[]⟩, .string ⟨#[]⟩, .string ⟨#[]⟩, .string ⟨#[]⟩, .string ⟨#[]⟩, .slice none 0 0, .bool false]) ?_ 1 _ rfl
   refine blk_put (cs := #[.string ⟨#[]⟩, .string ⟨#[]⟩, .string ⟨#[]⟩, .string ⟨#[]⟩, .string ⟨#[]⟩, .string ⟨#[]⟩, .string ⟨#[]⟩, .string ⟨#[]⟩, .string ⟨#[]⟩, .string ⟨#[]⟩, .slice none 0 0, .bool false]) ?_ 0 _ rfl
   exact hz1) Tryz.underlying93 rfl (by kernel_rfl)) rfl ?_
  refine ⟨(none : Option Addr), 0, rfl, FamR.nil _ _ _, ?_⟩
  iterate 12 (with_reducible refine below_set ?_ (Nat.le_refl _))
  with_reducible exact hB1
 | some v =>
  have hfo : famOfR r id = readF v := by unfold famOfR; rw [hg]; rfl
  rw [hfo]
  clear hfo
  have hvs : v.size ≤ 4294967280 := Nat.le_trans (getR_max hg) hv
  obtain ⟨y, E, b, hy, hE, hb, hEb⟩ := readF_cls v
  have hread := fun w1 (hb : Below w.heap.size w w1) => rfam_says v hvs w1 (hGP.below hb) (hGE.below hb)
  rw [hy, hE] at hread
  rw [hy, hb]
  simp only [famV] at hread
  clear hy hE hb
  go_enter Tryz.func67, Tryz.ntmps67
  go_wp2_with fail
  refine (hkey _).mono ?_
  rintro e w0 ⟨rfl, hb0⟩
  have hB1 := below_then hB0 hB0.size hb0
  have hget := hget w0 hB1
  rw [hg] at hget
  have hz1 := blk_below hz hb0
  clear hkey
  go_wp2_with fail
  refine hget.mono ?_
  rintro e w1 ⟨rfl, he⟩
  subst he
  simp only [Option.getD_none, Option.getD_some, Option.isSome_none, Option.isSome_some]
  have hread := hread w1 hB1
  clear hget hg hks hvs
  go_wp2_with fail
  refine hread.mono ?_
  rintro e w3 ⟨A, c, rfl, hF3, hb3⟩
  clear hread
  have hB3 := below_then hB1 hB1.size hb3
  have hz3 := blk_below hz1 hb3
  go_upto_region 5 with (fail)
  have hx4 := heap_alloc_new w3 (.cells #[.string y.id, .string y.client, .string y.user, .string y.conn, .string y.sub, .string y.nonce, .string y.scope, .string y.claims, .string y.refresh, .string y.up, .slice A y.old.length c, .bool y.rev] 93)
  have hb4 : Below w3.heap.size w3 (w3.alloc (.cells #[.string y.id, .string y.client, .string y.user, .string y.conn, .string y.sub, .string y.nonce, .string y.scope, .string y.claims, .string y.refresh, .string y.up, .slice A y.old.length c, .bool y.rev] 93)) := (Below.refl _ w3).alloc (Nat.le_refl _) _
  generalize w3.alloc (.cells #[.string y.id, .string y.client, .string y.user, .string y.conn, .string y.sub, .string y.nonce, .string y.scope, .string y.claims, .string y.refresh, .string y.up, .slice A y.old.length c, .bool y.rev] 93) = w4 at hx4 hb4 ⊢
  have hB4 := below_then hB3 hB3.size hb4
  have hz4 := blk_below hz3 hb4
  have hF4 := hF3.below hb4
  have hlt1 := blk_lt hz1
  have hFF := Kd.F_mono hF4.2 (ok' := fun k => w.heap.size + 1 ≤ k) (fun k hk => by omega)
  have hcc := hF4.1
  clear hF3 hF4 hz1 hz3 hB3 hb3 hb4
  have d0 : w4.cell? ⟨w3.heap.size, 0, none⟩ = some (.string y.id) := (blk_cell hx4 0).trans rfl
  have d1 : w4.cell? ⟨w3.heap.size, 1, none⟩ = some (.string y.client) := (blk_cell hx4 1).trans rfl
  have d2 : w4.cell? ⟨w3.heap.size, 2, none⟩ = some (.string y.user) := (blk_cell hx4 2).trans rfl
  have d3 : w4.cell? ⟨w3.heap.size, 3, none⟩ = some (.string y.conn) := (blk_cell hx4 3).trans rfl
  have d4 : w4.cell? ⟨w3.heap.size, 4, none⟩ = some (.string y.sub) := (blk_cell hx4 4).trans rfl
  have d5 : w4.cell? ⟨w3.heap.size, 5, none⟩ = some (.string y.nonce) := (blk_cell hx4 5).trans rfl
  have d6 : w4.cell? ⟨w3.heap.size, 6, none⟩ = some (.string y.scope) := (blk_cell hx4 6).trans rfl
  have d7 : w4.cell? ⟨w3.heap.size, 7, none⟩ = some (.string y.claims) := (blk_cell hx4 7).trans rfl
  have d8 : w4.cell? ⟨w3.heap.size, 8, none⟩ = some (.string y.refresh) := (blk_cell hx4 8).trans rfl
  have d9 : w4.cell? ⟨w3.heap.size, 9, none⟩ = some (.string y.up) := (blk_cell hx4 9).trans rfl
  have d10 : w4.cell? ⟨w3.heap.size, 10, none⟩ = some (.slice A y.old.length c) := (blk_cell hx4 10).trans rfl
  have d11 : w4.cell? ⟨w3.heap.size, 11, none⟩ = some (.bool y.rev) := (blk_cell hx4 11).trans rfl
  have c0 := blk_cell hz4 0
  have f0 := blk_frozen hz4 0
  have c1 := blk_cell hz4 1
  have f1 := blk_frozen hz4 1
  have c2 := blk_cell hz4 2
  have f2 := blk_frozen hz4 2
  have c3 := blk_cell hz4 3
  have f3 := blk_frozen hz4 3
  have c4 := blk_cell hz4 4
  have f4 := blk_frozen hz4 4
  have c5 := blk_cell hz4 5
  have f5 := blk_frozen hz4 5
  have c6 := blk_cell hz4 6
  have f6 := blk_frozen hz4 6
  have c7 := blk_cell hz4 7
  have f7 := blk_frozen hz4 7
  have c8 := blk_cell hz4 8
  have f8 := blk_frozen hz4 8
  have c9 := blk_cell hz4 9
  have f9 := blk_frozen hz4 9
  have c10 := blk_cell hz4 10
  have f10 := blk_frozen hz4 10
  have c11 := blk_cell hz4 11
  have f11 := blk_frozen hz4 11
  rcases hEb with ⟨rfl, rfl⟩ | ⟨rfl, rfl⟩
  ·
   go_wp2_with fail
   refine bodyPost_ret (results_ct rfl _ _ w.heap.size 93 #[.string y.id, .string y.client, .string y.user, .string y.conn, .string y.sub, .string y.nonce, .string y.scope, .string y.claims, .string y.refresh, .string y.up, .slice A y.old.length c, .bool y.rev] (0, 0) _ rfl (by
    refine blk_put (cs := #[.string y.id, .string y.client, .string y.user, .string y.conn, .string y.sub, .string y.nonce, .string y.scope, .string y.claims, .string y.refresh, .string y.up, .slice A y.old.length c, .bool false]) ?_ 11 _ rfl
    refine blk_put (cs := #[.string y.id, .string y.client, .string y.user, .string y.conn, .string y.sub, .string y.nonce, .string y.scope, .string y.claims, .string y.refresh, .string y.up, .slice none 0 0, .bool false]) ?_ 10 _ rfl
    refine blk_put (cs := #[.string y.id, .string y.client, .string y.user, .string y.conn, .string y.sub, .string y.nonce, .string y.scope, .string y.claims, .string y.refresh, .string ⟨#[]⟩, .slice none 0 0, .bool false]) ?_ 9 _ rfl
    refine blk_put (cs := #[.string y.id, .string y.client, .string y.user, .string y.conn, .string y.sub, .string y.nonce, .string y.scope, .string y.claims, .string ⟨#[]⟩, .string ⟨#[]⟩, .slice none 0 0, .bool false]) ?_ 8 _ rfl
    refine blk_put (cs := #[.string y.id, .string y.client, .string y.user, .string y.conn, .string y.sub, .string y.nonce, .string y.scope, .string ⟨#[]⟩, .string ⟨#[]⟩, .string ⟨#[]⟩, .slice none 0 0, .bool false]) ?_ 7 _ rfl
    refine blk_put (cs := #[.string y.id, .string y.client, .string y.user, .string y.conn, .string y.sub, .string y.nonce, .string ⟨#[]⟩, .string ⟨#[]⟩, .string ⟨#[]⟩, .string ⟨#[]⟩, .slice none 0 0, .bool false]) ?_ 6 _ rfl
    refine blk_put (cs := #[.string y.id, .string y.client, .string y.user, .string y.conn, .string y.sub, .string ⟨#[]⟩, .string ⟨#[]⟩, .string ⟨#[]⟩, .string ⟨#[]⟩, .string ⟨#[]⟩, .slice none 0 0, .bool false]) ?_ 5 _ rfl
    refine blk_put (cs := #[.string y.id, .string y.client, .string y.user, .string y.conn, .string ⟨#[]⟩, .string ⟨#[]⟩, .string ⟨#[]⟩, .string ⟨#[]⟩, .string ⟨#[]⟩, .string ⟨#[]⟩, .slice none 0 0, .bool false]) ?_ 4 _ rfl
    refine blk_put (cs := #[.string y.id, .string y.client, .string y.user, .string ⟨#[]⟩, .string ⟨#[]⟩, .string ⟨#[]⟩, .string ⟨#[]⟩, .string ⟨#[]⟩, .string ⟨#[]⟩, .string ⟨#[]⟩, .slice none 0 0, .bool false]) ?_ 3 _ rfl
    refine blk_put (cs := #[.string y.id, .string y.client, .string ⟨#[]⟩, .string ⟨#[]⟩, .string ⟨#[]⟩, .string ⟨#[]⟩, .string ⟨#[]⟩, .string ⟨#[]⟩, .string ⟨#[]⟩, .string ⟨#[]⟩, .slice none 0 0, .bool false]) ?_ 2 _ rfl
    refine blk_put (cs := #[.string y.id, .string ⟨#[]⟩, .string ⟨#[]⟩, .string ⟨#[]⟩, .string ⟨#[]⟩, .string ⟨#[]⟩, .string ⟨#[]⟩, .string ⟨#[]⟩, .string ⟨#[]⟩, .string ⟨#[]⟩, .slice none 0 0, .bool false]) ?_ 1 _ rfl
    refine blk_put (cs := #[.string ⟨#[]⟩, .string ⟨#[]⟩, .string ⟨#[]⟩, .string ⟨#[]⟩, .string ⟨#[]⟩, .string ⟨#[]⟩, .string ⟨#[]⟩, .string ⟨#[]⟩, .string ⟨#[]⟩, .string ⟨#[]⟩, .slice none 0 0, .bool false]) ?_ 0 _ rfl
    exact hz4) Tryz.underlying93 rfl (by kernel_rfl)) rfl ?_
   refine ⟨A, c, rfl, ⟨hcc, Kd.F_mono (ok := fun k => w.heap.size + 1 ≤ k) ?_ (fun k hk => by omega)⟩, ?_⟩
   ·
    with_reducible refine Kd.F_far (p := ⟨w.heap.size, 11, none⟩) ?_ (fun k hk => by show k ≠ w.heap.size; omega) _
    with_reducible refine Kd.F_far (p := ⟨w.heap.size, 10, none⟩) ?_ (fun k hk => by show k ≠ w.heap.size; omega) _
    with_reducible refine Kd.F_far (p := ⟨w.heap.size, 9, none⟩) ?_ (fun k hk => by show k ≠ w.heap.size; omega) _
    with_reducible refine Kd.F_far (p := ⟨w.heap.size, 8, none⟩) ?_ (fun k hk => by show k ≠ w.heap.size; omega) _
    with_reducible refine Kd.F_far (p := ⟨w.heap.size, 7, none⟩) ?_ (fun k hk => by show k ≠ w.heap.size; omega) _
    with_reducible refine Kd.F_far (p := ⟨w.heap.size, 6, none⟩) ?_ (fun k hk => by show k ≠ w.heap.size; omega) _
    with_reducible refine Kd.F_far (p := ⟨w.heap.size, 5, none⟩) ?_ (fun k hk => by show k ≠ w.heap.size; omega) _
    with_reducible refine Kd.F_far (p := ⟨w.heap.size, 4, none⟩) ?_ (fun k hk => by show k ≠ w.heap.size; omega) _
    with_reducible refine Kd.F_far (p := ⟨w.heap.size, 3, none⟩) ?_ (fun k hk => by show k ≠ w.heap.size; omega) _
    with_reducible refine Kd.F_far (p := ⟨w.heap.size, 2, none⟩) ?_ (fun k hk => by show k ≠ w.heap.size; omega) _
    with_reducible refine Kd.F_far (p := ⟨w.heap.size, 1, none⟩) ?_ (fun k hk => by show k ≠ w.heap.size; omega) _
    with_reducible refine Kd.F_far (p := ⟨w.heap.size, 0, none⟩) ?_ (fun k hk => by show k ≠ w.heap.size; omega) _
    exact hFF
   iterate 12 (with_reducible refine below_set ?_ (Nat.le_refl _))
   with_reducible exact hB4
  ·
   go_wp2_with fail
   refine bodyPost_ret (results_ct rfl _ _ w.heap.size 93 #[.string y.id, .string y.client, .string y.user, .string y.conn, .string y.sub, .string y.nonce, .string y.scope, .string y.claims, .string y.refresh, .string y.up, .slice A y.old.length c, .bool y.rev] (0, 0) _ rfl (by
    refine blk_put (cs := #[.string y.id, .string y.client, .string y.user, .string y.conn, .string y.sub, .string y.nonce, .string y.scope, .string y.claims, .string y.refresh, .string y.up, .slice A y.old.length c, .bool false]) ?_ 11 _ rfl
    refine blk_put (cs := #[.string y.id, .string y.client, .string y.user, .string y.conn, .string y.sub, .string y.nonce, .string y.scope, .string y.claims, .string y.refresh, .string y.up, .slice none 0 0, .bool false]) ?_ 10 _ rfl
    refine blk_put (cs := #[.string y.id, .string y.client, .string y.user, .string y.conn, .string y.sub, .string y.nonce, .string y.scope, .string y.claims, .string y.refresh, .string ⟨#[]⟩, .slice none 0 0, .bool false]) ?_ 9 _ rfl
    refine blk_put (cs := #[.string y.id, .string y.client, .string y.user, .string y.conn, .string y.sub, .string y.nonce, .string y.scope, .string y.claims, .string ⟨#[]⟩, .string ⟨#[]⟩, .slice none 0 0, .bool false]) ?_ 8 _ rfl
    refine blk_put (cs := #[.string y.id, .string y.client, .string y.user, .string y.conn, .string y.sub, .string y.nonce, .string y.scope, .string ⟨#[]⟩, .string ⟨#[]⟩, .string ⟨#[]⟩, .slice none 0 0, .bool false]) ?_ 7 _ rfl
    refine blk_put (cs := #[.string y.id, .string y.client, .string y.user, .string y.conn, .string y.sub, .string y.nonce, .string ⟨#[]⟩, .string ⟨#[]⟩, .string ⟨#[]⟩, .string ⟨#[]⟩, .slice none 0 0, .bool false]) ?_ 6 _ rfl
    refine blk_put (cs := #[.string y.id, .string y.client, .string y.user, .string y.conn, .string y.sub, .string ⟨#[]⟩, .string ⟨#[]⟩, .string ⟨#[]⟩, .string ⟨#[]⟩, .string ⟨#[]⟩, .slice none 0 0, .bool false]) ?_ 5 _ rfl
    refine blk_put (cs := #[.string y.id, .string y.client, .string y.user, .string y.conn, .string ⟨#[]⟩, .string ⟨#[]⟩, .string ⟨#[]⟩, .string ⟨#[]⟩, .string ⟨#[]⟩, .string ⟨#[]⟩, .slice none 0 0, .bool false]) ?_ 4 _ rfl
    refine blk_put (cs := #[.string y.id, .string y.client, .string y.user, .string ⟨#[]⟩, .string ⟨#[]⟩, .string ⟨#[]⟩, .string ⟨#[]⟩, .string ⟨#[]⟩, .string ⟨#[]⟩, .string ⟨#[]⟩, .slice none 0 0, .bool false]) ?_ 3 _ rfl
    refine blk_put (cs := #[.string y.id, .string y.client, .string ⟨#[]⟩, .string ⟨#[]⟩, .string ⟨#[]⟩, .string ⟨#[]⟩, .string ⟨#[]⟩, .string ⟨#[]⟩, .string ⟨#[]⟩, .string ⟨#[]⟩, .slice none 0 0, .bool false]) ?_ 2 _ rfl
    refine blk_put (cs := #[.string y.id, .string ⟨#[]⟩, .string ⟨#[]⟩, .string ⟨#[]⟩, .string ⟨#[]⟩, .string ⟨#[]⟩, .string ⟨#[]⟩, .string ⟨#[]⟩, .string ⟨#[]⟩, .string ⟨#[]⟩, .slice none 0 0, .bool false]) ?_ 1 _ rfl
    refine blk_put (cs := #[.string ⟨#[]⟩, .string ⟨#[]⟩, .string ⟨#[]⟩, .string ⟨#[]⟩, .string ⟨#[]⟩, .string ⟨#[]⟩, .string ⟨#[]⟩, .string ⟨#[]⟩, .string ⟨#[]⟩, .string ⟨#[]⟩, .slice none 0 0, .bool false]) ?_ 0 _ rfl
    exact hz4) Tryz.underlying93 rfl (by kernel_rfl)) rfl ?_
   refine ⟨A, c, rfl, ⟨hcc, Kd.F_mono (ok := fun k => w.heap.size + 1 ≤ k) ?_ (fun k hk => by omega)⟩, ?_⟩
   ·
    with_reducible refine Kd.F_far (p := ⟨w.heap.size, 11, none⟩) ?_ (fun k hk => by show k ≠ w.heap.size; omega) _
    with_reducible refine Kd.F_far (p := ⟨w.heap.size, 10, none⟩) ?_ (fun k hk => by show k ≠ w.heap.size; omega) _
    with_reducible refine Kd.F_far (p := ⟨w.heap.size, 9, none⟩) ?_ (fun k hk => by show k ≠ w.heap.size; omega) _
    with_reducible refine Kd.F_far (p := ⟨w.heap.size, 8, none⟩) ?_ (fun k hk => by show k ≠ w.heap.size; omega) _
    with_reducible refine Kd.F_far (p := ⟨w.heap.size, 7, none⟩) ?_ (fun k hk => by show k ≠ w.heap.size; omega) _
    with_reducible refine Kd.F_far (p := ⟨w.heap.size, 6, none⟩) ?_ (fun k hk => by show k ≠ w.heap.size; omega) _
    with_reducible refine Kd.F_far (p := ⟨w.heap.size, 5, none⟩) ?_ (fun k hk => by show k ≠ w.heap.size; omega) _
    with_reducible refine Kd.F_far (p := ⟨w.heap.size, 4, none⟩) ?_ (fun k hk => by show k ≠ w.heap.size; omega) _
    with_reducible refine Kd.F_far (p := ⟨w.heap.size, 3, none⟩) ?_ (fun k hk => by show k ≠ w.heap.size; omega) _
    with_reducible refine Kd.F_far (p := ⟨w.heap.size, 2, none⟩) ?_ (fun k hk => by show k ≠ w.heap.size; omega) _
    with_reducible refine Kd.F_far (p := ⟨w.heap.size, 1, none⟩) ?_ (fun k hk => by show k ≠ w.heap.size; omega) _
    with_reducible refine Kd.F_far (p := ⟨w.heap.size, 0, none⟩) ?_ (fun k hk => by show k ≠ w.heap.size; omega) _
    exact hFF
   iterate 12 (with_reducible refine below_set ?_ (Nat.le_refl _))
   with_reducible exact hB4
end Go.Proofs.YtpoblffgclmmlaaGreatDoor.X
end
section
set_option linter.unusedVariables false
set_option linter.unusedSimpArgs false
namespace Go.Proofs.YtpoblffgclmmlaaGreatDoor.X
open Go.RowKit Go.WideMaps Go.Maps Go.Proofs.YtpoblffgclmmlaaGreatDoorW.PrintWords Go.Proofs.YtpoblffgclmmlaaGreatDoorW.PrintLast Go.Proofs.YtpoblffgclmmlaaGreatDoorW.PrintMore Go.Proofs.YtpoblffgclmmlaaGreatDoor.Q

def tlB (k : ByteArray) : ByteArray := k.extract 1 k.size
theorem tlB_size (k : ByteArray) : (tlB k).size = k.size - 1 := by
 unfold tlB; rw [ByteArray.size_extract]; omega
end Go.Proofs.YtpoblffgclmmlaaGreatDoor.X
end
section
set_option linter.unusedVariables false
set_option linter.unusedSimpArgs false
namespace Go.Proofs.YtpoblffgclmmlaaGreatDoor.X
open Go.RowKit Go.WideMaps Go.Maps Go.Proofs.YtpoblffgclmmlaaGreatDoorW.PrintWords Go.Proofs.YtpoblffgclmmlaaGreatDoorW.PrintLast Go.Proofs.YtpoblffgclmmlaaGreatDoorW.PrintMore Go.Proofs.YtpoblffgclmmlaaGreatDoor.Q

/-- What is there, of keys. -/
def allF (g : ByteArray → Option Fam) (ks : List ByteArray) : List Fam := ks.filterMap fun k => g (tlB k)
theorem allF_snoc (g : ByteArray → Option Fam) (ks : List ByteArray) (x : ByteArray) : allF g (ks ++ [x]) = allF g ks ++ (g (tlB x)).toList := by
 unfold allF
 rw [List.filterMap_append]
 congr 1
theorem allF_len (g : ByteArray → Option Fam) (ks : List ByteArray) : (allF g ks).length ≤ ks.length := List.length_filterMap_le _ _
theorem pre_f {k : ByteArray} (h : preB k ⟨#[102]⟩ = true) : 1 ≤ k.size := by
 rw [preB_iff, Bool.and_eq_true] at h
 have := of_decide_eq_true h.1
 exact this
set_option maxHeartbeats 4000000 in
set_option maxRecDepth 100000 in
theorem all_core (base s N : Nat) (r : List S82) (ks : List ByteArray) (hks : ((r.map fun x => x.f0).filter fun k => preB k ⟨#[102]⟩) = ks) (hpre : ∀ k ∈ ks, preB k ⟨#[102]⟩ = true) (hsm : ∀ k ∈ ks, k.size ≤ 1000000) (hlen : ks.length ≤ 1000000)
  (hv : wgt r ≤ 4294967280) (w : World) (hS : StW base w s r N) (hN : N ≤ 3400000000000) (hGP : GP w) (hGE : GE w) :
  Calls Tryz.prog 112 #[.pointer (some ⟨s, 0, none⟩)] w fun e w' => ∃ v, e = .returned v ∧ Kd.N kFam 93 w' w.heap.size (fun k => w.heap.size ≤ k) v (allF (famOfR r) ks) ∧ Below w.heap.size w w' := by
 have hkeys := wkeys_says base s N r ⟨#[102]⟩ w hS hN
 rw [hks] at hkeys
 have hfind := fun (c : ByteArray) (hc : c.size ≤ 1000000) w1 (hb : Below w.heap.size w w1) => gfam_says base s N r c hc hv w1 (hS.below hb) (hGP.below hb) (hGE.below hb)
 simp only [famV] at hfind
 generalize famOfR r = fs at hfind ⊢
 clear hks hv
 go_enter Tryz.func112, Tryz.ntmps112
 go_wp2_with fail
 refine hkeys.mono ?_
 rintro e w1 ⟨v1, rfl, hr1, hb1⟩
 obtain ⟨A1, c1, e1⟩ := Kd.R_slice hr1
 subst e1
 have hrd := (Kd.R_reads' hr1).2.2
 clear hr1 hkeys
 go_wp2_with fail
 go_loopw [3, 11] (fun v3 v11 wr => ∃ i : Nat, v11 = .int .i64 i ∧ i ≤ ks.length ∧ Kd.N kFam 93 wr w1.heap.size (fun k => w1.heap.size ≤ k) v3 (allF fs (ks.take i)) ∧ Below w1.heap.size w1 wr) (fun _ v11 _ => ks.length - (intOf v11).toNat)
 case atStart => exact ⟨0, rfl, Nat.zero_le _, Kd.N_nil _ _ _ _ _, Below.refl _ w1⟩
 case round =>
  obtain ⟨i, rfl, hi, hr, hb⟩ := hrel
  have hb0 := below_then hb1 hb1.size hb
  have hC := Kd.C_below hrd hb
  by_cases hlt : i < ks.length
  ·
   have d1 : decide ((i : Int) < (ks.length : Int)) = true := decide_eq_true (by omega)
   obtain ⟨ad, rfl, hx⟩ := Kd.at_string hC (i : Int) (by omega) (by omega)
   have i3 : ((i : Int) < (ks.length : Int)) = True := eq_true (by omega)
   have i0 : (0 ≤ (i : Int)) = True := eq_true (by omega)
   have e1 : IntKind.i64.wrap ((i : Int) + 1) = (i : Int) + 1 := IntWalk.i64_in _ (by omega)
   simp only [Int.toNat_natCast] at hx
   have hxg : rdOf ByteArray.empty ks (i : Int) = ks.getD i ByteArray.empty := by unfold rdOf; rw [Int.toNat_natCast]
   have hmem : ks.getD i ByteArray.empty ∈ ks := by simp [List.getD_eq_getElem?_getD, List.getElem?_eq_getElem hlt]
   have htk : ks.take (i + 1) = ks.take i ++ [ks.getD i ByteArray.empty] := by
    rw [List.take_add_one]; simp [List.getD_eq_getElem?_getD, List.getElem?_eq_getElem hlt]
   have hxs := hsm _ hmem
   have hx1 := pre_f (hpre _ hmem)
   rw [hxg] at hx
   clear hxg hmem
   generalize ks.getD i ByteArray.empty = x at hx htk hxs hx1
   have hts := tlB_size x
   have hfd := hfind (tlB x) (by omega)
   have hext : x.extract 1 x.size = tlB x := rfl
   have q1 : (1 ≤ x.size) = True := eq_true hx1
   have q2 : ((1 : Int) ≤ (x.size : Int)) = True := eq_true (by omega)
   have LB := Lib.hid (show ((allF fs (ks.take i)).length + 1) * 192 ≤ 140737488355328 by have := allF_len fs (ks.take i); rw [List.length_take] at this; omega)
   have Htk := Lib.hid htk
   have Hsn := Lib.hid (allF_snoc fs (ks.take i) x)
   have Hi := Lib.hid (show i + 1 ≤ ks.length by omega)
   clear htk hsm hpre hfind hts hxs hx1
   obtain ⟨out, hout⟩ : ∃ out, out = allF fs (ks.take i) := ⟨_, rfl⟩
   rw [← hout] at hr LB Hsn
   clear hout
   obtain ⟨t, ht⟩ : ∃ t, t = tlB x := ⟨_, rfl⟩
   rw [← ht] at hfd hext Hsn
   clear ht
   obtain ⟨fx, hfx⟩ : ∃ fx, fx = fs t := ⟨_, rfl⟩
   simp only [← hfx] at hfd Hsn
   clear hfx
   have hfd := hfd _ hb0
   go_wp2_with fail
   refine hfd.mono ?_
   rintro e w2 ⟨A, c, rfl, hF2, hb2⟩
   have hB2 := below_then hb0 hb0.size hb2
   have hB2' := below_then hb hb.size hb2
   have hr2 := Kd.N_below hr hb2
   have hlt3 := Kd.N_lt hr
   clear hfd hr
   cases fx with
   | none =>
    have E0 := Lib.hid (show allF fs (ks.take (i + 1)) = out by rw [(show ks.take (i + 1) = ks.take i ++ [x] from Htk), Hsn.out]; simp)
    simp only [Option.getD_none, Option.isSome_none, famZ]
    go_wp2_with fail
    refine ⟨⟨i + 1, rfl, Hi.out, ?_, below_alloc hB2' _⟩, ?_⟩
    ·
     rw [E0.out]; exact Kd.N_alloc hr2 _
    ·
     have := Hi.out; simp only [intOf]; omega
   | some y =>
    have E0 := Lib.hid (show allF fs (ks.take (i + 1)) = out ++ [y] by rw [(show ks.take (i + 1) = ks.take i ++ [x] from Htk), Hsn.out]; simp)
    simp only [Option.getD_some, Option.isSome_some] at hF2 ⊢
    go_upto_region 6 with (fail)
    have hx4 := heap_alloc_new w2 (.cells #[.string y.id, .string y.client, .string y.user, .string y.conn, .string y.sub, .string y.nonce, .string y.scope, .string y.claims, .string y.refresh, .string y.up, .slice A y.old.length c, .bool y.rev] 93)
    have hb4 : Below w2.heap.size w2 (w2.alloc (.cells #[.string y.id, .string y.client, .string y.user, .string y.conn, .string y.sub, .string y.nonce, .string y.scope, .string y.claims, .string y.refresh, .string y.up, .slice A y.old.length c, .bool y.rev] 93)) := (Below.refl _ w2).alloc (Nat.le_refl _) _
    generalize w2.alloc (.cells #[.string y.id, .string y.client, .string y.user, .string y.conn, .string y.sub, .string y.nonce, .string y.scope, .string y.claims, .string y.refresh, .string y.up, .slice A y.old.length c, .bool y.rev] 93) = w4 at hx4 hb4 ⊢
    have hB4' := below_then hB2' hB2'.size hb4
    have hr4 := Kd.N_below hr2 hb4
    have hF4 := hF2.below hb4
    have hp4 : Kd.FK kFam w4 (fun k => wr.heap.size ≤ k) y [.string y.id, .string y.client, .string y.user, .string y.conn, .string y.sub, .string y.nonce, .string y.scope, .string y.claims, .string y.refresh, .string y.up, .slice A y.old.length c, .bool y.rev] := kFam_mkF w4 _ y hF4.1 hF4.2
    have hok4 : ∀ k, wr.heap.size ≤ k → w1.heap.size ≤ k ∧ some k ≠ u3.ownBlock := fun k hk => ⟨Nat.le_trans hb.size hk, fun e => by have := hlt3 k e.symm; omega⟩
    have hs4 := hB4'.size
    have LB := LB.out
    have d10 : w4.cell? ⟨w2.heap.size, 0, none⟩ = some (.string y.id) := (blk_cell hx4 0).trans rfl
    have d11 : w4.cell? ⟨w2.heap.size, 1, none⟩ = some (.string y.client) := (blk_cell hx4 1).trans rfl
    have d12 : w4.cell? ⟨w2.heap.size, 2, none⟩ = some (.string y.user) := (blk_cell hx4 2).trans rfl
    have d13 : w4.cell? ⟨w2.heap.size, 3, none⟩ = some (.string y.conn) := (blk_cell hx4 3).trans rfl
    have d14 : w4.cell? ⟨w2.heap.size, 4, none⟩ = some (.string y.sub) := (blk_cell hx4 4).trans rfl
    have d15 : w4.cell? ⟨w2.heap.size, 5, none⟩ = some (.string y.nonce) := (blk_cell hx4 5).trans rfl
    have d16 : w4.cell? ⟨w2.heap.size, 6, none⟩ = some (.string y.scope) := (blk_cell hx4 6).trans rfl
    have d17 : w4.cell? ⟨w2.heap.size, 7, none⟩ = some (.string y.claims) := (blk_cell hx4 7).trans rfl
    have d18 : w4.cell? ⟨w2.heap.size, 8, none⟩ = some (.string y.refresh) := (blk_cell hx4 8).trans rfl
    have d19 : w4.cell? ⟨w2.heap.size, 9, none⟩ = some (.string y.up) := (blk_cell hx4 9).trans rfl
    have d20 : w4.cell? ⟨w2.heap.size, 10, none⟩ = some (.slice A y.old.length c) := (blk_cell hx4 10).trans rfl
    have d21 : w4.cell? ⟨w2.heap.size, 11, none⟩ = some (.bool y.rev) := (blk_cell hx4 11).trans rfl
    clear hF2 hF4 hr2 hB2 hB2' hb2 hb4 hx4
    go_wp2_with ((with_reducible refine gate_builtin (b := .append) (xs := #[.tmp 23, .tmp 25]) rfl ?_); at_builtin; refine Kd.N_append kFam (w0 := w1) w1.heap.size rfl (.tmp 23) (.tmp 25) 151 93 (.agg #[.string ⟨#[]⟩, .string ⟨#[]⟩, .string ⟨#[]⟩, .string ⟨#[]⟩, .string ⟨#[]⟩, .string ⟨#[]⟩, .string ⟨#[]⟩, .string ⟨#[]⟩, .string ⟨#[]⟩, .string ⟨#[]⟩, .slice none 0 0, .bool false]) 192 rfl Tryz.underlying151 (by kernel_rfl) rfl (by decide) (by decide) u3 out y _ (fun k => w1.heap.size ≤ k) (fun k => wr.heap.size ≤ k) rfl rfl hp4 hok4 (fun k hk => Nat.le_trans hs4 hk) hr4 hB4' hs4 LB ?_; intro v5 w5 ho5 hb5 hg5 hat5)
    refine ⟨⟨i + 1, rfl, Hi.out, ?_, hb5⟩, ?_⟩
    ·
     rw [E0.out]; exact ho5
    ·
     have := Hi.out; simp only [intOf]; omega
  ·
   have d1 : decide ((i : Int) < (ks.length : Int)) = false := decide_eq_false (by omega)
   have hil : i = ks.length := by omega
   subst hil
   rw [List.take_length] at hr
   go_wp2_with fail
   go_ret
   exact ⟨_, rfl, Kd.N_mono (Kd.N_lower hr hb1.size) (fun k hk => Nat.le_trans hb1.size hk), hb0⟩
end Go.Proofs.YtpoblffgclmmlaaGreatDoor.X
end
section
set_option linter.unusedVariables false
set_option linter.unusedSimpArgs false
namespace Go.Proofs.YtpoblffgclmmlaaGreatDoor.X
open Go.RowKit Go.WideMaps Go.Maps Go.Proofs.YtpoblffgclmmlaaGreatDoorW.PrintWords Go.Proofs.YtpoblffgclmmlaaGreatDoorW.PrintLast Go.Proofs.YtpoblffgclmmlaaGreatDoorW.PrintMore Go.Proofs.YtpoblffgclmmlaaGreatDoor.Q

def memB (a : ByteArray) (l : List ByteArray) : Bool := l.any fun x => decide (a = x)
theorem index_ev (l : List ByteArray) (a : ByteArray) (hl : l.length ≤ 4000000000000) : ∀ d i : Nat, i + d = l.length → ∃ j : Int, Ev (fun k => slices_Index_string_string.l0 k l a (l.length : Int) (i : Int)) j ∧ decide (j ≥ 0) = memB a (l.drop i) := by
 intro d
 induction d with
 | zero =>
  intro i hi
  refine ⟨-1, Ev.step (fun k => ?_) (evNow (r' := (-1 : Int)) rfl), ?_⟩
  ·
   show slices_Index_string_string.l0 (k + 1) l a (l.length : Int) (i : Int) = some (-1)
   simp only [slices_Index_string_string.l0]
   rw [if_neg (by omega)]
  ·
   rw [List.drop_of_length_le (by omega)]; rfl
 | succ d ih =>
  intro i hi
  have hw : wrap64 ((i : Int) + 1) = ((i + 1 : Nat) : Int) := by rw [w64 (by omega) (by omega)]; rfl
  have ra : rdOf ByteArray.empty l (i : Int) = l.getD i ByteArray.empty := by unfold rdOf; rw [Int.toNat_natCast]
  rw [drop_cons l i (by omega) ByteArray.empty]
  by_cases hc : a = l.getD i ByteArray.empty
  ·
   refine ⟨(i : Int), Ev.step (fun k => ?_) (evNow (r' := (i : Int)) rfl), ?_⟩
   ·
    show slices_Index_string_string.l0 (k + 1) l a (l.length : Int) (i : Int) = some (i : Int)
    simp only [slices_Index_string_string.l0]
    rw [if_pos (by omega), if_pos (by omega), if_pos (by omega), ra, if_pos (by rw [← hc])]
   ·
    rw [decide_eq_true (show (i : Int) ≥ 0 by omega)]; unfold memB; rw [List.any_cons, decide_eq_true hc, Bool.true_or]
  ·
   obtain ⟨j, hj, hd⟩ := ih (i + 1) (by omega)
   refine ⟨j, Ev.step (f := fun k => slices_Index_string_string.l0 k l a (l.length : Int) ((i + 1 : Nat) : Int)) (fun k => ?_) hj, ?_⟩
   ·
    show slices_Index_string_string.l0 (k + 1) l a (l.length : Int) (i : Int) = _
    simp only [slices_Index_string_string.l0]
    rw [if_pos (by omega), if_pos (by omega), if_pos (by omega), ra, if_neg (fun h => hc (kl_inj (bytes_list.1 h))), hw]
   ·
    rw [hd]; unfold memB; rw [List.any_cons, decide_eq_false hc, Bool.false_or]
theorem contains_says (A : Option Addr) (c : Nat) (l : List ByteArray) (a : ByteArray) (w : World) (hC : Kd.C Kd.string w A l.length l) (hc : l.length ≤ c) (hl : l.length ≤ 4000000000000) :
  Calls Tryz.prog 113 #[.slice A l.length c, .string a] w fun e w' => e = .returned (.bool (memB a l)) ∧ Below w.heap.size w w' := by
 obtain ⟨j, ⟨k, hk⟩, hd⟩ := index_ev l a hl l.length 0 (by omega)
 rw [List.drop_zero] at hd
 refine (slices_Contains_string_string.calls k A c l a (memB a l) w hC hc (by
  unfold slices_Contains_string_string.f slices_Index_string_string.f
  rw [show slices_Index_string_string.l0 k l a (l.length : Int) 0 = some j from hk k (Nat.le_refl _), Option.bind_some, hd])).mono ?_
 rintro e w' ⟨h, hb⟩
 exact ⟨h, hb.below⟩
/-- Does a family have a refresh token, now or of old? -/
def ownB (t : ByteArray) (x : Fam) : Bool := decide (x.refresh = t) || memB t x.old
def ownF (l : List Fam) (t : ByteArray) : Option Fam := l.find? (ownB t)
theorem ownF_step (l : List Fam) (t : ByteArray) (i : Nat) (h : i < l.length) (hn : (l.take i).find? (ownB t) = none) : ownB t (l.getD i famZ) = true → ownF l t = some (l.getD i famZ) := by
 intro hb
 unfold ownF
 conv => lhs; rw [← List.take_append_drop i l]
 rw [List.find?_append, hn, drop_cons l i h famZ, List.find?_cons, hb]
 rfl
theorem ownF_next (l : List Fam) (t : ByteArray) (i : Nat) (h : i < l.length) (hn : (l.take i).find? (ownB t) = none) : ownB t (l.getD i famZ) = false → (l.take (i + 1)).find? (ownB t) = none := by
 intro hb
 have e : l.take (i + 1) = l.take i ++ [l.getD i famZ] := by rw [List.take_add_one]; simp [List.getD_eq_getElem?_getD, List.getElem?_eq_getElem h]
 rw [e, List.find?_append, hn, List.find?_cons, hb]
 rfl
theorem eqB_iff (a b : ByteArray) : (a.toList == b.toList) = decide (a = b) := by
 rw [Bool.eq_iff_iff, decide_eq_true_eq]
 constructor
 ·
  intro h; exact keq_of h
 ·
  intro h; rw [h]; simp
theorem fam_at {w : World} {ok : Nat → Prop} {A : Option Addr} {l : List Fam} (h : Kd.F kFam w ok A l.length l) (i : Nat) (hi : i < l.length) :
  ∃ ad A' c, A = some ad ∧ w.cell? (ad.add (i * 12)) = some (.string (l.getD i famZ).id) ∧ w.cell? ⟨(ad.add (i * 12)).block, (ad.add (i * 12)).off + 1, none⟩ = some (.string (l.getD i famZ).client) ∧ w.cell? ⟨(ad.add (i * 12)).block, (ad.add (i * 12)).off + 2, none⟩ = some (.string (l.getD i famZ).user) ∧ w.cell? ⟨(ad.add (i * 12)).block, (ad.add (i * 12)).off + 3, none⟩ = some (.string (l.getD i famZ).conn) ∧ w.cell? ⟨(ad.add (i * 12)).block, (ad.add (i * 12)).off + 4, none⟩ = some (.string (l.getD i famZ).sub) ∧ w.cell? ⟨(ad.add (i * 12)).block, (ad.add (i * 12)).off + 5, none⟩ = some (.string (l.getD i famZ).nonce) ∧ w.cell? ⟨(ad.add (i * 12)).block, (ad.add (i * 12)).off + 6, none⟩ = some (.string (l.getD i famZ).scope) ∧ w.cell? ⟨(ad.add (i * 12)).block, (ad.add (i * 12)).off + 7, none⟩ = some (.string (l.getD i famZ).claims) ∧ w.cell? ⟨(ad.add (i * 12)).block, (ad.add (i * 12)).off + 8, none⟩ = some (.string (l.getD i famZ).refresh) ∧ w.cell? ⟨(ad.add (i * 12)).block, (ad.add (i * 12)).off + 9, none⟩ = some (.string (l.getD i famZ).up) ∧ w.cell? ⟨(ad.add (i * 12)).block, (ad.add (i * 12)).off + 10, none⟩ = some (.slice A' (l.getD i famZ).old.length c) ∧ w.cell? ⟨(ad.add (i * 12)).block, (ad.add (i * 12)).off + 11, none⟩ = some (.bool (l.getD i famZ).rev) ∧ (l.getD i famZ).old.length ≤ c ∧ Kd.F Kd.string w ok A' (l.getD i famZ).old.length (l.getD i famZ).old := by
 obtain ⟨ad, cs, e, _, hK, hc, _⟩ := Kd.F_get h famZ (i : Int) (by omega) (by omega)
 rw [Int.toNat_natCast] at hK hc
 have hc : ∀ j u, cs[j]? = some u → w.cell? (ad.add (i * 12 + j)) = some u := hc
 obtain ⟨A', c, rfl, hl, hF⟩ := kFam_openF hK
 refine ⟨ad, A', c, e, hc 0 _ rfl, by rw [← add_field _ _ 1 (by omega)]; exact hc 1 _ rfl, by rw [← add_field _ _ 2 (by omega)]; exact hc 2 _ rfl, by rw [← add_field _ _ 3 (by omega)]; exact hc 3 _ rfl, by rw [← add_field _ _ 4 (by omega)]; exact hc 4 _ rfl, by rw [← add_field _ _ 5 (by omega)]; exact hc 5 _ rfl, by rw [← add_field _ _ 6 (by omega)]; exact hc 6 _ rfl, by rw [← add_field _ _ 7 (by omega)]; exact hc 7 _ rfl, by rw [← add_field _ _ 8 (by omega)]; exact hc 8 _ rfl, by rw [← add_field _ _ 9 (by omega)]; exact hc 9 _ rfl, by rw [← add_field _ _ 10 (by omega)]; exact hc 10 _ rfl, by rw [← add_field _ _ 11 (by omega)]; exact hc 11 _ rfl, hl, hF⟩
theorem cell_far12 {w : World} {g : Nat} {a : Addr} {u v0 v1 v2 v3 v4 v5 v6 v7 v8 v9 v10 v11 : Value} (hne : g ≠ a.block) (h : w.cell? a = some u) : (((((((((((( w.setCell ⟨g, 0, none⟩ v0).setCell ⟨g, 1, none⟩ v1).setCell ⟨g, 2, none⟩ v2).setCell ⟨g, 3, none⟩ v3).setCell ⟨g, 4, none⟩ v4).setCell ⟨g, 5, none⟩ v5).setCell ⟨g, 6, none⟩ v6).setCell ⟨g, 7, none⟩ v7).setCell ⟨g, 8, none⟩ v8).setCell ⟨g, 9, none⟩ v9).setCell ⟨g, 10, none⟩ v10).setCell ⟨g, 11, none⟩ v11).cell? a = some u :=
 cell_far hne (cell_far hne (cell_far hne (cell_far hne (cell_far hne (cell_far hne (cell_far hne (cell_far hne (cell_far hne (cell_far hne (cell_far hne (cell_far hne h)))))))))))
/-- What Owner answers. -/
def ownA (l : List Fam) (t : ByteArray) : Fam × Bool × Bool := match ownF l t with
 | some y => (y, decide (y.refresh = t), true)
 | none => (famZ, false, false)
set_option maxHeartbeats 8000000 in
set_option maxRecDepth 100000 in
theorem owner_core (base s N : Nat) (r : List S82) (ks : List ByteArray) (hks : ((r.map fun x => x.f0).filter fun k => preB k ⟨#[102]⟩) = ks) (hpre : ∀ k ∈ ks, preB k ⟨#[102]⟩ = true) (hsm : ∀ k ∈ ks, k.size ≤ 1000000) (hlen : ks.length ≤ 1000000)
  (hv : wgt r ≤ 4294967280) (w : World) (hS : StW base w s r N) (hN : N ≤ 3400000000000) (hGP : GP w) (hGE : GE w) (t : ByteArray) (ht : t.size ≠ 0) (hold : ∀ y ∈ allF (famOfR r) ks, y.old.length ≤ 4000000000000) :
  Calls Tryz.prog 57 #[.pointer (some ⟨s, 0, none⟩), .string t] w fun e w' => ∃ A c, e = .returned (.tuple #[famV (ownA (allF (famOfR r) ks) t).1 A c, .bool (ownA (allF (famOfR r) ks) t).2.1, .bool (ownA (allF (famOfR r) ks) t).2.2]) ∧ FamR w' w.heap.size (ownA (allF (famOfR r) ks) t).1 A c ∧ Below w.heap.size w w' := by
 have hB0 : Below w.heap.size w (w.alloc (.cells #[.string ⟨#[]⟩, .string ⟨#[]⟩, .string ⟨#[]⟩, .string ⟨#[]⟩, .string ⟨#[]⟩, .string ⟨#[]⟩, .string ⟨#[]⟩, .string ⟨#[]⟩, .string ⟨#[]⟩, .string ⟨#[]⟩, .slice none 0 0, .bool false] 93)) := (Below.refl _ w).alloc (Nat.le_refl _) _
 have hz := heap_alloc_new w (.cells #[.string ⟨#[]⟩, .string ⟨#[]⟩, .string ⟨#[]⟩, .string ⟨#[]⟩, .string ⟨#[]⟩, .string ⟨#[]⟩, .string ⟨#[]⟩, .string ⟨#[]⟩, .string ⟨#[]⟩, .string ⟨#[]⟩, .slice none 0 0, .bool false] 93)
 have hall := fun w1 (hb : Below w.heap.size w w1) => all_core base s N r ks hks hpre hsm hlen hv w1 (hS.below hb) hN (hGP.below hb) (hGE.below hb)
 have hl0 : (allF (famOfR r) ks).length ≤ 1000000 := Nat.le_trans (allF_len _ _) hlen
 generalize allF (famOfR r) ks = l at hall hl0 hold ⊢
 have hfind : ∀ y, ownF l t = some y → ownA l t = (y, decide (y.refresh = t), true) := fun y h => by unfold ownA; rw [h]
 have hnone : ownF l t = none → ownA l t = (famZ, false, false) := fun h => by unfold ownA; rw [h]
 have hte : t.toList.isEmpty = false := by
  rw [ByteArray.toList_eq]
  cases h : t.data.toList with
  | nil => exact absurd (by rw [← data_size, h]; rfl) ht
  | cons a b => rfl
 have hte2 : (t.toList == []) = false := by
  rw [ByteArray.toList_eq]
  cases h : t.data.toList with
  | nil => exact absurd (by rw [← data_size, h]; rfl) ht
  | cons a b => rfl
 have hstep := ownF_step l t
 have hnext := ownF_next l t
 obtain ⟨R, hR⟩ : ∃ R, R = ownA l t := ⟨_, rfl⟩
 rw [← hR] at hfind hnone ⊢
 clear hR hks hpre hsm hv hS hlen ht
 go_enter Tryz.func57, Tryz.ntmps57
 go_wp2_with fail
 refine (hall _ hB0).mono ?_
 rintro e w1 ⟨v1, rfl, hN1, hb1⟩
 have hB1 := below_then hB0 hB0.size hb1
 have hz1 := blk_below hz hb1
 obtain ⟨A1, c1, e1⟩ := Kd.N_slice hN1
 subst e1
 have hs0 : (w.alloc (.cells #[.string ⟨#[]⟩, .string ⟨#[]⟩, .string ⟨#[]⟩, .string ⟨#[]⟩, .string ⟨#[]⟩, .string ⟨#[]⟩, .string ⟨#[]⟩, .string ⟨#[]⟩, .string ⟨#[]⟩, .string ⟨#[]⟩, .slice none 0 0, .bool false] 93)).heap.size = w.heap.size + 1 := by simp
 rw [hs0] at hN1
 clear hall hB0 hz hb1 hs0
 have hlt1 := blk_lt hz1
 go_wp2_with fail
 go_loopw [15] (fun v15 wr => ∃ i : Nat, v15 = .int .i64 i ∧ i ≤ l.length ∧ (l.take i).find? (ownB t) = none ∧ Below w1.heap.size w1 wr) (fun v15 _ => l.length - (intOf v15).toNat)
 case atStart => exact ⟨0, rfl, Nat.zero_le _, rfl, Below.refl _ _⟩
 case round =>
  obtain ⟨i, rfl, hi, hnf, hb⟩ := hrel
  have hB := below_then hB1 hB1.size hb
  have hzr := blk_below hz1 hb
  by_cases hlt : i < l.length
  ·
   have d1 : decide ((i : Int) < (l.length : Int)) = true := decide_eq_true (by omega)
   have hFr := Kd.F_below (Kd.N_F hN1) hb
   have hmem : l.getD i famZ ∈ l := by simp [List.getD_eq_getElem?_getD, List.getElem?_eq_getElem hlt]
   have hol := hold _ hmem
   obtain ⟨ad, A, c, rfl, q0, q1, q2, q3, q4, q5, q6, q7, q8, q9, q10, q11, hcc, hFo⟩ := fam_at hFr i hlt
   have i3 : ((i : Int) < (l.length : Int)) = True := eq_true (by omega)
   have i0 : (0 ≤ (i : Int)) = True := eq_true (by omega)
   have e1 : IntKind.i64.wrap ((i : Int) + 1) = (i : Int) + 1 := IntWalk.i64_in _ (by omega)
   have Hstep := Lib.hid (hstep i hlt hnf)
   have Hnext := Lib.hid (hnext i hlt hnf)
   have Hi := Lib.hid (show i + 1 ≤ l.length by omega)
   clear hmem hstep hnext hnf hFr hold
   generalize l.getD i famZ = y at *
   go_upto_region 6 with (fail)
   have hx4 := heap_alloc_new wr (.cells #[.string y.id, .string y.client, .string y.user, .string y.conn, .string y.sub, .string y.nonce, .string y.scope, .string y.claims, .string y.refresh, .string y.up, .slice A y.old.length c, .bool y.rev] 93)
   have hb4 : Below wr.heap.size wr (wr.alloc (.cells #[.string y.id, .string y.client, .string y.user, .string y.conn, .string y.sub, .string y.nonce, .string y.scope, .string y.claims, .string y.refresh, .string y.up, .slice A y.old.length c, .bool y.rev] 93)) := (Below.refl _ wr).alloc (Nat.le_refl _) _
   have hs4 : wr.heap.size < (wr.alloc (.cells #[.string y.id, .string y.client, .string y.user, .string y.conn, .string y.sub, .string y.nonce, .string y.scope, .string y.claims, .string y.refresh, .string y.up, .slice A y.old.length c, .bool y.rev] 93)).heap.size := by simp
   generalize wr.alloc (.cells #[.string y.id, .string y.client, .string y.user, .string y.conn, .string y.sub, .string y.nonce, .string y.scope, .string y.claims, .string y.refresh, .string y.up, .slice A y.old.length c, .bool y.rev] 93) = w4 at hx4 hb4 hs4 ⊢
   have hB4 := below_then hB hB.size hb4
   have hB41 := below_then hb hb.size hb4
   have hz4 := blk_below hzr hb4
   have hF4 := Kd.F_below hFo hb4
   have hcon := contains_says A c y.old t w4 (Kd.F_now hF4) hcc hol
   clear q0 q1 q2 q3 q4 q5 q6 q7 q8 q9 q10 q11 hzr
   have d0 : w4.cell? ⟨wr.heap.size, 0, none⟩ = some (.string y.id) := (blk_cell hx4 0).trans rfl
   have d1 : w4.cell? ⟨wr.heap.size, 1, none⟩ = some (.string y.client) := (blk_cell hx4 1).trans rfl
   have d2 : w4.cell? ⟨wr.heap.size, 2, none⟩ = some (.string y.user) := (blk_cell hx4 2).trans rfl
   have d3 : w4.cell? ⟨wr.heap.size, 3, none⟩ = some (.string y.conn) := (blk_cell hx4 3).trans rfl
   have d4 : w4.cell? ⟨wr.heap.size, 4, none⟩ = some (.string y.sub) := (blk_cell hx4 4).trans rfl
   have d5 : w4.cell? ⟨wr.heap.size, 5, none⟩ = some (.string y.nonce) := (blk_cell hx4 5).trans rfl
   have d6 : w4.cell? ⟨wr.heap.size, 6, none⟩ = some (.string y.scope) := (blk_cell hx4 6).trans rfl
   have d7 : w4.cell? ⟨wr.heap.size, 7, none⟩ = some (.string y.claims) := (blk_cell hx4 7).trans rfl
   have d8 : w4.cell? ⟨wr.heap.size, 8, none⟩ = some (.string y.refresh) := (blk_cell hx4 8).trans rfl
   have d9 : w4.cell? ⟨wr.heap.size, 9, none⟩ = some (.string y.up) := (blk_cell hx4 9).trans rfl
   have d10 : w4.cell? ⟨wr.heap.size, 10, none⟩ = some (.slice A y.old.length c) := (blk_cell hx4 10).trans rfl
   have d11 : w4.cell? ⟨wr.heap.size, 11, none⟩ = some (.bool y.rev) := (blk_cell hx4 11).trans rfl
   have hob : ownB t y = (decide (y.refresh = t) || memB t y.old) := rfl
   have q0 := eqB_iff y.refresh t
   cases hr1 : decide (y.refresh = t) with
   | true =>
    rw [hr1] at q0
    have hf := hfind y (Hstep.out (by rw [hob, hr1]; rfl))
    rw [hr1] at hf
    have hFF := Kd.F_mono hF4 (ok' := fun k => w.heap.size + 1 ≤ k) (fun k hk => hk)
    subst hf
    have Hr1 := Lib.hid hr1
    clear hfind hnone hob hcon hr1
    go_upto_region 7 with (fail)
    have d0 : w4.drew.cell? ⟨wr.heap.size, 0, none⟩ = some (.string y.id) := d0
    have d1 : w4.drew.cell? ⟨wr.heap.size, 1, none⟩ = some (.string y.client) := d1
    have d2 : w4.drew.cell? ⟨wr.heap.size, 2, none⟩ = some (.string y.user) := d2
    have d3 : w4.drew.cell? ⟨wr.heap.size, 3, none⟩ = some (.string y.conn) := d3
    have d4 : w4.drew.cell? ⟨wr.heap.size, 4, none⟩ = some (.string y.sub) := d4
    have d5 : w4.drew.cell? ⟨wr.heap.size, 5, none⟩ = some (.string y.nonce) := d5
    have d6 : w4.drew.cell? ⟨wr.heap.size, 6, none⟩ = some (.string y.scope) := d6
    have d7 : w4.drew.cell? ⟨wr.heap.size, 7, none⟩ = some (.string y.claims) := d7
    have d8 : w4.drew.cell? ⟨wr.heap.size, 8, none⟩ = some (.string y.refresh) := d8
    have d9 : w4.drew.cell? ⟨wr.heap.size, 9, none⟩ = some (.string y.up) := d9
    have d10 : w4.drew.cell? ⟨wr.heap.size, 10, none⟩ = some (.slice A y.old.length c) := d10
    have d11 : w4.drew.cell? ⟨wr.heap.size, 11, none⟩ = some (.bool y.rev) := d11
    have hwne : w.heap.size ≠ wr.heap.size := by have := blk_lt hz1; have := hb.size; omega
    have hB4 := below_drew hB4
    have hz4 := blk_drew hz4
    have hFF := Kd.F_drew hFF
    refine start_ (n := 8) (S := fun w' => w'.cell? ⟨wr.heap.size, 0, none⟩ = some (.string y.id) ∧ w'.cell? ⟨wr.heap.size, 1, none⟩ = some (.string y.client) ∧ w'.cell? ⟨wr.heap.size, 2, none⟩ = some (.string y.user) ∧ w'.cell? ⟨wr.heap.size, 3, none⟩ = some (.string y.conn) ∧ w'.cell? ⟨wr.heap.size, 4, none⟩ = some (.string y.sub) ∧ w'.cell? ⟨wr.heap.size, 5, none⟩ = some (.string y.nonce) ∧ w'.cell? ⟨wr.heap.size, 6, none⟩ = some (.string y.scope) ∧ w'.cell? ⟨wr.heap.size, 7, none⟩ = some (.string y.claims) ∧ w'.cell? ⟨wr.heap.size, 8, none⟩ = some (.string y.refresh) ∧ w'.cell? ⟨wr.heap.size, 9, none⟩ = some (.string y.up) ∧ w'.cell? ⟨wr.heap.size, 10, none⟩ = some (.slice A y.old.length c) ∧ w'.cell? ⟨wr.heap.size, 11, none⟩ = some (.bool y.rev)) (ds := []) #[false, false, false, false, false, false, false, false] (by kernel_rfl) rfl rfl ⟨d0, d1, d2, d3, d4, d5, d6, d7, d8, d9, d10, d11⟩ (fun hHeld => ?_)
    generalize w4.drew = w5 at hB4 hz4 hFF hHeld d0 d1 d2 d3 d4 d5 d6 d7 d8 d9 d10 d11 ⊢
    have c0 := blk_cell hz4 0
    have f0 := blk_frozen hz4 0
    have c1 := blk_cell hz4 1
    have f1 := blk_frozen hz4 1
    have c2 := blk_cell hz4 2
    have f2 := blk_frozen hz4 2
    have c3 := blk_cell hz4 3
    have f3 := blk_frozen hz4 3
    have c4 := blk_cell hz4 4
    have f4 := blk_frozen hz4 4
    have c5 := blk_cell hz4 5
    have f5 := blk_frozen hz4 5
    have c6 := blk_cell hz4 6
    have f6 := blk_frozen hz4 6
    have c7 := blk_cell hz4 7
    have f7 := blk_frozen hz4 7
    have c8 := blk_cell hz4 8
    have f8 := blk_frozen hz4 8
    have c9 := blk_cell hz4 9
    have f9 := blk_frozen hz4 9
    have c10 := blk_cell hz4 10
    have f10 := blk_frozen hz4 10
    have c11 := blk_cell hz4 11
    have f11 := blk_frozen hz4 11
    refine pure_ (i := 1) (N := some 30) (v := ?_) (a' := ?_) #[false, true, false, false, false, false, false, false] rfl rfl (by kernel_rfl) (fun _ _ _ h => h) (Or.inl ⟨by rfl, ?_⟩) ?_ ?_
    rotate_left
    ·
     intro w'
     go_simp
     with_reducible rfl
    rotate_left
    ·
     simp only [Act.put, List.setIfInBounds_toArray, List.set_cons_zero, List.set_cons_succ, i64_w, i32_w]
     rfl
    refine pure_ (i := 3) (N := some 32) (v := ?_) (a' := ?_) #[false, true, false, true, false, false, false, false] rfl rfl (by kernel_rfl) (fun _ _ _ h => h) (Or.inl ⟨by rfl, ?_⟩) ?_ ?_
    rotate_left
    ·
     intro w'
     go_simp
     with_reducible rfl
    rotate_left
    ·
     simp only [Act.put, List.setIfInBounds_toArray, List.set_cons_zero, List.set_cons_succ, i64_w, i32_w]
     rfl
    refine take_ (i := 0) (N := some 29) (v := ?_) (a' := ?_) #[true, true, false, true, false, false, false, false] rfl rfl (by kernel_rfl) (fun _ _ _ h => h) (Or.inl ⟨by rfl, ?_⟩) hHeld ?_ ?_
    rotate_left
    ·
     rintro w' ⟨s0, s1, s2, s3, s4, s5, s6, s7, s8, s9, s10, s11⟩
     go_simp
     with_reducible rfl
    rotate_left
    ·
     simp only [Act.put, List.setIfInBounds_toArray, List.set_cons_zero, List.set_cons_succ, i64_w, i32_w]
     rfl
    refine take_ (i := 2) (N := some 31) (v := ?_) (a' := ?_) #[true, true, true, true, false, false, false, false] rfl rfl (by kernel_rfl) (fun _ _ _ h => h) (Or.inl ⟨by rfl, ?_⟩) hHeld ?_ ?_
    rotate_left
    ·
     rintro w' ⟨s0, s1, s2, s3, s4, s5, s6, s7, s8, s9, s10, s11⟩
     go_simp
     with_reducible rfl
    rotate_left
    ·
     simp only [Act.put, List.setIfInBounds_toArray, List.set_cons_zero, List.set_cons_succ, i64_w, i32_w]
     rfl
    refine pure_ (i := 4) (N := some 33) (v := ?_) (a' := ?_) #[true, true, true, true, true, false, false, false] rfl rfl (by kernel_rfl) (fun _ _ _ h => h) (Or.inl ⟨by rfl, ?_⟩) ?_ ?_
    rotate_left
    ·
     intro w'
     go_simp
     with_reducible rfl
    rotate_left
    ·
     simp only [Act.put, List.setIfInBounds_toArray, List.set_cons_zero, List.set_cons_succ, i64_w, i32_w]
     rfl
    refine one_ (i := 5) (N := none) #[true, true, true, true, true, true, false, false] rfl rfl (by kernel_rfl) (by decide) (fun K hK => ?_)
    refine skip_ (w1 := ?_) (by rfl) rfl ?_ ?_
    rotate_left
    ·
     go_simp
     rfl
    refine hK.out _ _ ⟨cell_far12 hwne d0, cell_far12 hwne d1, cell_far12 hwne d2, cell_far12 hwne d3, cell_far12 hwne d4, cell_far12 hwne d5, cell_far12 hwne d6, cell_far12 hwne d7, cell_far12 hwne d8, cell_far12 hwne d9, cell_far12 hwne d10, cell_far12 hwne d11⟩ (fun hHeld => ?_)
    clear hK K
    refine pure_ (i := 6) (N := some 5) (v := ?_) (a' := ?_) #[true, true, true, true, true, true, true, false] rfl rfl (by kernel_rfl) (fun _ _ _ h => h) (Or.inl ⟨by rfl, ?_⟩) ?_ ?_
    rotate_left
    ·
     intro w'
     go_simp
     with_reducible rfl
    rotate_left
    ·
     simp only [Act.put, List.setIfInBounds_toArray, List.set_cons_zero, List.set_cons_succ, i64_w, i32_w]
     rfl
    refine pure_ (i := 7) (N := some 6) (v := ?_) (a' := ?_) #[true, true, true, true, true, true, true, true] rfl rfl (by kernel_rfl) (fun _ _ _ h => h) (Or.inl ⟨by rfl, ?_⟩) ?_ ?_
    rotate_left
    ·
     intro w'
     go_simp
     with_reducible rfl
    rotate_left
    ·
     simp only [Act.put, List.setIfInBounds_toArray, List.set_cons_zero, List.set_cons_succ, i64_w, i32_w]
     rfl
    refine done_ (by kernel_rfl) ?_
    go_wp2_with fail
    refine bodyPost_ret (results_ctt rfl _ _ w.heap.size 93 #[.string y.id, .string y.client, .string y.user, .string y.conn, .string y.sub, .string y.nonce, .string y.scope, .string y.claims, .string y.refresh, .string y.up, .slice A y.old.length c, .bool y.rev] (0, 0) _ rfl (by
     refine blk_put (cs := #[.string y.id, .string y.client, .string y.user, .string y.conn, .string y.sub, .string y.nonce, .string y.scope, .string y.claims, .string y.refresh, .string y.up, .slice A y.old.length c, .bool false]) ?_ 11 _ rfl
     refine blk_put (cs := #[.string y.id, .string y.client, .string y.user, .string y.conn, .string y.sub, .string y.nonce, .string y.scope, .string y.claims, .string y.refresh, .string y.up, .slice none 0 0, .bool false]) ?_ 10 _ rfl
     refine blk_put (cs := #[.string y.id, .string y.client, .string y.user, .string y.conn, .string y.sub, .string y.nonce, .string y.scope, .string y.claims, .string y.refresh, .string ⟨#[]⟩, .slice none 0 0, .bool false]) ?_ 9 _ rfl
     refine blk_put (cs := #[.string y.id, .string y.client, .string y.user, .string y.conn, .string y.sub, .string y.nonce, .string y.scope, .string y.claims, .string ⟨#[]⟩, .string ⟨#[]⟩, .slice none 0 0, .bool false]) ?_ 8 _ rfl
     refine blk_put (cs := #[.string y.id, .string y.client, .string y.user, .string y.conn, .string y.sub, .string y.nonce, .string y.scope, .string ⟨#[]⟩, .string ⟨#[]⟩, .string ⟨#[]⟩, .slice none 0 0, .bool false]) ?_ 7 _ rfl
     refine blk_put (cs := #[.string y.id, .string y.client, .string y.user, .string y.conn, .string y.sub, .string y.nonce, .string ⟨#[]⟩, .string ⟨#[]⟩, .string ⟨#[]⟩, .string ⟨#[]⟩, .slice none 0 0, .bool false]) ?_ 6 _ rfl
     refine blk_put (cs := #[.string y.id, .string y.client, .string y.user, .string y.conn, .string y.sub, .string ⟨#[]⟩, .string ⟨#[]⟩, .string ⟨#[]⟩, .string ⟨#[]⟩, .string ⟨#[]⟩, .slice none 0 0, .bool false]) ?_ 5 _ rfl
     refine blk_put (cs := #[.string y.id, .string y.client, .string y.user, .string y.conn, .string ⟨#[]⟩, .string ⟨#[]⟩, .string ⟨#[]⟩, .string ⟨#[]⟩, .string ⟨#[]⟩, .string ⟨#[]⟩, .slice none 0 0, .bool false]) ?_ 4 _ rfl
     refine blk_put (cs := #[.string y.id, .string y.client, .string y.user, .string ⟨#[]⟩, .string ⟨#[]⟩, .string ⟨#[]⟩, .string ⟨#[]⟩, .string ⟨#[]⟩, .string ⟨#[]⟩, .string ⟨#[]⟩, .slice none 0 0, .bool false]) ?_ 3 _ rfl
     refine blk_put (cs := #[.string y.id, .string y.client, .string ⟨#[]⟩, .string ⟨#[]⟩, .string ⟨#[]⟩, .string ⟨#[]⟩, .string ⟨#[]⟩, .string ⟨#[]⟩, .string ⟨#[]⟩, .string ⟨#[]⟩, .slice none 0 0, .bool false]) ?_ 2 _ rfl
     refine blk_put (cs := #[.string y.id, .string ⟨#[]⟩, .string ⟨#[]⟩, .string ⟨#[]⟩, .string ⟨#[]⟩, .string ⟨#[]⟩, .string ⟨#[]⟩, .string ⟨#[]⟩, .string ⟨#[]⟩, .string ⟨#[]⟩, .slice none 0 0, .bool false]) ?_ 1 _ rfl
     refine blk_put (cs := #[.string ⟨#[]⟩, .string ⟨#[]⟩, .string ⟨#[]⟩, .string ⟨#[]⟩, .string ⟨#[]⟩, .string ⟨#[]⟩, .string ⟨#[]⟩, .string ⟨#[]⟩, .string ⟨#[]⟩, .string ⟨#[]⟩, .slice none 0 0, .bool false]) ?_ 0 _ rfl
     exact hz4) Tryz.underlying93 rfl (by kernel_rfl)) rfl ?_
    refine ⟨A, c, rfl, ⟨hcc, Kd.F_mono (ok := fun k => w.heap.size + 1 ≤ k) ?_ (fun k hk => by omega)⟩, ?_⟩
    ·
     with_reducible refine Kd.F_far (p := ⟨w.heap.size, 11, none⟩) ?_ (fun k hk => by show k ≠ w.heap.size; omega) _
     with_reducible refine Kd.F_far (p := ⟨w.heap.size, 10, none⟩) ?_ (fun k hk => by show k ≠ w.heap.size; omega) _
     with_reducible refine Kd.F_far (p := ⟨w.heap.size, 9, none⟩) ?_ (fun k hk => by show k ≠ w.heap.size; omega) _
     with_reducible refine Kd.F_far (p := ⟨w.heap.size, 8, none⟩) ?_ (fun k hk => by show k ≠ w.heap.size; omega) _
     with_reducible refine Kd.F_far (p := ⟨w.heap.size, 7, none⟩) ?_ (fun k hk => by show k ≠ w.heap.size; omega) _
     with_reducible refine Kd.F_far (p := ⟨w.heap.size, 6, none⟩) ?_ (fun k hk => by show k ≠ w.heap.size; omega) _
     with_reducible refine Kd.F_far (p := ⟨w.heap.size, 5, none⟩) ?_ (fun k hk => by show k ≠ w.heap.size; omega) _
     with_reducible refine Kd.F_far (p := ⟨w.heap.size, 4, none⟩) ?_ (fun k hk => by show k ≠ w.heap.size; omega) _
     with_reducible refine Kd.F_far (p := ⟨w.heap.size, 3, none⟩) ?_ (fun k hk => by show k ≠ w.heap.size; omega) _
     with_reducible refine Kd.F_far (p := ⟨w.heap.size, 2, none⟩) ?_ (fun k hk => by show k ≠ w.heap.size; omega) _
     with_reducible refine Kd.F_far (p := ⟨w.heap.size, 1, none⟩) ?_ (fun k hk => by show k ≠ w.heap.size; omega) _
     with_reducible refine Kd.F_far (p := ⟨w.heap.size, 0, none⟩) ?_ (fun k hk => by show k ≠ w.heap.size; omega) _
     exact hFF
    iterate 12 (with_reducible refine below_set ?_ (Nat.le_refl _))
    with_reducible exact hB4
   | false =>
    rw [hr1] at q0
    cases hc1 : memB t y.old with
    | true =>
     rw [hc1] at hcon
     have hf := hfind y (Hstep.out (by rw [hob, hr1, hc1]; rfl))
     rw [hr1] at hf
     have hFF := Kd.F_mono hF4 (ok' := fun k => w.heap.size + 1 ≤ k) (fun k hk => hk)
     subst hf
     clear hfind hnone hob hr1 hc1
     go_wp2_with fail
     refine hcon.mono ?_
     rintro e w9 ⟨rfl, hb9⟩
     have hB4 := below_then hB4 hB4.size hb9
     have hz4 := blk_below hz4 hb9
     have hFF := Kd.F_below hFF hb9
     have hx4 := blk_below hx4 hb9
     clear hcon d0 d1 d2 d3 d4 d5 d6 d7 d8 d9 d10 d11
     have d0 : w9.cell? ⟨wr.heap.size, 0, none⟩ = some (.string y.id) := (blk_cell hx4 0).trans rfl
     have d1 : w9.cell? ⟨wr.heap.size, 1, none⟩ = some (.string y.client) := (blk_cell hx4 1).trans rfl
     have d2 : w9.cell? ⟨wr.heap.size, 2, none⟩ = some (.string y.user) := (blk_cell hx4 2).trans rfl
     have d3 : w9.cell? ⟨wr.heap.size, 3, none⟩ = some (.string y.conn) := (blk_cell hx4 3).trans rfl
     have d4 : w9.cell? ⟨wr.heap.size, 4, none⟩ = some (.string y.sub) := (blk_cell hx4 4).trans rfl
     have d5 : w9.cell? ⟨wr.heap.size, 5, none⟩ = some (.string y.nonce) := (blk_cell hx4 5).trans rfl
     have d6 : w9.cell? ⟨wr.heap.size, 6, none⟩ = some (.string y.scope) := (blk_cell hx4 6).trans rfl
     have d7 : w9.cell? ⟨wr.heap.size, 7, none⟩ = some (.string y.claims) := (blk_cell hx4 7).trans rfl
     have d8 : w9.cell? ⟨wr.heap.size, 8, none⟩ = some (.string y.refresh) := (blk_cell hx4 8).trans rfl
     have d9 : w9.cell? ⟨wr.heap.size, 9, none⟩ = some (.string y.up) := (blk_cell hx4 9).trans rfl
     have d10 : w9.cell? ⟨wr.heap.size, 10, none⟩ = some (.slice A y.old.length c) := (blk_cell hx4 10).trans rfl
     have d11 : w9.cell? ⟨wr.heap.size, 11, none⟩ = some (.bool y.rev) := (blk_cell hx4 11).trans rfl
     go_upto_region 7 with (fail)
     have d0 : w9.drew.cell? ⟨wr.heap.size, 0, none⟩ = some (.string y.id) := d0
     have d1 : w9.drew.cell? ⟨wr.heap.size, 1, none⟩ = some (.string y.client) := d1
     have d2 : w9.drew.cell? ⟨wr.heap.size, 2, none⟩ = some (.string y.user) := d2
     have d3 : w9.drew.cell? ⟨wr.heap.size, 3, none⟩ = some (.string y.conn) := d3
     have d4 : w9.drew.cell? ⟨wr.heap.size, 4, none⟩ = some (.string y.sub) := d4
     have d5 : w9.drew.cell? ⟨wr.heap.size, 5, none⟩ = some (.string y.nonce) := d5
     have d6 : w9.drew.cell? ⟨wr.heap.size, 6, none⟩ = some (.string y.scope) := d6
     have d7 : w9.drew.cell? ⟨wr.heap.size, 7, none⟩ = some (.string y.claims) := d7
     have d8 : w9.drew.cell? ⟨wr.heap.size, 8, none⟩ = some (.string y.refresh) := d8
     have d9 : w9.drew.cell? ⟨wr.heap.size, 9, none⟩ = some (.string y.up) := d9
     have d10 : w9.drew.cell? ⟨wr.heap.size, 10, none⟩ = some (.slice A y.old.length c) := d10
     have d11 : w9.drew.cell? ⟨wr.heap.size, 11, none⟩ = some (.bool y.rev) := d11
     have hwne : w.heap.size ≠ wr.heap.size := by have := blk_lt hz1; have := hb.size; omega
     have hB4 := below_drew hB4
     have hz4 := blk_drew hz4
     have hFF := Kd.F_drew hFF
     refine start_ (n := 8) (S := fun w' => w'.cell? ⟨wr.heap.size, 0, none⟩ = some (.string y.id) ∧ w'.cell? ⟨wr.heap.size, 1, none⟩ = some (.string y.client) ∧ w'.cell? ⟨wr.heap.size, 2, none⟩ = some (.string y.user) ∧ w'.cell? ⟨wr.heap.size, 3, none⟩ = some (.string y.conn) ∧ w'.cell? ⟨wr.heap.size, 4, none⟩ = some (.string y.sub) ∧ w'.cell? ⟨wr.heap.size, 5, none⟩ = some (.string y.nonce) ∧ w'.cell? ⟨wr.heap.size, 6, none⟩ = some (.string y.scope) ∧ w'.cell? ⟨wr.heap.size, 7, none⟩ = some (.string y.claims) ∧ w'.cell? ⟨wr.heap.size, 8, none⟩ = some (.string y.refresh) ∧ w'.cell? ⟨wr.heap.size, 9, none⟩ = some (.string y.up) ∧ w'.cell? ⟨wr.heap.size, 10, none⟩ = some (.slice A y.old.length c) ∧ w'.cell? ⟨wr.heap.size, 11, none⟩ = some (.bool y.rev)) (ds := []) #[false, false, false, false, false, false, false, false] (by kernel_rfl) rfl rfl ⟨d0, d1, d2, d3, d4, d5, d6, d7, d8, d9, d10, d11⟩ (fun hHeld => ?_)
     generalize w9.drew = w5 at hB4 hz4 hFF hHeld d0 d1 d2 d3 d4 d5 d6 d7 d8 d9 d10 d11 ⊢
     have c0 := blk_cell hz4 0
     have f0 := blk_frozen hz4 0
     have c1 := blk_cell hz4 1
     have f1 := blk_frozen hz4 1
     have c2 := blk_cell hz4 2
     have f2 := blk_frozen hz4 2
     have c3 := blk_cell hz4 3
     have f3 := blk_frozen hz4 3
     have c4 := blk_cell hz4 4
     have f4 := blk_frozen hz4 4
     have c5 := blk_cell hz4 5
     have f5 := blk_frozen hz4 5
     have c6 := blk_cell hz4 6
     have f6 := blk_frozen hz4 6
     have c7 := blk_cell hz4 7
     have f7 := blk_frozen hz4 7
     have c8 := blk_cell hz4 8
     have f8 := blk_frozen hz4 8
     have c9 := blk_cell hz4 9
     have f9 := blk_frozen hz4 9
     have c10 := blk_cell hz4 10
     have f10 := blk_frozen hz4 10
     have c11 := blk_cell hz4 11
     have f11 := blk_frozen hz4 11
     refine pure_ (i := 1) (N := some 30) (v := ?_) (a' := ?_) #[false, true, false, false, false, false, false, false] rfl rfl (by kernel_rfl) (fun _ _ _ h => h) (Or.inl ⟨by rfl, ?_⟩) ?_ ?_
     rotate_left
     ·
      intro w'
      go_simp
      with_reducible rfl
     rotate_left
     ·
      simp only [Act.put, List.setIfInBounds_toArray, List.set_cons_zero, List.set_cons_succ, i64_w, i32_w]
      rfl
     refine pure_ (i := 3) (N := some 32) (v := ?_) (a' := ?_) #[false, true, false, true, false, false, false, false] rfl rfl (by kernel_rfl) (fun _ _ _ h => h) (Or.inl ⟨by rfl, ?_⟩) ?_ ?_
     rotate_left
     ·
      intro w'
      go_simp
      with_reducible rfl
     rotate_left
     ·
      simp only [Act.put, List.setIfInBounds_toArray, List.set_cons_zero, List.set_cons_succ, i64_w, i32_w]
      rfl
     refine take_ (i := 0) (N := some 29) (v := ?_) (a' := ?_) #[true, true, false, true, false, false, false, false] rfl rfl (by kernel_rfl) (fun _ _ _ h => h) (Or.inl ⟨by rfl, ?_⟩) hHeld ?_ ?_
     rotate_left
     ·
      rintro w' ⟨s0, s1, s2, s3, s4, s5, s6, s7, s8, s9, s10, s11⟩
      go_simp
      with_reducible rfl
     rotate_left
     ·
      simp only [Act.put, List.setIfInBounds_toArray, List.set_cons_zero, List.set_cons_succ, i64_w, i32_w]
      rfl
     refine take_ (i := 2) (N := some 31) (v := ?_) (a' := ?_) #[true, true, true, true, false, false, false, false] rfl rfl (by kernel_rfl) (fun _ _ _ h => h) (Or.inl ⟨by rfl, ?_⟩) hHeld ?_ ?_
     rotate_left
     ·
      rintro w' ⟨s0, s1, s2, s3, s4, s5, s6, s7, s8, s9, s10, s11⟩
      go_simp
      with_reducible rfl
     rotate_left
     ·
      simp only [Act.put, List.setIfInBounds_toArray, List.set_cons_zero, List.set_cons_succ, i64_w, i32_w]
      rfl
     refine pure_ (i := 4) (N := some 33) (v := ?_) (a' := ?_) #[true, true, true, true, true, false, false, false] rfl rfl (by kernel_rfl) (fun _ _ _ h => h) (Or.inl ⟨by rfl, ?_⟩) ?_ ?_
     rotate_left
     ·
      intro w'
      go_simp
      with_reducible rfl
     rotate_left
     ·
      simp only [Act.put, List.setIfInBounds_toArray, List.set_cons_zero, List.set_cons_succ, i64_w, i32_w]
      rfl
     refine one_ (i := 5) (N := none) #[true, true, true, true, true, true, false, false] rfl rfl (by kernel_rfl) (by decide) (fun K hK => ?_)
     refine skip_ (w1 := ?_) (by rfl) rfl ?_ ?_
     rotate_left
     ·
      go_simp
      rfl
     refine hK.out _ _ ⟨cell_far12 hwne d0, cell_far12 hwne d1, cell_far12 hwne d2, cell_far12 hwne d3, cell_far12 hwne d4, cell_far12 hwne d5, cell_far12 hwne d6, cell_far12 hwne d7, cell_far12 hwne d8, cell_far12 hwne d9, cell_far12 hwne d10, cell_far12 hwne d11⟩ (fun hHeld => ?_)
     clear hK K
     refine pure_ (i := 6) (N := some 5) (v := ?_) (a' := ?_) #[true, true, true, true, true, true, true, false] rfl rfl (by kernel_rfl) (fun _ _ _ h => h) (Or.inl ⟨by rfl, ?_⟩) ?_ ?_
     rotate_left
     ·
      intro w'
      go_simp
      with_reducible rfl
     rotate_left
     ·
      simp only [Act.put, List.setIfInBounds_toArray, List.set_cons_zero, List.set_cons_succ, i64_w, i32_w]
      rfl
     refine pure_ (i := 7) (N := some 6) (v := ?_) (a' := ?_) #[true, true, true, true, true, true, true, true] rfl rfl (by kernel_rfl) (fun _ _ _ h => h) (Or.inl ⟨by rfl, ?_⟩) ?_ ?_
     rotate_left
     ·
      intro w'
      go_simp
      with_reducible rfl
     rotate_left
     ·
      simp only [Act.put, List.setIfInBounds_toArray, List.set_cons_zero, List.set_cons_succ, i64_w, i32_w]
      rfl
     refine done_ (by kernel_rfl) ?_
     go_wp2_with fail
     refine bodyPost_ret (results_ctt rfl _ _ w.heap.size 93 #[.string y.id, .string y.client, .string y.user, .string y.conn, .string y.sub, .string y.nonce, .string y.scope, .string y.claims, .string y.refresh, .string y.up, .slice A y.old.length c, .bool y.rev] (0, 0) _ rfl (by
      refine blk_put (cs := #[.string y.id, .string y.client, .string y.user, .string y.conn, .string y.sub, .string y.nonce, .string y.scope, .string y.claims, .string y.refresh, .string y.up, .slice A y.old.length c, .bool false]) ?_ 11 _ rfl
      refine blk_put (cs := #[.string y.id, .string y.client, .string y.user, .string y.conn, .string y.sub, .string y.nonce, .string y.scope, .string y.claims, .string y.refresh, .string y.up, .slice none 0 0, .bool false]) ?_ 10 _ rfl
      refine blk_put (cs := #[.string y.id, .string y.client, .string y.user, .string y.conn, .string y.sub, .string y.nonce, .string y.scope, .string y.claims, .string y.refresh, .string ⟨#[]⟩, .slice none 0 0, .bool false]) ?_ 9 _ rfl
      refine blk_put (cs := #[.string y.id, .string y.client, .string y.user, .string y.conn, .string y.sub, .string y.nonce, .string y.scope, .string y.claims, .string ⟨#[]⟩, .string ⟨#[]⟩, .slice none 0 0, .bool false]) ?_ 8 _ rfl
      refine blk_put (cs := #[.string y.id, .string y.client, .string y.user, .string y.conn, .string y.sub, .string y.nonce, .string y.scope, .string ⟨#[]⟩, .string ⟨#[]⟩, .string ⟨#[]⟩, .slice none 0 0, .bool false]) ?_ 7 _ rfl
      refine blk_put (cs := #[.string y.id, .string y.client, .string y.user, .string y.conn, .string y.sub, .string y.nonce, .string ⟨#[]⟩, .string ⟨#[]⟩, .string ⟨#[]⟩, .string ⟨#[]⟩, .slice none 0 0, .bool false]) ?_ 6 _ rfl
      refine blk_put (cs := #[.string y.id, .string y.client, .string y.user, .string y.conn, .string y.sub, .string ⟨#[]⟩, .string ⟨#[]⟩, .string ⟨#[]⟩, .string ⟨#[]⟩, .string ⟨#[]⟩, .slice none 0 0, .bool false]) ?_ 5 _ rfl
      refine blk_put (cs := #[.string y.id, .string y.client, .string y.user, .string y.conn, .string ⟨#[]⟩, .string ⟨#[]⟩, .string ⟨#[]⟩, .string ⟨#[]⟩, .string ⟨#[]⟩, .string ⟨#[]⟩, .slice none 0 0, .bool false]) ?_ 4 _ rfl
      refine blk_put (cs := #[.string y.id, .string y.client, .string y.user, .string ⟨#[]⟩, .string ⟨#[]⟩, .string ⟨#[]⟩, .string ⟨#[]⟩, .string ⟨#[]⟩, .string ⟨#[]⟩, .string ⟨#[]⟩, .slice none 0 0, .bool false]) ?_ 3 _ rfl
      refine blk_put (cs := #[.string y.id, .string y.client, .string ⟨#[]⟩, .string ⟨#[]⟩, .string ⟨#[]⟩, .string ⟨#[]⟩, .string ⟨#[]⟩, .string ⟨#[]⟩, .string ⟨#[]⟩, .string ⟨#[]⟩, .slice none 0 0, .bool false]) ?_ 2 _ rfl
      refine blk_put (cs := #[.string y.id, .string ⟨#[]⟩, .string ⟨#[]⟩, .string ⟨#[]⟩, .string ⟨#[]⟩, .string ⟨#[]⟩, .string ⟨#[]⟩, .string ⟨#[]⟩, .string ⟨#[]⟩, .string ⟨#[]⟩, .slice none 0 0, .bool false]) ?_ 1 _ rfl
      refine blk_put (cs := #[.string ⟨#[]⟩, .string ⟨#[]⟩, .string ⟨#[]⟩, .string ⟨#[]⟩, .string ⟨#[]⟩, .string ⟨#[]⟩, .string ⟨#[]⟩, .string ⟨#[]⟩, .string ⟨#[]⟩, .string ⟨#[]⟩, .slice none 0 0, .bool false]) ?_ 0 _ rfl
      exact hz4) Tryz.underlying93 rfl (by kernel_rfl)) rfl ?_
     refine ⟨A, c, rfl, ⟨hcc, Kd.F_mono (ok := fun k => w.heap.size + 1 ≤ k) ?_ (fun k hk => by omega)⟩, ?_⟩
     ·
      with_reducible refine Kd.F_far (p := ⟨w.heap.size, 11, none⟩) ?_ (fun k hk => by show k ≠ w.heap.size; omega) _
      with_reducible refine Kd.F_far (p := ⟨w.heap.size, 10, none⟩) ?_ (fun k hk => by show k ≠ w.heap.size; omega) _
      with_reducible refine Kd.F_far (p := ⟨w.heap.size, 9, none⟩) ?_ (fun k hk => by show k ≠ w.heap.size; omega) _
      with_reducible refine Kd.F_far (p := ⟨w.heap.size, 8, none⟩) ?_ (fun k hk => by show k ≠ w.heap.size; omega) _
      with_reducible refine Kd.F_far (p := ⟨w.heap.size, 7, none⟩) ?_ (fun k hk => by show k ≠ w.heap.size; omega) _
      with_reducible refine Kd.F_far (p := ⟨w.heap.size, 6, none⟩) ?_ (fun k hk => by show k ≠ w.heap.size; omega) _
      with_reducible refine Kd.F_far (p := ⟨w.heap.size, 5, none⟩) ?_ (fun k hk => by show k ≠ w.heap.size; omega) _
      with_reducible refine Kd.F_far (p := ⟨w.heap.size, 4, none⟩) ?_ (fun k hk => by show k ≠ w.heap.size; omega) _
      with_reducible refine Kd.F_far (p := ⟨w.heap.size, 3, none⟩) ?_ (fun k hk => by show k ≠ w.heap.size; omega) _
      with_reducible refine Kd.F_far (p := ⟨w.heap.size, 2, none⟩) ?_ (fun k hk => by show k ≠ w.heap.size; omega) _
      with_reducible refine Kd.F_far (p := ⟨w.heap.size, 1, none⟩) ?_ (fun k hk => by show k ≠ w.heap.size; omega) _
      with_reducible refine Kd.F_far (p := ⟨w.heap.size, 0, none⟩) ?_ (fun k hk => by show k ≠ w.heap.size; omega) _
      exact hFF
     iterate 12 (with_reducible refine below_set ?_ (Nat.le_refl _))
     with_reducible exact hB4
    | false =>
     rw [hc1] at hcon
     have HN := Lib.hid (Hnext.out (by rw [hob, hr1, hc1]; rfl))
     clear hfind hnone hob hr1 hc1
     go_wp2_with fail
     refine hcon.mono ?_
     rintro e w9 ⟨rfl, hb9⟩
     have hB9 := below_then hB41 hB41.size hb9
     clear hcon
     go_wp2_with fail
     refine ⟨⟨i + 1, rfl, Hi.out, HN.out, hB9⟩, ?_⟩
     have := Hi.out; simp only [intOf]; omega
  ·
   have d1 : decide ((i : Int) < (l.length : Int)) = false := decide_eq_false (by omega)
   have hil : i = l.length := by omega
   subst hil
   rw [List.take_length] at hnf
   have hf := hnone hnf
   subst hf
   clear hfind hnone hnf hstep hnext hold
   have c0 := blk_cell hzr 0
   have f0 := blk_frozen hzr 0
   have c1 := blk_cell hzr 1
   have f1 := blk_frozen hzr 1
   have c2 := blk_cell hzr 2
   have f2 := blk_frozen hzr 2
   have c3 := blk_cell hzr 3
   have f3 := blk_frozen hzr 3
   have c4 := blk_cell hzr 4
   have f4 := blk_frozen hzr 4
   have c5 := blk_cell hzr 5
   have f5 := blk_frozen hzr 5
   have c6 := blk_cell hzr 6
   have f6 := blk_frozen hzr 6
   have c7 := blk_cell hzr 7
   have f7 := blk_frozen hzr 7
   have c8 := blk_cell hzr 8
   have f8 := blk_frozen hzr 8
   have c9 := blk_cell hzr 9
   have f9 := blk_frozen hzr 9
   have c10 := blk_cell hzr 10
   have f10 := blk_frozen hzr 10
   have c11 := blk_cell hzr 11
   have f11 := blk_frozen hzr 11
   go_wp2_with fail
   refine bodyPost_ret (results_ctt rfl _ _ w.heap.size 93 #[.string ⟨#[]⟩, .string ⟨#[]⟩, .string ⟨#[]⟩, .string ⟨#[]⟩, .string ⟨#[]⟩, .string ⟨#[]⟩, .string ⟨#[]⟩, .string ⟨#[]⟩, .string ⟨#[]⟩, .string ⟨#[]⟩, .slice none 0 0, .bool false] (0, 0) _ rfl (by
    refine blk_put (cs := #[.string ⟨#[]⟩, .string ⟨#[]⟩, .string ⟨#[]⟩, .string ⟨#[]⟩, .string ⟨#[]⟩, .string ⟨#[]⟩, .string ⟨#[]⟩, .string ⟨#[]⟩, .string ⟨#[]⟩, .string ⟨#[]⟩, .slice none 0 0, .bool false]) ?_ 11 _ rfl
    refine blk_put (cs := #[.string ⟨#[]⟩, .string ⟨#[]⟩, .string ⟨#[]⟩, .string ⟨#[]⟩, .string ⟨#[]⟩, .string ⟨#[]⟩, .string ⟨#[]⟩, .string ⟨#[]⟩, .string ⟨#[]⟩, .string ⟨#[]⟩, .slice none 0 0, .bool false]) ?_ 10 _ rfl
    refine blk_put (cs := #[.string ⟨#[]⟩, .string ⟨#[]⟩, .string ⟨#[]⟩, .string ⟨#[]⟩, .string ⟨#[]⟩, .string ⟨#[]⟩, .string ⟨#[]⟩, .string ⟨#[]⟩, .string ⟨#[]⟩, .string ⟨#[]⟩, .slice none 0 0, .bool false]) ?_ 9 _ rfl
    refine blk_put (cs := #[.string ⟨#[]⟩, .string ⟨#[]⟩, .string ⟨#[]⟩, .string ⟨#[]⟩, .string ⟨#[]⟩, .string ⟨#[]⟩, .string ⟨#[]⟩, .string ⟨#[]⟩, .string ⟨#[]⟩, .string ⟨#[]⟩, .slice none 0 0, .bool false]) ?_ 8 _ rfl
    refine blk_put (cs := #[.string ⟨#[]⟩, .string ⟨#[]⟩, .string ⟨#[]⟩, .string ⟨#[]⟩, .string ⟨#[]⟩, .string ⟨#[]⟩, .string ⟨#[]⟩, .string ⟨#[]⟩, .string ⟨#[]⟩, .string ⟨#[]⟩, .slice none 0 0, .bool false]) ?_ 7 _ rfl
    refine blk_put (cs := #[.string ⟨#[]⟩, .string ⟨#[]⟩, .string ⟨#[]⟩, .string ⟨#[]⟩, .string ⟨#[]⟩, .string ⟨#[]⟩, .string ⟨#[]⟩, .string ⟨#[]⟩, .string ⟨#[]⟩, .string ⟨#[]⟩, .slice none 0 0, .bool false]) ?_ 6 _ rfl
    refine blk_put (cs := #[.string ⟨#[]⟩, .string ⟨#[]⟩, .string ⟨#[]⟩, .string ⟨#[]⟩, .string ⟨#[]⟩, .string ⟨#[]⟩, .string ⟨#[]⟩, .string ⟨#[]⟩, .string ⟨#[]⟩, .string ⟨#[]⟩, .slice none 0 0, .bool false]) ?_ 5 _ rfl
    refine blk_put (cs := #[.string ⟨#[]⟩, .string ⟨#[]⟩, .string ⟨#[]⟩, .string ⟨#[]⟩, .string ⟨#[]⟩, .string ⟨#[]⟩, .string ⟨#[]⟩, .string ⟨#[]⟩, .string ⟨#[]⟩, .string ⟨#[]⟩, .slice none 0 0, .bool false]) ?_ 4 _ rfl
    refine blk_put (cs := #[.string ⟨#[]⟩, .string ⟨#[]⟩, .string ⟨#[]⟩, .string ⟨#[]⟩, .string ⟨#[]⟩, .string ⟨#[]⟩, .string ⟨#[]⟩, .string ⟨#[]⟩, .string ⟨#[]⟩, .string ⟨#[]⟩, .slice none 0 0, .bool false]) ?_ 3 _ rfl
    refine blk_put (cs := #[.string ⟨#[]⟩, .string ⟨#[]⟩, .string ⟨#[]⟩, .string ⟨#[]⟩, .string ⟨#[]⟩, .string ⟨#[]⟩, .string ⟨#[]⟩, .string ⟨#[]⟩, .string ⟨#[]⟩, .string ⟨#[]⟩, .slice none 0 0, .bool false]) ?_ 2 _ rfl
    refine blk_put (cs := #[.string ⟨#[]⟩, .string ⟨#[]⟩, .string ⟨#[]⟩, .string ⟨#[]⟩, .string ⟨#[]⟩, .string ⟨#[]⟩, .string ⟨#[]⟩, .string ⟨#[]⟩, .string ⟨#[]⟩, .string ⟨#[]⟩, .slice none 0 0, .bool false]) ?_ 1 _ rfl
    refine blk_put (cs := #[.string ⟨#[]⟩, .string ⟨#[]⟩, .string ⟨#[]⟩, .string ⟨#[]⟩, .string ⟨#[]⟩, .string ⟨#[]⟩, .string ⟨#[]⟩, .string ⟨#[]⟩, .string ⟨#[]⟩, .string ⟨#[]⟩, .slice none 0 0, .bool false]) ?_ 0 _ rfl
    exact hzr) Tryz.underlying93 rfl (by kernel_rfl)) rfl ?_
   refine ⟨none, 0, rfl, FamR.nil _ _ _, ?_⟩
   iterate 12 (with_reducible refine below_set ?_ (Nat.le_refl _))
   with_reducible exact hB
end Go.Proofs.YtpoblffgclmmlaaGreatDoor.X
end
section
set_option linter.unusedVariables false
set_option linter.unusedSimpArgs false
namespace Go.Proofs.YtpoblffgclmmlaaGreatDoor.X
open Go.RowKit Go.WideMaps Go.Maps Go.Proofs.YtpoblffgclmmlaaGreatDoorW.PrintWords Go.Proofs.YtpoblffgclmmlaaGreatDoorW.PrintLast Go.Proofs.YtpoblffgclmmlaaGreatDoorW.PrintMore Go.Proofs.YtpoblffgclmmlaaGreatDoor.Q

/-- A family whose refresh token is an old one. -/
def spendF (x : Fam) : Fam := ⟨x.id, x.client, x.user, x.conn, x.sub, x.nonce, x.scope, x.claims, ⟨#[]⟩, x.up, (x.refresh :: x.old).take 8, x.rev⟩
set_option maxHeartbeats 4000000 in
set_option maxRecDepth 100000 in
theorem spend_says (x : Fam) (A : Option Addr) (c : Nat) (w : World) (hC : Kd.C Kd.string w A x.old.length x.old) (hc : x.old.length ≤ c) (hl : x.old.length ≤ 100000000000) :
  Calls Tryz.prog 54 #[famV x A c] w fun e w' => ∃ A' c', e = .returned (famV (spendF x) A' c') ∧ FamR w' w.heap.size (spendF x) A' c' ∧ Below w.heap.size w w' := by
 obtain ⟨m, hm⟩ : ∃ m, m = min (x.old.length + 1) 8 := ⟨_, rfl⟩
 have hml : m ≤ x.old.length + 1 := by omega
 have hm8 : (spendF x).old.length = m := by show ((x.refresh :: x.old).take 8).length = m; rw [List.length_take, List.length_cons]; omega
 have hmt : (spendF x).old = (x.refresh :: x.old).take m := by
  show (x.refresh :: x.old).take 8 = _
  rcases (by omega : m = 8 ∨ (m = x.old.length + 1 ∧ x.old.length + 1 ≤ 8)) with e | ⟨e, e8⟩
  ·
   rw [e]
  ·
   rw [List.take_of_length_le (by rw [List.length_cons]; omega), List.take_of_length_le (by rw [List.length_cons]; omega)]
 obtain ⟨i05, hi05, _, hsz5, _⟩ := info_parts (show (Tryz.prog.info? 9).map (fun i => (i.zero, i.size, i.bytes)) = some (some (.string ⟨#[]⟩), 1, 16) by kernel_rfl)
 have hcut := fun A5 q5 (h : ([x.refresh] ++ x.old).length ≤ q5) => cut_to (P := Tryz.prog) 88 9 .i64 Tryz.underlying88 hi05 A5 ([x.refresh] ++ x.old).length q5 (m : Int) (by omega) (by rw [List.length_append, List.length_singleton]; omega) h
 have hclip := fun A5 q5 (h : ([x.refresh] ++ x.old).length ≤ q5) => clip_says A5 m q5 (by rw [List.length_append, List.length_singleton] at h; omega)
 have LA := Lib.hid (show ([x.refresh].length + x.old.length) * 16 ≤ 140737488355328 by rw [List.length_singleton]; omega)
 have HM := Lib.hid hm
 have HM8 := Lib.hid hm8
 have HMT := Lib.hid hmt
 clear hm hm8 hmt hl
 unfold famV
 go_enter Tryz.func54, Tryz.ntmps54
 go_upto_region 1 with (fail)
 have hx0 := heap_alloc_new w (.cells #[.string x.id, .string x.client, .string x.user, .string x.conn, .string x.sub, .string x.nonce, .string x.scope, .string x.claims, .string x.refresh, .string x.up, .slice A x.old.length c, .bool x.rev] 93)
 have hb0 : Below w.heap.size w (w.alloc (.cells #[.string x.id, .string x.client, .string x.user, .string x.conn, .string x.sub, .string x.nonce, .string x.scope, .string x.claims, .string x.refresh, .string x.up, .slice A x.old.length c, .bool x.rev] 93)) := (Below.refl _ w).alloc (Nat.le_refl _) _
 have hs0 : (w.alloc (.cells #[.string x.id, .string x.client, .string x.user, .string x.conn, .string x.sub, .string x.nonce, .string x.scope, .string x.claims, .string x.refresh, .string x.up, .slice A x.old.length c, .bool x.rev] 93)).heap.size = w.heap.size + 1 := by simp
 have hz1 := heap_alloc_new (w.alloc (.cells #[.string x.id, .string x.client, .string x.user, .string x.conn, .string x.sub, .string x.nonce, .string x.scope, .string x.claims, .string x.refresh, .string x.up, .slice A x.old.length c, .bool x.rev] 93)) (.cells #[.string ⟨#[]⟩, .string ⟨#[]⟩, .string ⟨#[]⟩, .string ⟨#[]⟩, .string ⟨#[]⟩, .string ⟨#[]⟩, .string ⟨#[]⟩, .string ⟨#[]⟩, .string ⟨#[]⟩, .string ⟨#[]⟩, .slice none 0 0, .bool false] 93)
 have hb1 : Below (w.alloc (.cells #[.string x.id, .string x.client, .string x.user, .string x.conn, .string x.sub, .string x.nonce, .string x.scope, .string x.claims, .string x.refresh, .string x.up, .slice A x.old.length c, .bool x.rev] 93)).heap.size (w.alloc (.cells #[.string x.id, .string x.client, .string x.user, .string x.conn, .string x.sub, .string x.nonce, .string x.scope, .string x.claims, .string x.refresh, .string x.up, .slice A x.old.length c, .bool x.rev] 93)) ((w.alloc (.cells #[.string x.id, .string x.client, .string x.user, .string x.conn, .string x.sub, .string x.nonce, .string x.scope, .string x.claims, .string x.refresh, .string x.up, .slice A x.old.length c, .bool x.rev] 93)).alloc (.cells #[.string ⟨#[]⟩, .string ⟨#[]⟩, .string ⟨#[]⟩, .string ⟨#[]⟩, .string ⟨#[]⟩, .string ⟨#[]⟩, .string ⟨#[]⟩, .string ⟨#[]⟩, .string ⟨#[]⟩, .string ⟨#[]⟩, .slice none 0 0, .bool false] 93)) := (Below.refl _ _).alloc (Nat.le_refl _) _
 have hx1 := blk_below hx0 hb1
 have hB1 := below_then hb0 hb0.size hb1
 rw [hs0] at hz1
 generalize (w.alloc (.cells #[.string x.id, .string x.client, .string x.user, .string x.conn, .string x.sub, .string x.nonce, .string x.scope, .string x.claims, .string x.refresh, .string x.up, .slice A x.old.length c, .bool x.rev] 93)).alloc (.cells #[.string ⟨#[]⟩, .string ⟨#[]⟩, .string ⟨#[]⟩, .string ⟨#[]⟩, .string ⟨#[]⟩, .string ⟨#[]⟩, .string ⟨#[]⟩, .string ⟨#[]⟩, .string ⟨#[]⟩, .string ⟨#[]⟩, .slice none 0 0, .bool false] 93) = w1 at hx1 hz1 hB1 ⊢
 clear hb0 hb1 hx0 hs0
 have hlt := blk_lt hx1
 have hlt2 := blk_lt hz1
 have c8 : w1.cell? ⟨w.heap.size, 8, none⟩ = some (.string x.refresh) := (blk_cell hx1 8).trans rfl
 have hb2 : Below w1.heap.size w1 (w1.alloc (.cells #[.string x.refresh] 9)) := (Below.refl _ w1).alloc (Nat.le_refl _) _
 have hB2 := below_then hB1 hB1.size hb2
 have hx2 := blk_below hx1 hb2
 have hz2 := blk_below hz1 hb2
 have c10 : (w1.alloc (.cells #[.string x.refresh] 9)).cell? ⟨w.heap.size, 10, none⟩ = some (.slice A x.old.length c) := (blk_cell hx2 10).trans rfl
 have hR2 : StrR w.heap.size (w1.alloc (.cells #[.string x.refresh] 9)) (.slice (some ⟨w1.heap.size, 0, none⟩) 1 1) [x.refresh] := Kd.R_of_own (enc := Value.string) (h1 := fun _ => rfl) ⟨rfl, .inr ⟨w1.heap.size, 1, _, rfl, hB1.size, heap_alloc_new w1 _, Nat.le_refl _, by decide, rfl, rfl⟩⟩ (fun _ _ => trivial)
 have hC2 := Kd.C_below hC hB2
 have hs2 := hB2.size
 have LB := LA.out
 clear hC hb2
 go_wp2_with ((with_reducible refine gate_builtin (b := .append) (xs := #[.tmp 6, .tmp 8]) rfl ?_); at_builtin; refine Kd.R_append_rows Kd.string (w0 := w) w.heap.size rfl (.tmp 6) (.tmp 8) 88 9 (.string ⟨#[]⟩) 16 rfl Tryz.underlying88 (by kernel_rfl) rfl (by decide) (by omega) (.slice (some ⟨w1.heap.size, 0, none⟩) 1 1) [x.refresh] x.old _ _ _ (fun _ => True) (fun _ => False) rfl rfl hR2 hC2 (fun _ _ h => h) (fun _ h => h.elim) (fun _ _ => trivial) hB2 hs2 LB ?_; intro v5 w5 ho5 hb5 hg5 hat5; obtain ⟨A5, q5, e5⟩ := Kd.R_slice ho5; subst e5; have hcut5 := hcut A5 q5 (Kd.R_reads' ho5).2.1; have hclip5 := hclip A5 q5 (Kd.R_reads' ho5).2.1 w5; have hq5 := (Kd.R_reads' ho5).2.1; have hm0 : (0 ≤ min ((x.old.length : Int) + 1) 8) = True := eq_true (by omega); have hmq : (min ((x.old.length : Int) + 1) 8 ≤ (q5 : Int)) = True := eq_true (by rw [List.length_append, List.length_singleton] at hq5; omega); clear hq5; have hx5 := blk_grown hx2 hg5 (fun e => by have e2 : w.heap.size = w1.heap.size := Option.some.inj e; omega); have hz5 := blk_grown hz2 hg5 (fun e => by have e2 : w.heap.size + 1 = w1.heap.size := Option.some.inj e; omega); have cx0 := blk_cell hx5 0; have cx1 := blk_cell hx5 1; have cx2 := blk_cell hx5 2; have cx3 := blk_cell hx5 3; have cx4 := blk_cell hx5 4; have cx5 := blk_cell hx5 5; have cx6 := blk_cell hx5 6; have cx7 := blk_cell hx5 7; have cx8 := blk_cell hx5 8; have cx9 := blk_cell hx5 9; have cx10 := blk_cell hx5 10; have cx11 := blk_cell hx5 11; have fx0 := blk_frozen hx5 0; have fx1 := blk_frozen hx5 1; have fx2 := blk_frozen hx5 2; have fx3 := blk_frozen hx5 3; have fx4 := blk_frozen hx5 4; have fx5 := blk_frozen hx5 5; have fx6 := blk_frozen hx5 6; have fx7 := blk_frozen hx5 7; have fx8 := blk_frozen hx5 8; have fx9 := blk_frozen hx5 9; have fx10 := blk_frozen hx5 10; have fx11 := blk_frozen hx5 11; have cz0 := blk_cell hz5 0; have cz1 := blk_cell hz5 1; have cz2 := blk_cell hz5 2; have cz3 := blk_cell hz5 3; have cz4 := blk_cell hz5 4; have cz5 := blk_cell hz5 5; have cz6 := blk_cell hz5 6; have cz7 := blk_cell hz5 7; have cz8 := blk_cell hz5 8; have cz9 := blk_cell hz5 9; have cz10 := blk_cell hz5 10; have cz11 := blk_cell hz5 11; have fz0 := blk_frozen hz5 0; have fz1 := blk_frozen hz5 1; have fz2 := blk_frozen hz5 2; have fz3 := blk_frozen hz5 3; have fz4 := blk_frozen hz5 4; have fz5 := blk_frozen hz5 5; have fz6 := blk_frozen hz5 6; have fz7 := blk_frozen hz5 7; have fz8 := blk_frozen hz5 8; have fz9 := blk_frozen hz5 9; have fz10 := blk_frozen hz5 10; have fz11 := blk_frozen hz5 11; clear c8 c10)
 have hF5 : Kd.F Kd.string w5 (fun k => w.heap.size + 2 ≤ k) A5 m ((x.refresh :: x.old).take m) := by
  have h2 : Kd.R Kd.string 9 w5 w.heap.size (fun k => w.heap.size + 2 ≤ k) (.slice A5 ([x.refresh] ++ x.old).length q5) ([x.refresh] ++ x.old) := Kd.R_of_own (Kd.own_of_R ho5) (fun k hk => by
   rcases hat5 with e | ⟨b, e, hb⟩
   ·
    rw [e] at hk
    have hk2 : w1.heap.size = k := Option.some.inj hk
    omega
   ·
    rw [e] at hk
    have hk2 := Option.some.inj hk
    have : (w1.alloc (.cells #[.string x.refresh] 9)).heap.size = w1.heap.size + 1 := by simp
    omega)
  have hml := (show m ≤ x.old.length + 1 from hml)
  have h3 := Kd.R_take (m := m) h2 (by rw [List.length_append, List.length_singleton]; omega)
  exact Kd.R_F h3
 clear hat5 hg5 ho5 hR2 hC2 hx2 hz2 hx1 hz1 hcut hclip
 rw [show (min ((x.old.length : Int) + 1) 8).toNat = m by have := (show m = min (x.old.length + 1) 8 from HM); omega]
 refine hclip5.mono ?_
 rintro e w6 ⟨rfl, hw6⟩
 subst hw6
 go_wp2_with fail
 refine bodyPost_ret (results_cell_row rfl _ _ (w.heap.size + 1) 93 #[.string x.id, .string x.client, .string x.user, .string x.conn, .string x.sub, .string x.nonce, .string x.scope, .string x.claims, .string ⟨#[]⟩, .string x.up, .slice A5 m m, .bool x.rev] (0, 0) _ rfl (by
  refine blk_put (cs := #[.string x.id, .string x.client, .string x.user, .string x.conn, .string x.sub, .string x.nonce, .string x.scope, .string x.claims, .string ⟨#[]⟩, .string x.up, .slice A5 m m, .bool false]) ?_ 11 _ rfl
  refine blk_put (cs := #[.string x.id, .string x.client, .string x.user, .string x.conn, .string x.sub, .string x.nonce, .string x.scope, .string x.claims, .string ⟨#[]⟩, .string x.up, .slice none 0 0, .bool false]) ?_ 10 _ rfl
  refine blk_put (cs := #[.string x.id, .string x.client, .string x.user, .string x.conn, .string x.sub, .string x.nonce, .string x.scope, .string x.claims, .string ⟨#[]⟩, .string ⟨#[]⟩, .slice none 0 0, .bool false]) ?_ 9 _ rfl
  refine blk_put (cs := #[.string x.id, .string x.client, .string x.user, .string x.conn, .string x.sub, .string x.nonce, .string x.scope, .string x.claims, .string ⟨#[]⟩, .string ⟨#[]⟩, .slice none 0 0, .bool false]) ?_ 8 _ rfl
  refine blk_put (cs := #[.string x.id, .string x.client, .string x.user, .string x.conn, .string x.sub, .string x.nonce, .string x.scope, .string ⟨#[]⟩, .string ⟨#[]⟩, .string ⟨#[]⟩, .slice none 0 0, .bool false]) ?_ 7 _ rfl
  refine blk_put (cs := #[.string x.id, .string x.client, .string x.user, .string x.conn, .string x.sub, .string x.nonce, .string ⟨#[]⟩, .string ⟨#[]⟩, .string ⟨#[]⟩, .string ⟨#[]⟩, .slice none 0 0, .bool false]) ?_ 6 _ rfl
  refine blk_put (cs := #[.string x.id, .string x.client, .string x.user, .string x.conn, .string x.sub, .string ⟨#[]⟩, .string ⟨#[]⟩, .string ⟨#[]⟩, .string ⟨#[]⟩, .string ⟨#[]⟩, .slice none 0 0, .bool false]) ?_ 5 _ rfl
  refine blk_put (cs := #[.string x.id, .string x.client, .string x.user, .string x.conn, .string ⟨#[]⟩, .string ⟨#[]⟩, .string ⟨#[]⟩, .string ⟨#[]⟩, .string ⟨#[]⟩, .string ⟨#[]⟩, .slice none 0 0, .bool false]) ?_ 4 _ rfl
  refine blk_put (cs := #[.string x.id, .string x.client, .string x.user, .string ⟨#[]⟩, .string ⟨#[]⟩, .string ⟨#[]⟩, .string ⟨#[]⟩, .string ⟨#[]⟩, .string ⟨#[]⟩, .string ⟨#[]⟩, .slice none 0 0, .bool false]) ?_ 3 _ rfl
  refine blk_put (cs := #[.string x.id, .string x.client, .string ⟨#[]⟩, .string ⟨#[]⟩, .string ⟨#[]⟩, .string ⟨#[]⟩, .string ⟨#[]⟩, .string ⟨#[]⟩, .string ⟨#[]⟩, .string ⟨#[]⟩, .slice none 0 0, .bool false]) ?_ 2 _ rfl
  refine blk_put (cs := #[.string x.id, .string ⟨#[]⟩, .string ⟨#[]⟩, .string ⟨#[]⟩, .string ⟨#[]⟩, .string ⟨#[]⟩, .string ⟨#[]⟩, .string ⟨#[]⟩, .string ⟨#[]⟩, .string ⟨#[]⟩, .slice none 0 0, .bool false]) ?_ 1 _ rfl
  refine blk_put (cs := #[.string ⟨#[]⟩, .string ⟨#[]⟩, .string ⟨#[]⟩, .string ⟨#[]⟩, .string ⟨#[]⟩, .string ⟨#[]⟩, .string ⟨#[]⟩, .string ⟨#[]⟩, .string ⟨#[]⟩, .string ⟨#[]⟩, .slice none 0 0, .bool false]) ?_ 0 _ rfl
  exact blk_far (p := ⟨w.heap.size, 8, none⟩) (blk_far (p := ⟨w.heap.size, 10, none⟩) hz5 (by show w.heap.size + 1 ≠ w.heap.size; omega) _) (by show w.heap.size + 1 ≠ w.heap.size; omega) _) Tryz.underlying93 rfl (by kernel_rfl)) rfl ?_
 have hF5e : Kd.F Kd.string w6 (fun k => w.heap.size + 2 ≤ k) A5 (spendF x).old.length (spendF x).old := by rw [HM8.out, HMT.out]; exact hF5
 refine ⟨A5, m, ?_, ⟨by rw [HM8.out]; exact Nat.le_refl _, Kd.F_mono (ok := fun k => w.heap.size + 2 ≤ k) ?_ (fun k hk => by omega)⟩, ?_⟩
 ·
  rw [HM8.out]
  rfl
 ·
  with_reducible refine Kd.F_far (p := ⟨w.heap.size + 1, 11, none⟩) ?_ (fun k hk => by show k ≠ w.heap.size + 1; omega) _
  with_reducible refine Kd.F_far (p := ⟨w.heap.size + 1, 10, none⟩) ?_ (fun k hk => by show k ≠ w.heap.size + 1; omega) _
  with_reducible refine Kd.F_far (p := ⟨w.heap.size + 1, 9, none⟩) ?_ (fun k hk => by show k ≠ w.heap.size + 1; omega) _
  with_reducible refine Kd.F_far (p := ⟨w.heap.size + 1, 8, none⟩) ?_ (fun k hk => by show k ≠ w.heap.size + 1; omega) _
  with_reducible refine Kd.F_far (p := ⟨w.heap.size + 1, 7, none⟩) ?_ (fun k hk => by show k ≠ w.heap.size + 1; omega) _
  with_reducible refine Kd.F_far (p := ⟨w.heap.size + 1, 6, none⟩) ?_ (fun k hk => by show k ≠ w.heap.size + 1; omega) _
  with_reducible refine Kd.F_far (p := ⟨w.heap.size + 1, 5, none⟩) ?_ (fun k hk => by show k ≠ w.heap.size + 1; omega) _
  with_reducible refine Kd.F_far (p := ⟨w.heap.size + 1, 4, none⟩) ?_ (fun k hk => by show k ≠ w.heap.size + 1; omega) _
  with_reducible refine Kd.F_far (p := ⟨w.heap.size + 1, 3, none⟩) ?_ (fun k hk => by show k ≠ w.heap.size + 1; omega) _
  with_reducible refine Kd.F_far (p := ⟨w.heap.size + 1, 2, none⟩) ?_ (fun k hk => by show k ≠ w.heap.size + 1; omega) _
  with_reducible refine Kd.F_far (p := ⟨w.heap.size + 1, 1, none⟩) ?_ (fun k hk => by show k ≠ w.heap.size + 1; omega) _
  with_reducible refine Kd.F_far (p := ⟨w.heap.size + 1, 0, none⟩) ?_ (fun k hk => by show k ≠ w.heap.size + 1; omega) _
  with_reducible refine Kd.F_far (p := ⟨w.heap.size, 8, none⟩) ?_ (fun k hk => by show k ≠ w.heap.size; omega) _
  with_reducible refine Kd.F_far (p := ⟨w.heap.size, 10, none⟩) ?_ (fun k hk => by show k ≠ w.heap.size; omega) _
  exact hF5e
 iterate 14 (with_reducible refine below_set ?_ (by omega))
 exact hb5
end Go.Proofs.YtpoblffgclmmlaaGreatDoor.X
end
section
set_option linter.unusedVariables false
set_option linter.unusedSimpArgs false
namespace Go.Proofs.YtpoblffgclmmlaaGreatDoor.X
open Go.RowKit Go.WideMaps Go.Maps Go.Proofs.YtpoblffgclmmlaaGreatDoorW.PrintWords Go.Proofs.YtpoblffgclmmlaaGreatDoorW.PrintLast Go.Proofs.YtpoblffgclmmlaaGreatDoorW.PrintMore Go.Proofs.YtpoblffgclmmlaaGreatDoor.Q

set_option maxHeartbeats 4000000 in
set_option maxRecDepth 100000 in
theorem savfam_says (x : Fam) (A : Option Addr) (c : Nat) (w : World) (hC : Kd.C Kd.string w A x.old.length x.old) (hc : x.old.length ≤ c) (hl : x.old.length ≤ 900000000000) (hs : (txs (famL x)).length ≤ 140737488355328) (hi : x.id.size ≤ 5000000000) (hGP : GP w) :
  Calls Tryz.prog 56 #[famV x A c] w fun e w' => e = .returned (.agg #[.string (fkey x.id), .string (famT x), .bool false]) ∧ Below w.heap.size w w' := by
 unfold famV
 go_enter Tryz.func56, Tryz.ntmps56
 go_upto_region 1 with (fail)
 have hx0 := heap_alloc_new w (.cells #[.string x.id, .string x.client, .string x.user, .string x.conn, .string x.sub, .string x.nonce, .string x.scope, .string x.claims, .string x.refresh, .string x.up, .slice A x.old.length c, .bool x.rev] 93)
 have hb0 : Below w.heap.size w (w.alloc (.cells #[.string x.id, .string x.client, .string x.user, .string x.conn, .string x.sub, .string x.nonce, .string x.scope, .string x.claims, .string x.refresh, .string x.up, .slice A x.old.length c, .bool x.rev] 93)) := (Below.refl _ w).alloc (Nat.le_refl _) _
 have hs0 : (w.alloc (.cells #[.string x.id, .string x.client, .string x.user, .string x.conn, .string x.sub, .string x.nonce, .string x.scope, .string x.claims, .string x.refresh, .string x.up, .slice A x.old.length c, .bool x.rev] 93)).heap.size = w.heap.size + 1 := by simp
 have hz1 := heap_alloc_new (w.alloc (.cells #[.string x.id, .string x.client, .string x.user, .string x.conn, .string x.sub, .string x.nonce, .string x.scope, .string x.claims, .string x.refresh, .string x.up, .slice A x.old.length c, .bool x.rev] 93)) (.cells #[.string ⟨#[]⟩, .string ⟨#[]⟩, .bool false] 69)
 have hb1 : Below (w.alloc (.cells #[.string x.id, .string x.client, .string x.user, .string x.conn, .string x.sub, .string x.nonce, .string x.scope, .string x.claims, .string x.refresh, .string x.up, .slice A x.old.length c, .bool x.rev] 93)).heap.size (w.alloc (.cells #[.string x.id, .string x.client, .string x.user, .string x.conn, .string x.sub, .string x.nonce, .string x.scope, .string x.claims, .string x.refresh, .string x.up, .slice A x.old.length c, .bool x.rev] 93)) ((w.alloc (.cells #[.string x.id, .string x.client, .string x.user, .string x.conn, .string x.sub, .string x.nonce, .string x.scope, .string x.claims, .string x.refresh, .string x.up, .slice A x.old.length c, .bool x.rev] 93)).alloc (.cells #[.string ⟨#[]⟩, .string ⟨#[]⟩, .bool false] 69)) := (Below.refl _ _).alloc (Nat.le_refl _) _
 have hx1 := blk_below hx0 hb1
 have hB1 := below_drew (below_then hb0 hb0.size hb1)
 rw [hs0] at hz1
 have hx1 := blk_drew hx1
 have hz1 := blk_drew hz1
 clear hb0 hb1 hx0 hs0
 have c0 : ((w.alloc (.cells #[.string x.id, .string x.client, .string x.user, .string x.conn, .string x.sub, .string x.nonce, .string x.scope, .string x.claims, .string x.refresh, .string x.up, .slice A x.old.length c, .bool x.rev] 93)).alloc (.cells #[.string ⟨#[]⟩, .string ⟨#[]⟩, .bool false] 69)).drew.cell? ⟨w.heap.size, 0, none⟩ = some (.string x.id) := (blk_cell hx1 0).trans rfl
 have c1 : ((w.alloc (.cells #[.string x.id, .string x.client, .string x.user, .string x.conn, .string x.sub, .string x.nonce, .string x.scope, .string x.claims, .string x.refresh, .string x.up, .slice A x.old.length c, .bool x.rev] 93)).alloc (.cells #[.string ⟨#[]⟩, .string ⟨#[]⟩, .bool false] 69)).drew.cell? ⟨w.heap.size, 1, none⟩ = some (.string x.client) := (blk_cell hx1 1).trans rfl
 have c2 : ((w.alloc (.cells #[.string x.id, .string x.client, .string x.user, .string x.conn, .string x.sub, .string x.nonce, .string x.scope, .string x.claims, .string x.refresh, .string x.up, .slice A x.old.length c, .bool x.rev] 93)).alloc (.cells #[.string ⟨#[]⟩, .string ⟨#[]⟩, .bool false] 69)).drew.cell? ⟨w.heap.size, 2, none⟩ = some (.string x.user) := (blk_cell hx1 2).trans rfl
 have c3 : ((w.alloc (.cells #[.string x.id, .string x.client, .string x.user, .string x.conn, .string x.sub, .string x.nonce, .string x.scope, .string x.claims, .string x.refresh, .string x.up, .slice A x.old.length c, .bool x.rev] 93)).alloc (.cells #[.string ⟨#[]⟩, .string ⟨#[]⟩, .bool false] 69)).drew.cell? ⟨w.heap.size, 3, none⟩ = some (.string x.conn) := (blk_cell hx1 3).trans rfl
 have c4 : ((w.alloc (.cells #[.string x.id, .string x.client, .string x.user, .string x.conn, .string x.sub, .string x.nonce, .string x.scope, .string x.claims, .string x.refresh, .string x.up, .slice A x.old.length c, .bool x.rev] 93)).alloc (.cells #[.string ⟨#[]⟩, .string ⟨#[]⟩, .bool false] 69)).drew.cell? ⟨w.heap.size, 4, none⟩ = some (.string x.sub) := (blk_cell hx1 4).trans rfl
 have c5 : ((w.alloc (.cells #[.string x.id, .string x.client, .string x.user, .string x.conn, .string x.sub, .string x.nonce, .string x.scope, .string x.claims, .string x.refresh, .string x.up, .slice A x.old.length c, .bool x.rev] 93)).alloc (.cells #[.string ⟨#[]⟩, .string ⟨#[]⟩, .bool false] 69)).drew.cell? ⟨w.heap.size, 5, none⟩ = some (.string x.nonce) := (blk_cell hx1 5).trans rfl
 have c6 : ((w.alloc (.cells #[.string x.id, .string x.client, .string x.user, .string x.conn, .string x.sub, .string x.nonce, .string x.scope, .string x.claims, .string x.refresh, .string x.up, .slice A x.old.length c, .bool x.rev] 93)).alloc (.cells #[.string ⟨#[]⟩, .string ⟨#[]⟩, .bool false] 69)).drew.cell? ⟨w.heap.size, 6, none⟩ = some (.string x.scope) := (blk_cell hx1 6).trans rfl
 have c7 : ((w.alloc (.cells #[.string x.id, .string x.client, .string x.user, .string x.conn, .string x.sub, .string x.nonce, .string x.scope, .string x.claims, .string x.refresh, .string x.up, .slice A x.old.length c, .bool x.rev] 93)).alloc (.cells #[.string ⟨#[]⟩, .string ⟨#[]⟩, .bool false] 69)).drew.cell? ⟨w.heap.size, 7, none⟩ = some (.string x.claims) := (blk_cell hx1 7).trans rfl
 have c8 : ((w.alloc (.cells #[.string x.id, .string x.client, .string x.user, .string x.conn, .string x.sub, .string x.nonce, .string x.scope, .string x.claims, .string x.refresh, .string x.up, .slice A x.old.length c, .bool x.rev] 93)).alloc (.cells #[.string ⟨#[]⟩, .string ⟨#[]⟩, .bool false] 69)).drew.cell? ⟨w.heap.size, 8, none⟩ = some (.string x.refresh) := (blk_cell hx1 8).trans rfl
 have c9 : ((w.alloc (.cells #[.string x.id, .string x.client, .string x.user, .string x.conn, .string x.sub, .string x.nonce, .string x.scope, .string x.claims, .string x.refresh, .string x.up, .slice A x.old.length c, .bool x.rev] 93)).alloc (.cells #[.string ⟨#[]⟩, .string ⟨#[]⟩, .bool false] 69)).drew.cell? ⟨w.heap.size, 9, none⟩ = some (.string x.up) := (blk_cell hx1 9).trans rfl
 have c10 : ((w.alloc (.cells #[.string x.id, .string x.client, .string x.user, .string x.conn, .string x.sub, .string x.nonce, .string x.scope, .string x.claims, .string x.refresh, .string x.up, .slice A x.old.length c, .bool x.rev] 93)).alloc (.cells #[.string ⟨#[]⟩, .string ⟨#[]⟩, .bool false] 69)).drew.cell? ⟨w.heap.size, 10, none⟩ = some (.slice A x.old.length c) := (blk_cell hx1 10).trans rfl
 have c11 : ((w.alloc (.cells #[.string x.id, .string x.client, .string x.user, .string x.conn, .string x.sub, .string x.nonce, .string x.scope, .string x.claims, .string x.refresh, .string x.up, .slice A x.old.length c, .bool x.rev] 93)).alloc (.cells #[.string ⟨#[]⟩, .string ⟨#[]⟩, .bool false] 69)).drew.cell? ⟨w.heap.size, 11, none⟩ = some (.bool x.rev) := (blk_cell hx1 11).trans rfl
 refine start_ (n := 7) (S := fun w' => w'.cell? ⟨w.heap.size, 0, none⟩ = some (.string x.id) ∧ w'.cell? ⟨w.heap.size, 1, none⟩ = some (.string x.client) ∧ w'.cell? ⟨w.heap.size, 2, none⟩ = some (.string x.user) ∧ w'.cell? ⟨w.heap.size, 3, none⟩ = some (.string x.conn) ∧ w'.cell? ⟨w.heap.size, 4, none⟩ = some (.string x.sub) ∧ w'.cell? ⟨w.heap.size, 5, none⟩ = some (.string x.nonce) ∧ w'.cell? ⟨w.heap.size, 6, none⟩ = some (.string x.scope) ∧ w'.cell? ⟨w.heap.size, 7, none⟩ = some (.string x.claims) ∧ w'.cell? ⟨w.heap.size, 8, none⟩ = some (.string x.refresh) ∧ w'.cell? ⟨w.heap.size, 9, none⟩ = some (.string x.up) ∧ w'.cell? ⟨w.heap.size, 10, none⟩ = some (.slice A x.old.length c) ∧ w'.cell? ⟨w.heap.size, 11, none⟩ = some (.bool x.rev)) (ds := [6]) #[false, false, false, false, false, false, false] (by kernel_rfl) rfl rfl ⟨c0, c1, c2, c3, c4, c5, c6, c7, c8, c9, c10, c11⟩ (fun hHeld => ?_)
 generalize ((w.alloc (.cells #[.string x.id, .string x.client, .string x.user, .string x.conn, .string x.sub, .string x.nonce, .string x.scope, .string x.claims, .string x.refresh, .string x.up, .slice A x.old.length c, .bool x.rev] 93)).alloc (.cells #[.string ⟨#[]⟩, .string ⟨#[]⟩, .bool false] 69)).drew = w2 at hB1 hx1 hz1 hHeld c0 c1 c2 c3 c4 c5 c6 c7 c8 c9 c10 c11 ⊢
 have hz2 := hz1
 have hfam := fun w3 (hb3 : Below w2.heap.size w2 w3) => family_says x A c w3 (Kd.C_below hC (below_then hB1 hB1.size hb3)) hc hl hs (hGP.below (below_then hB1 hB1.size hb3))
 simp only [famV] at hfam
 clear hx1 hz1
 refine pure_ (i := 0) (N := some 3) (v := ?_) (a' := ?_) #[true, false, false, false, false, false, false] rfl rfl (by kernel_rfl) (fun _ _ _ h => h) (Or.inl ⟨by rfl, ?_⟩) ?_ ?_
 rotate_left
 ·
  intro w'
  go_simp
  with_reducible rfl
 rotate_left
 ·
  simp only [Act.put, List.setIfInBounds_toArray, List.set_cons_zero, List.set_cons_succ, i64_w, i32_w]
  rfl
 refine take_ (i := 1) (N := some 4) (v := ?_) (a' := ?_) #[true, true, false, false, false, false, false] rfl rfl (by kernel_rfl) (fun _ _ _ h => h) (Or.inl ⟨by rfl, ?_⟩) hHeld ?_ ?_
 rotate_left
 ·
  rintro w' ⟨s0, s1, s2, s3, s4, s5, s6, s7, s8, s9, s10, s11⟩
  go_simp
  with_reducible rfl
 rotate_left
 ·
  simp only [Act.put, List.setIfInBounds_toArray, List.set_cons_zero, List.set_cons_succ, i64_w, i32_w]
  rfl
 refine take_ (i := 3) (N := some 6) (v := ?_) (a' := ?_) #[true, true, false, true, false, false, false] rfl rfl (by kernel_rfl) (fun _ _ _ h => h) (Or.inl ⟨by rfl, ?_⟩) hHeld ?_ ?_
 rotate_left
 ·
  rintro w' ⟨s0, s1, s2, s3, s4, s5, s6, s7, s8, s9, s10, s11⟩
  go_simp
  with_reducible rfl
 rotate_left
 ·
  simp only [Act.put, List.setIfInBounds_toArray, List.set_cons_zero, List.set_cons_succ, i64_w, i32_w]
  rfl
 refine one_ (i := 2) (N := some 5) #[true, true, true, true, false, false, false] rfl rfl (by kernel_rfl) (by decide) (fun K hK => ?_)
 refine goes_ Tryz.func73 (by kernel_rfl) rfl #[.string x.id] (by rfl) rfl rfl (by first | (simp only [List.map_toArray, List.map_cons, List.map_nil]; done) | (simp only [List.map_toArray, List.map_cons, List.map_nil]; rfl)) ?_
 refine (fkey_says x.id hi _).mono ?_
 rintro e w3 ⟨rfl, hb3⟩
 refine ⟨_, rfl, ?_⟩
 refine hK.out _ _ ⟨cellL hb3 c0, cellL hb3 c1, cellL hb3 c2, cellL hb3 c3, cellL hb3 c4, cellL hb3 c5, cellL hb3 c6, cellL hb3 c7, cellL hb3 c8, cellL hb3 c9, cellL hb3 c10, cellL hb3 c11⟩ (fun hHeld => ?_)
 clear hK K
 refine norm_ (a' := ?_) ?_ ?_
 rotate_left
 ·
  show Act.put _ (some 5) _ = _
  simp only [Act.put, List.setIfInBounds_toArray, List.set_cons_zero, List.set_cons_succ, i64_w, i32_w]
  rfl
 refine one_ (i := 4) (N := some 7) #[true, true, true, true, true, false, false] rfl rfl (by kernel_rfl) (by decide) (fun K hK => ?_)
 refine goes_ Tryz.func111 (by kernel_rfl) rfl #[.agg #[.string x.id, .string x.client, .string x.user, .string x.conn, .string x.sub, .string x.nonce, .string x.scope, .string x.claims, .string x.refresh, .string x.up, .slice A x.old.length c, .bool x.rev]] (by rfl) rfl rfl (by first | (simp only [List.map_toArray, List.map_cons, List.map_nil]; done) | (simp only [List.map_toArray, List.map_cons, List.map_nil]; rfl)) ?_
 refine (hfam w3 hb3).mono ?_
 rintro e w4 ⟨rfl, hb4⟩
 have hb34 := below_then hb3 hb3.size hb4
 have hz4 := blk_below hz2 hb34
 have z0 := blk_cell hz4 0
 have g0 := blk_frozen hz4 0
 have z1 := blk_cell hz4 1
 have g1 := blk_frozen hz4 1
 have z2 := blk_cell hz4 2
 have g2 := blk_frozen hz4 2
 refine ⟨_, rfl, ?_⟩
 refine hK.out _ _ ⟨cellL hb34 c0, cellL hb34 c1, cellL hb34 c2, cellL hb34 c3, cellL hb34 c4, cellL hb34 c5, cellL hb34 c6, cellL hb34 c7, cellL hb34 c8, cellL hb34 c9, cellL hb34 c10, cellL hb34 c11⟩ (fun hHeld => ?_)
 clear hK K
 refine norm_ (a' := ?_) ?_ ?_
 rotate_left
 ·
  show Act.put _ (some 7) _ = _
  simp only [Act.put, List.setIfInBounds_toArray, List.set_cons_zero, List.set_cons_succ, i64_w, i32_w]
  rfl
 refine pure_ (i := 5) (N := some 8) (v := ?_) (a' := ?_) #[true, true, true, true, true, true, false] rfl rfl (by kernel_rfl) (fun _ _ _ h => h) (Or.inl ⟨by rfl, ?_⟩) ?_ ?_
 rotate_left
 ·
  intro w'
  go_simp
  with_reducible rfl
 rotate_left
 ·
  simp only [Act.put, List.setIfInBounds_toArray, List.set_cons_zero, List.set_cons_succ, i64_w, i32_w]
  rfl
 refine last_ (i := 6) (N := none) #[true, true, true, true, true, true, true] rfl rfl (by kernel_rfl) (by decide) (fun K hK => ?_)
 refine skip_ (w1 := ?_) (by rfl) rfl ?_ ?_
 rotate_left
 ·
  go_simp
  rfl
 refine hK.out _ _ ?_
 clear hK K
 refine done_ (by kernel_rfl) ?_
 have hB4 := below_then hB1 hB1.size hb34
 go_wp2_with fail
 refine bodyPost_ret (results_cell_row rfl _ _ (w.heap.size + 1) 69 #[.string (fkey x.id), .string (famT x), .bool false] (0, 0) _ rfl (by
  refine blk_put (cs := #[.string (fkey x.id), .string (famT x), .bool false]) ?_ 2 _ rfl
  refine blk_put (cs := #[.string (fkey x.id), .string ⟨#[]⟩, .bool false]) ?_ 1 _ rfl
  refine blk_put (cs := #[.string ⟨#[]⟩, .string ⟨#[]⟩, .bool false]) ?_ 0 _ rfl
  exact hz4) Tryz.underlying69 rfl (by kernel_rfl)) rfl ?_
 refine ⟨rfl, ?_⟩
 iterate 3 (with_reducible refine below_set ?_ (by omega))
 exact hB4
end Go.Proofs.YtpoblffgclmmlaaGreatDoor.X
end
