/- A part of the proof of a card: what some functions of the program come to, each under the conditions that its theorem names. -/
import Derived.Deep.RegionHeld3
import Derived.Test.YtpoblffgclmmlaaGreatDoorPkPk8
import Derived.Test.YtpoblffgclmmlaaGreatDoorPkPk11
import Derived.Test.YtpoblffgclmmlaaGreatDoorPkPk17
import Derived.Test.YtpoblffgclmmlaaGreatDoorPkPk19
import Derived.Test.YtpoblffgclmmlaaGreatDoorPkPk21
section
set_option linter.unusedVariables false
set_option linter.unusedSimpArgs false
namespace Go.Proofs.YtpoblffgclmmlaaGreatDoor.X
open Go.RowKit Go.WideMaps Go.Maps Go.Proofs.YtpoblffgclmmlaaGreatDoorW.PrintWords Go.Proofs.YtpoblffgclmmlaaGreatDoorW.PrintLast Go.Proofs.YtpoblffgclmmlaaGreatDoorW.PrintMore Go.Proofs.YtpoblffgclmmlaaGreatDoor.Q

theorem numL_some {s : ByteArray} {v : Int} (h : numL s = (v, true)) : numB s = some v := by
 unfold numL at h
 unfold numB
 cases ha : Lib.atoiAll s.data.toList with
 | ok u =>
  rw [ha] at h
  obtain ⟨h1, h2⟩ := Prod.mk.inj h
  subst h1
  have e := beq_iff_eq.1 h2
  rw [ByteArray.toList_eq] at e
  exact if_pos e
 | range => rw [ha] at h; cases (Prod.mk.inj h).2
 | _ => rw [ha] at h; cases (Prod.mk.inj h).2
theorem numL_false {s : ByteArray} {v : Int} (h : numL s = (v, false)) : numB s = none := by
 unfold numL at h
 unfold numB
 cases ha : Lib.atoiAll s.data.toList with
 | ok u =>
  rw [ha] at h
  obtain ⟨h1, h2⟩ := Prod.mk.inj h
  subst h1
  have e := beq_eq_false_iff_ne.1 h2
  rw [ByteArray.toList_eq] at e
  exact if_neg e
 | range => rfl
 | _ => rfl
def fldR (v : ByteArray) (n : Int) : List ByteArray × Bool := if (splR v).2 = 0 then ((splR v).1, decide (((splR v).1.length : Int) ≥ n)) else ((splR v).1, false)
theorem fldR_f (v : ByteArray) (n : Int) (hv : v.size ≤ 4294967280) : row_fields.f v n = some (fldR v n) := by
 unfold row_fields.f row_Split.f fldR
 rw [if_pos hv, Option.bind_some]
 split <;> rfl
theorem fldR_none {v : ByteArray} {n : Int} (h : unTx v = none) : fldR v n = ([], false) := by
 unfold fldR splR; rw [h]; rfl
theorem fldR_some {v : ByteArray} {l : List ByteArray} {n : Int} (h : unTx v = some l) : fldR v n = (l, decide ((l.length : Int) ≥ n)) := by
 unfold fldR splR; rw [h]; rfl
theorem fields_says (v : ByteArray) (n : Int) (hv : v.size ≤ 4294967280) (w : World) (hGP : GP w) (hGE : GE w) :
  Calls Tryz.prog 146 #[.string v, .int .i64 n] w fun e w' => ∃ v0_ : Value, e = .returned (.tuple #[v0_, .bool (fldR v n).2]) ∧ Kd.R Kd.string 9 w' w.heap.size (fun _ => True) v0_ (fldR v n).1 ∧ Below w.heap.size w w' :=
 row_fields.calls v n _ _ w (fldR_f v n hv) hGP hGE
theorem rnumber_says (s : ByteArray) (hs : s.size ≤ 281474976710656) (w : World) (hGP : GP w) (hGE : GE w) :
  Calls Tryz.prog 147 #[.string s] w fun e w' => e = .returned (.tuple #[.int .i64 (numL s).1, .bool (numL s).2]) ∧ Below w.heap.size w w' :=
 row_number.calls s _ _ w (by unfold row_number.f; rw [if_pos hs]) hGP hGE

theorem cellL {w w1 : World} {a : Addr} {v : Value} (hb : Below w.heap.size w w1) (h : w.cell? a = some v) : w1.cell? a = some v := (hb.cell (World.block_lt_of_cell? _ _ h)).trans h
theorem readS_len {v : ByteArray} {l : List ByteArray} (h : unTx v = some l) (hl : l.length ≠ 12) : readS v = none := by
 unfold readS
 rw [h, Option.bind_some]
 unfold sesOf
 split
 ·
  exact absurd rfl hl
 ·
  rfl
theorem readS_nil {v : ByteArray} (h : unTx v = none) : readS v = none := by
 unfold readS; rw [h]; rfl

theorem readS_bad {v : ByteArray} {s0 s1 s2 s3 s4 s5 s6 s7 s8 s9 s10 s11 : ByteArray} {rest : List ByteArray} (h : unTx v = some (s0 :: s1 :: s2 :: s3 :: s4 :: s5 :: s6 :: s7 :: s8 :: s9 :: s10 :: s11 :: rest)) (hb : numB s7 = none ∨ numB s11 = none) : readS v = none := by
 cases hr : readS v with
 | none => rfl
 | some y =>
  obtain ⟨e, h1, h2⟩ := readS_some hr
  have e2 : sesL y = s0 :: s1 :: s2 :: s3 :: s4 :: s5 :: s6 :: s7 :: s8 :: s9 :: s10 :: s11 :: rest := txs_inj ((congrArg (fun b : ByteArray => b.data.toList) e).trans ((unTx_iff v _).1 h).symm)
  unfold sesL at e2
  simp only [List.cons.injEq] at e2
  obtain ⟨-, -, -, -, -, -, -, e7, -, -, -, e11, -⟩ := e2
  rw [← e7, ← e11, numB_it h1, numB_it h2] at hb
  rcases hb with h | h <;> cases h
theorem readS_if {v : ByteArray} {s0 s1 s2 s3 s4 s5 s6 s7 s8 s9 s10 s11 : ByteArray} {rest : List ByteArray} {p q : Int} (h : unTx v = some (s0 :: s1 :: s2 :: s3 :: s4 :: s5 :: s6 :: s7 :: s8 :: s9 :: s10 :: s11 :: rest)) (hp : numL s7 = (p, true)) (hq : numL s11 = (q, true)) :
  readS v = if sesT (⟨s0, s1, s2, s3, s4, s5, s6, p, s8, s9, s10, q⟩ : Ses) = v then some (⟨s0, s1, s2, s3, s4, s5, s6, p, s8, s9, s10, q⟩ : Ses) else none := by
 have hpI := (numB_some (numL_some hp)).2
 have hqI := (numB_some (numL_some hq)).2
 split
 ·
  rename_i e
  rw [← e]; exact readS_of _ hpI hqI
 ·
  rename_i hne
  cases hr : readS v with
  | none => rfl
  | some y =>
   obtain ⟨e, h1, h2⟩ := readS_some hr
   have e2 : sesL y = s0 :: s1 :: s2 :: s3 :: s4 :: s5 :: s6 :: s7 :: s8 :: s9 :: s10 :: s11 :: rest := txs_inj ((congrArg (fun b : ByteArray => b.data.toList) e).trans ((unTx_iff v _).1 h).symm)
   unfold sesL at e2
   simp only [List.cons.injEq] at e2
   obtain ⟨e0, e1, e2, e3, e4, e5, e6, e7, e8, e9, e10, e11, -⟩ := e2
   have f7 : y.stage = p := by have := numB_it h1; rw [e7, numL_some hp] at this; exact (Option.some.inj this).symm
   have f11 : y.ends = q := by have := numB_it h2; rw [e11, numL_some hq] at this; exact (Option.some.inj this).symm
   refine absurd ?_ hne
   rw [← e]
   congr 1
   subst e0 e1 e2 e3 e4 e5 e6 e8 e9 e10 f7 f11
   rfl

theorem itB_size {v : Int} (h : I64 v) : (itB v).size ≤ 21 := by
 unfold I64 at h
 have h1 : (itB v).size = (Lib.itoa v).length := by show (List.toArray _).size = _; simp
 rw [h1]
 unfold Lib.itoa
 split
 ·
  have := dd_len20 v.natAbs (by omega)
  unfold dd at this
  simp only [List.length_cons]
  omega
 ·
  have := dd_len20 v.toNat (by omega)
  unfold dd at this
  omega
theorem txsLen (l : List ByteArray) (h : ∀ x ∈ l, x.size < 18446744073709551616) : (txs l).length ≤ 21 * l.length + (l.map fun x => x.size).sum := by
 induction l with
 | nil => simp [txs]
 | cons s l ih =>
  have h1 := dd_len20 s.size (h s (List.mem_cons_self ..))
  have h2 := ih (fun x hx => h x (List.mem_cons_of_mem _ hx))
  rw [txs_cons]
  simp only [List.length_append, List.length_cons, Array.length_toList, ByteArray.size_data, List.map_cons, List.sum_cons]
  omega
theorem sesL_len (x : Ses) (h1 : I64 x.stage) (h2 : I64 x.ends) (n : Nat) (hn : n ≤ 5000000000) (h : x.cookie.size ≤ n ∧ x.client.size ≤ n ∧ x.redirect.size ≤ n ∧ x.state.size ≤ n ∧ x.nonce.size ≤ n ∧ x.scope.size ≤ n ∧ x.challenge.size ≤ n ∧ x.conn.size ≤ n ∧ x.upState.size ≤ n ∧ x.upNonce.size ≤ n) :
  (txs (sesL x)).length ≤ 294 + 10 * n := by
 have b1 := itB_size h1
 have b2 := itB_size h2
 have := txsLen (sesL x) (by
  intro y hy
  unfold sesL at hy
  simp only [List.mem_cons, List.not_mem_nil, or_false] at hy
  rcases hy with e | e | e | e | e | e | e | e | e | e | e | e <;> subst e <;> omega)
 unfold sesL at this ⊢
 simp only [List.map_cons, List.map_nil, List.sum_cons, List.sum_nil, List.length_cons, List.length_nil] at this
 omega

def sesE (o : Option Ses) : Int := if o.isSome = true then 0 else 2
def sesV (x : Ses) : Value := .agg #[.string x.cookie, .string x.client, .string x.redirect, .string x.state, .string x.nonce, .string x.scope, .string x.challenge, .int .i64 x.stage, .string x.conn, .string x.upState, .string x.upNonce, .int .i64 x.ends]
theorem row12 {w : World} {A : Option Addr} {s0 s1 s2 s3 s4 s5 s6 s7 s8 s9 s10 s11 : ByteArray} {rest : List ByteArray} {n : Nat} (hn : n = (s0 :: s1 :: s2 :: s3 :: s4 :: s5 :: s6 :: s7 :: s8 :: s9 :: s10 :: s11 :: rest).length) (h : Kd.C Kd.string w A n (s0 :: s1 :: s2 :: s3 :: s4 :: s5 :: s6 :: s7 :: s8 :: s9 :: s10 :: s11 :: rest)) :
  ∃ ad : Addr, A = some ad ∧ w.cell? ad = some (.string s0) ∧ w.cell? ⟨ad.block, ad.off + 1, none⟩ = some (.string s1) ∧ w.cell? ⟨ad.block, ad.off + 2, none⟩ = some (.string s2) ∧ w.cell? ⟨ad.block, ad.off + 3, none⟩ = some (.string s3) ∧ w.cell? ⟨ad.block, ad.off + 4, none⟩ = some (.string s4) ∧ w.cell? ⟨ad.block, ad.off + 5, none⟩ = some (.string s5) ∧ w.cell? ⟨ad.block, ad.off + 6, none⟩ = some (.string s6) ∧ w.cell? ⟨ad.block, ad.off + 7, none⟩ = some (.string s7) ∧ w.cell? ⟨ad.block, ad.off + 8, none⟩ = some (.string s8) ∧ w.cell? ⟨ad.block, ad.off + 9, none⟩ = some (.string s9) ∧ w.cell? ⟨ad.block, ad.off + 10, none⟩ = some (.string s10) ∧ w.cell? ⟨ad.block, ad.off + 11, none⟩ = some (.string s11) := by
 subst hn
 obtain ⟨ad, rfl, h0⟩ := Kd.at_string h 0 (by omega) (by simp only [List.length_cons]; omega)
 refine ⟨ad, rfl, ?_, ?_, ?_, ?_, ?_, ?_, ?_, ?_, ?_, ?_, ?_, ?_⟩
 ·
  obtain ⟨ad', e, h1⟩ := Kd.at_string h 0 (by omega) (by simp only [List.length_cons]; omega)
  cases e; exact h1
 ·
  obtain ⟨ad', e, h1⟩ := Kd.at_string h 1 (by omega) (by simp only [List.length_cons]; omega)
  cases e; exact h1
 ·
  obtain ⟨ad', e, h1⟩ := Kd.at_string h 2 (by omega) (by simp only [List.length_cons]; omega)
  cases e; exact h1
 ·
  obtain ⟨ad', e, h1⟩ := Kd.at_string h 3 (by omega) (by simp only [List.length_cons]; omega)
  cases e; exact h1
 ·
  obtain ⟨ad', e, h1⟩ := Kd.at_string h 4 (by omega) (by simp only [List.length_cons]; omega)
  cases e; exact h1
 ·
  obtain ⟨ad', e, h1⟩ := Kd.at_string h 5 (by omega) (by simp only [List.length_cons]; omega)
  cases e; exact h1
 ·
  obtain ⟨ad', e, h1⟩ := Kd.at_string h 6 (by omega) (by simp only [List.length_cons]; omega)
  cases e; exact h1
 ·
  obtain ⟨ad', e, h1⟩ := Kd.at_string h 7 (by omega) (by simp only [List.length_cons]; omega)
  cases e; exact h1
 ·
  obtain ⟨ad', e, h1⟩ := Kd.at_string h 8 (by omega) (by simp only [List.length_cons]; omega)
  cases e; exact h1
 ·
  obtain ⟨ad', e, h1⟩ := Kd.at_string h 9 (by omega) (by simp only [List.length_cons]; omega)
  cases e; exact h1
 ·
  obtain ⟨ad', e, h1⟩ := Kd.at_string h 10 (by omega) (by simp only [List.length_cons]; omega)
  cases e; exact h1
 ·
  obtain ⟨ad', e, h1⟩ := Kd.at_string h 11 (by omega) (by simp only [List.length_cons]; omega)
  cases e; exact h1

theorem session_says (x : Ses) (h1 : I64 x.stage) (h2 : I64 x.ends) (hl : (txs (sesL x)).length ≤ 140737488355328) (w : World) (hGP : GP w) :
  Calls Tryz.prog 103 #[sesV x] w fun e w' => e = .returned (.string (sesT x)) ∧ Below w.heap.size w w' :=
 row_Session.calls x.cookie x.client x.redirect x.state x.nonce x.scope x.challenge x.stage x.conn x.upState x.upNonce x.ends _ w (by
  unfold I64 at h1 h2
  unfold row_Session.f strconv_Itoa_143.f row_Texts.f
  rw [if_pos (by omega), Option.bind_some, if_pos (by omega), Option.bind_some]
  show (Option.bind (if (txs (sesL x)).length ≤ 140737488355328 then some (sesT x) else none) fun t => some t) = some (sesT x)
  rw [if_pos hl]
  rfl) hGP

set_option maxHeartbeats 2000000 in
theorem rses_says (v : ByteArray) (hv : v.size ≤ 4294967280) (w : World) (hGP : GP w) (hGE : GE w) :
  Calls Tryz.prog 104 #[.string v] w fun e w' => e = .returned (.tuple #[sesV ((readS v).getD sesZ), .int .i64 (sesE (readS v))]) ∧ Below w.heap.size w w' := by
 have hB0 : Below w.heap.size w (w.alloc (.cells #[.string ⟨#[]⟩, .string ⟨#[]⟩, .string ⟨#[]⟩, .string ⟨#[]⟩, .string ⟨#[]⟩, .string ⟨#[]⟩, .string ⟨#[]⟩, .int .i64 0, .string ⟨#[]⟩, .string ⟨#[]⟩, .string ⟨#[]⟩, .int .i64 0] 72)) := (Below.refl _ w).alloc (Nat.le_refl _) _
 have hf := fun w1 (hb : Below w.heap.size w w1) => fields_says v 12 hv w1 (hGP.below hb) (hGE.below hb)
 have hz := heap_alloc_new w (.cells #[.string ⟨#[]⟩, .string ⟨#[]⟩, .string ⟨#[]⟩, .string ⟨#[]⟩, .string ⟨#[]⟩, .string ⟨#[]⟩, .string ⟨#[]⟩, .int .i64 0, .string ⟨#[]⟩, .string ⟨#[]⟩, .string ⟨#[]⟩, .int .i64 0] 72)
 cases hU : unTx v with
 | none =>
  rw [readS_nil hU]
  rw [fldR_none hU] at hf
  go_enter Tryz.func104, Tryz.ntmps104
  go_wp2_with fail
  refine (hf _ hB0).mono ?_
  rintro e w1 ⟨v1, rfl, hr1, hb1⟩
  have hB1 := below_then hB0 hB0.size hb1
  have hz1 := blk_below hz hb1
  have c0 := blk_cell hz1 0
  have f0 := blk_frozen hz1 0
  have c1 := blk_cell hz1 1
  have f1 := blk_frozen hz1 1
  have c2 := blk_cell hz1 2
  have f2 := blk_frozen hz1 2
  have c3 := blk_cell hz1 3
  have f3 := blk_frozen hz1 3
  have c4 := blk_cell hz1 4
  have f4 := blk_frozen hz1 4
  have c5 := blk_cell hz1 5
  have f5 := blk_frozen hz1 5
  have c6 := blk_cell hz1 6
  have f6 := blk_frozen hz1 6
  have c7 := blk_cell hz1 7
  have f7 := blk_frozen hz1 7
  have c8 := blk_cell hz1 8
  have f8 := blk_frozen hz1 8
  have c9 := blk_cell hz1 9
  have f9 := blk_frozen hz1 9
  have c10 := blk_cell hz1 10
  have f10 := blk_frozen hz1 10
  have c11 := blk_cell hz1 11
  have f11 := blk_frozen hz1 11
  go_wp2_with fail
  refine bodyPost_ret (results_ct rfl _ _ w.heap.size 72 #[.string ⟨#[]⟩, .string ⟨#[]⟩, .string ⟨#[]⟩, .string ⟨#[]⟩, .string ⟨#[]⟩, .string ⟨#[]⟩, .string ⟨#[]⟩, .int .i64 0, .string ⟨#[]⟩, .string ⟨#[]⟩, .string ⟨#[]⟩, .int .i64 0] (0, 0) _ rfl (by
   refine blk_put (cs := #[.string ⟨#[]⟩, .string ⟨#[]⟩, .string ⟨#[]⟩, .string ⟨#[]⟩, .string ⟨#[]⟩, .string ⟨#[]⟩, .string ⟨#[]⟩, .int .i64 0, .string ⟨#[]⟩, .string ⟨#[]⟩, .string ⟨#[]⟩, .int .i64 0]) ?_ 11 _ rfl
   refine blk_put (cs := #[.string ⟨#[]⟩, .string ⟨#[]⟩, .string ⟨#[]⟩, .string ⟨#[]⟩, .string ⟨#[]⟩, .string ⟨#[]⟩, .string ⟨#[]⟩, .int .i64 0, .string ⟨#[]⟩, .string ⟨#[]⟩, .string ⟨#[]⟩, .int .i64 0]) ?_ 10 _ rfl
   refine blk_put (cs := #[.string ⟨#[]⟩, .string ⟨#[]⟩, .string ⟨#[]⟩, .string ⟨#[]⟩, .string ⟨#[]⟩, .string ⟨#[]⟩, .string ⟨#[]⟩, .int .i64 0, .string ⟨#[]⟩, .string ⟨#[]⟩, .string ⟨#[]⟩, .int .i64 0]) ?_ 9 _ rfl
   refine blk_put (cs := #[.string ⟨#[]⟩, .string ⟨#[]⟩, .string ⟨#[]⟩, .string ⟨#[]⟩, .string ⟨#[]⟩, .string ⟨#[]⟩, .string ⟨#[]⟩, .int .i64 0, .string ⟨#[]⟩, .string ⟨#[]⟩, .string ⟨#[]⟩, .int .i64 0]) ?_ 8 _ rfl
   refine blk_put (cs := #[.string ⟨#[]⟩, .string ⟨#[]⟩, .string ⟨#[]⟩, .string ⟨#[]⟩, .string ⟨#[]⟩, .string ⟨#[]⟩, .string ⟨#[]⟩, .int .i64 0, .string ⟨#[]⟩, .string ⟨#[]⟩, .string ⟨#[]⟩, .int .i64 0]) ?_ 7 _ rfl
   refine blk_put (cs := #[.string ⟨#[]⟩, .string ⟨#[]⟩, .string ⟨#[]⟩, .string ⟨#[]⟩, .string ⟨#[]⟩, .string ⟨#[]⟩, .string ⟨#[]⟩, .int .i64 0, .string ⟨#[]⟩, .string ⟨#[]⟩, .string ⟨#[]⟩, .int .i64 0]) ?_ 6 _ rfl
   refine blk_put (cs := #[.string ⟨#[]⟩, .string ⟨#[]⟩, .string ⟨#[]⟩, .string ⟨#[]⟩, .string ⟨#[]⟩, .string ⟨#[]⟩, .string ⟨#[]⟩, .int .i64 0, .string ⟨#[]⟩, .string ⟨#[]⟩, .string ⟨#[]⟩, .int .i64 0]) ?_ 5 _ rfl
   refine blk_put (cs := #[.string ⟨#[]⟩, .string ⟨#[]⟩, .string ⟨#[]⟩, .string ⟨#[]⟩, .string ⟨#[]⟩, .string ⟨#[]⟩, .string ⟨#[]⟩, .int .i64 0, .string ⟨#[]⟩, .string ⟨#[]⟩, .string ⟨#[]⟩, .int .i64 0]) ?_ 4 _ rfl
   refine blk_put (cs := #[.string ⟨#[]⟩, .string ⟨#[]⟩, .string ⟨#[]⟩, .string ⟨#[]⟩, .string ⟨#[]⟩, .string ⟨#[]⟩, .string ⟨#[]⟩, .int .i64 0, .string ⟨#[]⟩, .string ⟨#[]⟩, .string ⟨#[]⟩, .int .i64 0]) ?_ 3 _ rfl
   refine blk_put (cs := #[.string ⟨#[]⟩, .string ⟨#[]⟩, .string ⟨#[]⟩, .string ⟨#[]⟩, .string ⟨#[]⟩, .string ⟨#[]⟩, .string ⟨#[]⟩, .int .i64 0, .string ⟨#[]⟩, .string ⟨#[]⟩, .string ⟨#[]⟩, .int .i64 0]) ?_ 2 _ rfl
   refine blk_put (cs := #[.string ⟨#[]⟩, .string ⟨#[]⟩, .string ⟨#[]⟩, .string ⟨#[]⟩, .string ⟨#[]⟩, .string ⟨#[]⟩, .string ⟨#[]⟩, .int .i64 0, .string ⟨#[]⟩, .string ⟨#[]⟩, .string ⟨#[]⟩, .int .i64 0]) ?_ 1 _ rfl
   refine blk_put (cs := #[.string ⟨#[]⟩, .string ⟨#[]⟩, .string ⟨#[]⟩, .string ⟨#[]⟩, .string ⟨#[]⟩, .string ⟨#[]⟩, .string ⟨#[]⟩, .int .i64 0, .string ⟨#[]⟩, .string ⟨#[]⟩, .string ⟨#[]⟩, .int .i64 0]) ?_ 0 _ rfl
   exact hz1) Tryz.underlying72 rfl (by kernel_rfl)) rfl ?_
  refine ⟨rfl, ?_⟩
  iterate 12 (with_reducible refine below_set ?_ (Nat.le_refl _))
  with_reducible exact hB1
 | some l =>
  by_cases h12 : l.length < 12
  ·
   rw [readS_len hU (by omega)]
   rw [fldR_some hU, decide_eq_false (show ¬ ((l.length : Int) ≥ 12) by omega)] at hf
   go_enter Tryz.func104, Tryz.ntmps104
   go_wp2_with fail
   refine (hf _ hB0).mono ?_
   rintro e w1 ⟨v1, rfl, hr1, hb1⟩
   have hB1 := below_then hB0 hB0.size hb1
   have hz1 := blk_below hz hb1
   have c0 := blk_cell hz1 0
   have f0 := blk_frozen hz1 0
   have c1 := blk_cell hz1 1
   have f1 := blk_frozen hz1 1
   have c2 := blk_cell hz1 2
   have f2 := blk_frozen hz1 2
   have c3 := blk_cell hz1 3
   have f3 := blk_frozen hz1 3
   have c4 := blk_cell hz1 4
   have f4 := blk_frozen hz1 4
   have c5 := blk_cell hz1 5
   have f5 := blk_frozen hz1 5
   have c6 := blk_cell hz1 6
   have f6 := blk_frozen hz1 6
   have c7 := blk_cell hz1 7
   have f7 := blk_frozen hz1 7
   have c8 := blk_cell hz1 8
   have f8 := blk_frozen hz1 8
   have c9 := blk_cell hz1 9
   have f9 := blk_frozen hz1 9
   have c10 := blk_cell hz1 10
   have f10 := blk_frozen hz1 10
   have c11 := blk_cell hz1 11
   have f11 := blk_frozen hz1 11
   go_wp2_with fail
   refine bodyPost_ret (results_ct rfl _ _ w.heap.size 72 #[.string ⟨#[]⟩, .string ⟨#[]⟩, .string ⟨#[]⟩, .string ⟨#[]⟩, .string ⟨#[]⟩, .string ⟨#[]⟩, .string ⟨#[]⟩, .int .i64 0, .string ⟨#[]⟩, .string ⟨#[]⟩, .string ⟨#[]⟩, .int .i64 0] (0, 0) _ rfl (by
    refine blk_put (cs := #[.string ⟨#[]⟩, .string ⟨#[]⟩, .string ⟨#[]⟩, .string ⟨#[]⟩, .string ⟨#[]⟩, .string ⟨#[]⟩, .string ⟨#[]⟩, .int .i64 0, .string ⟨#[]⟩, .string ⟨#[]⟩, .string ⟨#[]⟩, .int .i64 0]) ?_ 11 _ rfl
    refine blk_put (cs := #[.string ⟨#[]⟩, .string ⟨#[]⟩, .string ⟨#[]⟩, .string ⟨#[]⟩, .string ⟨#[]⟩, .string ⟨#[]⟩, .string ⟨#[]⟩, .int .i64 0, .string ⟨#[]⟩, .string ⟨#[]⟩, .string ⟨#[]⟩, .int .i64 0]) ?_ 10 _ rfl
    refine blk_put (cs := #[.string ⟨#[]⟩, .string ⟨#[]⟩, .string ⟨#[]⟩, .string ⟨#[]⟩, .string ⟨#[]⟩, .string ⟨#[]⟩, .string ⟨#[]⟩, .int .i64 0, .string ⟨#[]⟩, .string ⟨#[]⟩, .string ⟨#[]⟩, .int .i64 0]) ?_ 9 _ rfl
    refine blk_put (cs := #[.string ⟨#[]⟩, .string ⟨#[]⟩, .string ⟨#[]⟩, .string ⟨#[]⟩, .string ⟨#[]⟩, .string ⟨#[]⟩, .string ⟨#[]⟩, .int .i64 0, .string ⟨#[]⟩, .string ⟨#[]⟩, .string ⟨#[]⟩, .int .i64 0]) ?_ 8 _ rfl
    refine blk_put (cs := #[.string ⟨#[]⟩, .string ⟨#[]⟩, .string ⟨#[]⟩, .string ⟨#[]⟩, .string ⟨#[]⟩, .string ⟨#[]⟩, .string ⟨#[]⟩, .int .i64 0, .string ⟨#[]⟩, .string ⟨#[]⟩, .string ⟨#[]⟩, .int .i64 0]) ?_ 7 _ rfl
    refine blk_put (cs := #[.string ⟨#[]⟩, .string ⟨#[]⟩, .string ⟨#[]⟩, .string ⟨#[]⟩, .string ⟨#[]⟩, .string ⟨#[]⟩, .string ⟨#[]⟩, .int .i64 0, .string ⟨#[]⟩, .string ⟨#[]⟩, .string ⟨#[]⟩, .int .i64 0]) ?_ 6 _ rfl
    refine blk_put (cs := #[.string ⟨#[]⟩, .string ⟨#[]⟩, .string ⟨#[]⟩, .string ⟨#[]⟩, .string ⟨#[]⟩, .string ⟨#[]⟩, .string ⟨#[]⟩, .int .i64 0, .string ⟨#[]⟩, .string ⟨#[]⟩, .string ⟨#[]⟩, .int .i64 0]) ?_ 5 _ rfl
    refine blk_put (cs := #[.string ⟨#[]⟩, .string ⟨#[]⟩, .string ⟨#[]⟩, .string ⟨#[]⟩, .string ⟨#[]⟩, .string ⟨#[]⟩, .string ⟨#[]⟩, .int .i64 0, .string ⟨#[]⟩, .string ⟨#[]⟩, .string ⟨#[]⟩, .int .i64 0]) ?_ 4 _ rfl
    refine blk_put (cs := #[.string ⟨#[]⟩, .string ⟨#[]⟩, .string ⟨#[]⟩, .string ⟨#[]⟩, .string ⟨#[]⟩, .string ⟨#[]⟩, .string ⟨#[]⟩, .int .i64 0, .string ⟨#[]⟩, .string ⟨#[]⟩, .string ⟨#[]⟩, .int .i64 0]) ?_ 3 _ rfl
    refine blk_put (cs := #[.string ⟨#[]⟩, .string ⟨#[]⟩, .string ⟨#[]⟩, .string ⟨#[]⟩, .string ⟨#[]⟩, .string ⟨#[]⟩, .string ⟨#[]⟩, .int .i64 0, .string ⟨#[]⟩, .string ⟨#[]⟩, .string ⟨#[]⟩, .int .i64 0]) ?_ 2 _ rfl
    refine blk_put (cs := #[.string ⟨#[]⟩, .string ⟨#[]⟩, .string ⟨#[]⟩, .string ⟨#[]⟩, .string ⟨#[]⟩, .string ⟨#[]⟩, .string ⟨#[]⟩, .int .i64 0, .string ⟨#[]⟩, .string ⟨#[]⟩, .string ⟨#[]⟩, .int .i64 0]) ?_ 1 _ rfl
    refine blk_put (cs := #[.string ⟨#[]⟩, .string ⟨#[]⟩, .string ⟨#[]⟩, .string ⟨#[]⟩, .string ⟨#[]⟩, .string ⟨#[]⟩, .string ⟨#[]⟩, .int .i64 0, .string ⟨#[]⟩, .string ⟨#[]⟩, .string ⟨#[]⟩, .int .i64 0]) ?_ 0 _ rfl
    exact hz1) Tryz.underlying72 rfl (by kernel_rfl)) rfl ?_
   refine ⟨rfl, ?_⟩
   iterate 12 (with_reducible refine below_set ?_ (Nat.le_refl _))
   with_reducible exact hB1
  ·
   obtain ⟨s0, s1, s2, s3, s4, s5, s6, s7, s8, s9, s10, s11, rest, rfl⟩ : ∃ s0 s1 s2 s3 s4 s5 s6 s7 s8 s9 s10 s11 rest, l = s0 :: s1 :: s2 :: s3 :: s4 :: s5 :: s6 :: s7 :: s8 :: s9 :: s10 :: s11 :: rest := by
    match l, h12 with
    | s0 :: s1 :: s2 :: s3 :: s4 :: s5 :: s6 :: s7 :: s8 :: s9 :: s10 :: s11 :: rest, _ => exact ⟨s0, s1, s2, s3, s4, s5, s6, s7, s8, s9, s10, s11, rest, rfl⟩
    | [], h => exact absurd (by decide) h
    | [_], h => exact absurd (by simp) h
    | [_, _], h => exact absurd (by simp) h
    | [_, _, _], h => exact absurd (by simp) h
    | [_, _, _, _], h => exact absurd (by simp) h
    | [_, _, _, _, _], h => exact absurd (by simp) h
    | [_, _, _, _, _, _], h => exact absurd (by simp) h
    | [_, _, _, _, _, _, _], h => exact absurd (by simp) h
    | [_, _, _, _, _, _, _, _], h => exact absurd (by simp) h
    | [_, _, _, _, _, _, _, _, _], h => exact absurd (by simp) h
    | [_, _, _, _, _, _, _, _, _, _], h => exact absurd (by simp) h
    | [_, _, _, _, _, _, _, _, _, _, _], h => exact absurd (by simp) h
   rw [fldR_some hU, decide_eq_true (show (((s0 :: s1 :: s2 :: s3 :: s4 :: s5 :: s6 :: s7 :: s8 :: s9 :: s10 :: s11 :: rest).length : Nat) : Int) ≥ 12 by simp only [List.length_cons]; omega)] at hf
   have hsz : ∀ y ∈ (s0 :: s1 :: s2 :: s3 :: s4 :: s5 :: s6 :: s7 :: s8 :: s9 :: s10 :: s11 :: rest), y.size ≤ v.size := fun y hy => by
    have h1 := txs_mem hy
    rw [(unTx_iff v _).1 hU, data_size] at h1
    exact h1
   have hs7 := hsz s7 (by simp)
   have hs11 := hsz s11 (by simp)
   have hnum := fun s hs w1 (hb : Below w.heap.size w w1) => rnumber_says s hs w1 (hGP.below hb) (hGE.below hb)
   have hn7 := hnum s7 (by omega)
   have hn11 := hnum s11 (by omega)
   have hss : s0.size ≤ v.size ∧ s1.size ≤ v.size ∧ s2.size ≤ v.size ∧ s3.size ≤ v.size ∧ s4.size ≤ v.size ∧ s5.size ≤ v.size ∧ s6.size ≤ v.size ∧ s8.size ≤ v.size ∧ s9.size ≤ v.size ∧ s10.size ≤ v.size := ⟨hsz s0 (by simp), hsz s1 (by simp), hsz s2 (by simp), hsz s3 (by simp), hsz s4 (by simp), hsz s5 (by simp), hsz s6 (by simp), hsz s8 (by simp), hsz s9 (by simp), hsz s10 (by simp)⟩
   clear hnum hsz
   obtain ⟨n, hn⟩ : ∃ n, n = (s0 :: s1 :: s2 :: s3 :: s4 :: s5 :: s6 :: s7 :: s8 :: s9 :: s10 :: s11 :: rest).length := ⟨_, rfl⟩
   have hn12 : 12 ≤ n := by rw [hn]; simp only [List.length_cons]; omega
   have i0 : ((0 : Int) < (n : Int)) = True := eq_true (by omega)
   have j0 : 0 < n := by omega
   have i1 : ((1 : Int) < (n : Int)) = True := eq_true (by omega)
   have j1 : 1 < n := by omega
   have i2 : ((2 : Int) < (n : Int)) = True := eq_true (by omega)
   have j2 : 2 < n := by omega
   have i3 : ((3 : Int) < (n : Int)) = True := eq_true (by omega)
   have j3 : 3 < n := by omega
   have i4 : ((4 : Int) < (n : Int)) = True := eq_true (by omega)
   have j4 : 4 < n := by omega
   have i5 : ((5 : Int) < (n : Int)) = True := eq_true (by omega)
   have j5 : 5 < n := by omega
   have i6 : ((6 : Int) < (n : Int)) = True := eq_true (by omega)
   have j6 : 6 < n := by omega
   have i7 : ((7 : Int) < (n : Int)) = True := eq_true (by omega)
   have j7 : 7 < n := by omega
   have i8 : ((8 : Int) < (n : Int)) = True := eq_true (by omega)
   have j8 : 8 < n := by omega
   have i9 : ((9 : Int) < (n : Int)) = True := eq_true (by omega)
   have j9 : 9 < n := by omega
   have i10 : ((10 : Int) < (n : Int)) = True := eq_true (by omega)
   have j10 : 10 < n := by omega
   have i11 : ((11 : Int) < (n : Int)) = True := eq_true (by omega)
   have j11 : 11 < n := by omega
   cases h7 : numL s7 with
   | mk p a =>
   cases h11 : numL s11 with
   | mk q b =>
   rw [h7] at hn7
   rw [h11] at hn11
   go_enter Tryz.func104, Tryz.ntmps104
   go_wp2_with fail
   refine (hf _ hB0).mono ?_
   rintro e w1 ⟨v1, rfl, hr1, hb1⟩
   have hB1 := below_then hB0 hB0.size hb1
   have hz1 := blk_below hz hb1
   obtain ⟨A1, c1, e1⟩ := Kd.R_slice hr1
   subst e1
   obtain ⟨ad, rfl, x0, x1, x2, x3, x4, x5, x6, x7, x8, x9, x10, x11⟩ := row12 rfl (Kd.R_reads' hr1).2.2
   rw [← hn]
   clear hr1 hn hf
   have hn7 := hn7 _ hB1
   go_wp2_with fail
   refine hn7.mono ?_
   rintro e w2 ⟨rfl, hb2⟩
   have hB2 := below_then hB1 hB1.size hb2
   have hz2 := blk_below hz1 hb2
   have hn11 := hn11 _ hB2
   have x0 := cellL hb2 x0
   have x1 := cellL hb2 x1
   have x2 := cellL hb2 x2
   have x3 := cellL hb2 x3
   have x4 := cellL hb2 x4
   have x5 := cellL hb2 x5
   have x6 := cellL hb2 x6
   have x7 := cellL hb2 x7
   have x8 := cellL hb2 x8
   have x9 := cellL hb2 x9
   have x10 := cellL hb2 x10
   have x11 := cellL hb2 x11
   go_wp2_with fail
   refine hn11.mono ?_
   rintro e w3 ⟨rfl, hb3⟩
   have hB3 := below_then hB2 hB2.size hb3
   have hz3 := blk_below hz2 hb3
   have x0 := cellL hb3 x0
   have x1 := cellL hb3 x1
   have x2 := cellL hb3 x2
   have x3 := cellL hb3 x3
   have x4 := cellL hb3 x4
   have x5 := cellL hb3 x5
   have x6 := cellL hb3 x6
   have x7 := cellL hb3 x7
   have x8 := cellL hb3 x8
   have x9 := cellL hb3 x9
   have x10 := cellL hb3 x10
   have x11 := cellL hb3 x11
   go_wp2_with fail
   go_region_held3 (fun w' => w'.cell? ad = some (.string s0) ∧ w'.cell? ⟨ad.block, ad.off + 1, none⟩ = some (.string s1) ∧ w'.cell? ⟨ad.block, ad.off + 2, none⟩ = some (.string s2) ∧ w'.cell? ⟨ad.block, ad.off + 3, none⟩ = some (.string s3) ∧ w'.cell? ⟨ad.block, ad.off + 4, none⟩ = some (.string s4) ∧ w'.cell? ⟨ad.block, ad.off + 5, none⟩ = some (.string s5) ∧ w'.cell? ⟨ad.block, ad.off + 6, none⟩ = some (.string s6) ∧ w'.cell? ⟨ad.block, ad.off + 8, none⟩ = some (.string s8) ∧ w'.cell? ⟨ad.block, ad.off + 9, none⟩ = some (.string s9) ∧ w'.cell? ⟨ad.block, ad.off + 10, none⟩ = some (.string s10)) (first | exact ⟨x0, x1, x2, x3, x4, x5, x6, x8, x9, x10⟩ | go_keep) ((fail))
   have hB4 : Below w3.heap.size w3 (w3.alloc (.cells #[.string s0, .string s1, .string s2, .string s3, .string s4, .string s5, .string s6, .int .i64 p, .string s8, .string s9, .string s10, .int .i64 q] 72)).drew := below_drew ((Below.refl _ w3).alloc (Nat.le_refl _) _)
   have hz4 := blk_below hz3 hB4
   have hx4 := blk_drew (heap_alloc_new w3 (.cells #[.string s0, .string s1, .string s2, .string s3, .string s4, .string s5, .string s6, .int .i64 p, .string s8, .string s9, .string s10, .int .i64 q] 72))
   generalize (w3.alloc (.cells #[.string s0, .string s1, .string s2, .string s3, .string s4, .string s5, .string s6, .int .i64 p, .string s8, .string s9, .string s10, .int .i64 q] 72)).drew = w4 at hB4 hz4 hx4 ⊢
   have hB4 := below_then hB3 hB3.size hB4
   have c0 := blk_cell hz4 0
   have f0 := blk_frozen hz4 0
   have d0 : w4.cell? ⟨w3.heap.size, 0, none⟩ = some (.string s0) := (blk_cell hx4 0).trans rfl
   have c1 := blk_cell hz4 1
   have f1 := blk_frozen hz4 1
   have d1 : w4.cell? ⟨w3.heap.size, 1, none⟩ = some (.string s1) := (blk_cell hx4 1).trans rfl
   have c2 := blk_cell hz4 2
   have f2 := blk_frozen hz4 2
   have d2 : w4.cell? ⟨w3.heap.size, 2, none⟩ = some (.string s2) := (blk_cell hx4 2).trans rfl
   have c3 := blk_cell hz4 3
   have f3 := blk_frozen hz4 3
   have d3 : w4.cell? ⟨w3.heap.size, 3, none⟩ = some (.string s3) := (blk_cell hx4 3).trans rfl
   have c4 := blk_cell hz4 4
   have f4 := blk_frozen hz4 4
   have d4 : w4.cell? ⟨w3.heap.size, 4, none⟩ = some (.string s4) := (blk_cell hx4 4).trans rfl
   have c5 := blk_cell hz4 5
   have f5 := blk_frozen hz4 5
   have d5 : w4.cell? ⟨w3.heap.size, 5, none⟩ = some (.string s5) := (blk_cell hx4 5).trans rfl
   have c6 := blk_cell hz4 6
   have f6 := blk_frozen hz4 6
   have d6 : w4.cell? ⟨w3.heap.size, 6, none⟩ = some (.string s6) := (blk_cell hx4 6).trans rfl
   have c7 := blk_cell hz4 7
   have f7 := blk_frozen hz4 7
   have d7 : w4.cell? ⟨w3.heap.size, 7, none⟩ = some (.int .i64 p) := (blk_cell hx4 7).trans rfl
   have c8 := blk_cell hz4 8
   have f8 := blk_frozen hz4 8
   have d8 : w4.cell? ⟨w3.heap.size, 8, none⟩ = some (.string s8) := (blk_cell hx4 8).trans rfl
   have c9 := blk_cell hz4 9
   have f9 := blk_frozen hz4 9
   have d9 : w4.cell? ⟨w3.heap.size, 9, none⟩ = some (.string s9) := (blk_cell hx4 9).trans rfl
   have c10 := blk_cell hz4 10
   have f10 := blk_frozen hz4 10
   have d10 : w4.cell? ⟨w3.heap.size, 10, none⟩ = some (.string s10) := (blk_cell hx4 10).trans rfl
   have c11 := blk_cell hz4 11
   have f11 := blk_frozen hz4 11
   have d11 : w4.cell? ⟨w3.heap.size, 11, none⟩ = some (.int .i64 q) := (blk_cell hx4 11).trans rfl
   cases a with
   | false =>
    go_wp2_with fail
    refine bodyPost_ret (results_ct rfl _ _ w.heap.size 72 #[.string ⟨#[]⟩, .string ⟨#[]⟩, .string ⟨#[]⟩, .string ⟨#[]⟩, .string ⟨#[]⟩, .string ⟨#[]⟩, .string ⟨#[]⟩, .int .i64 0, .string ⟨#[]⟩, .string ⟨#[]⟩, .string ⟨#[]⟩, .int .i64 0] (0, 0) _ rfl (by
     refine blk_put (cs := #[.string ⟨#[]⟩, .string ⟨#[]⟩, .string ⟨#[]⟩, .string ⟨#[]⟩, .string ⟨#[]⟩, .string ⟨#[]⟩, .string ⟨#[]⟩, .int .i64 0, .string ⟨#[]⟩, .string ⟨#[]⟩, .string ⟨#[]⟩, .int .i64 0]) ?_ 11 _ rfl
     refine blk_put (cs := #[.string ⟨#[]⟩, .string ⟨#[]⟩, .string ⟨#[]⟩, .string ⟨#[]⟩, .string ⟨#[]⟩, .string ⟨#[]⟩, .string ⟨#[]⟩, .int .i64 0, .string ⟨#[]⟩, .string ⟨#[]⟩, .string ⟨#[]⟩, .int .i64 0]) ?_ 10 _ rfl
     refine blk_put (cs := #[.string ⟨#[]⟩, .string ⟨#[]⟩, .string ⟨#[]⟩, .string ⟨#[]⟩, .string ⟨#[]⟩, .string ⟨#[]⟩, .string ⟨#[]⟩, .int .i64 0, .string ⟨#[]⟩, .string ⟨#[]⟩, .string ⟨#[]⟩, .int .i64 0]) ?_ 9 _ rfl
     refine blk_put (cs := #[.string ⟨#[]⟩, .string ⟨#[]⟩, .string ⟨#[]⟩, .string ⟨#[]⟩, .string ⟨#[]⟩, .string ⟨#[]⟩, .string ⟨#[]⟩, .int .i64 0, .string ⟨#[]⟩, .string ⟨#[]⟩, .string ⟨#[]⟩, .int .i64 0]) ?_ 8 _ rfl
     refine blk_put (cs := #[.string ⟨#[]⟩, .string ⟨#[]⟩, .string ⟨#[]⟩, .string ⟨#[]⟩, .string ⟨#[]⟩, .string ⟨#[]⟩, .string ⟨#[]⟩, .int .i64 0, .string ⟨#[]⟩, .string ⟨#[]⟩, .string ⟨#[]⟩, .int .i64 0]) ?_ 7 _ rfl
     refine blk_put (cs := #[.string ⟨#[]⟩, .string ⟨#[]⟩, .string ⟨#[]⟩, .string ⟨#[]⟩, .string ⟨#[]⟩, .string ⟨#[]⟩, .string ⟨#[]⟩, .int .i64 0, .string ⟨#[]⟩, .string ⟨#[]⟩, .string ⟨#[]⟩, .int .i64 0]) ?_ 6 _ rfl
     refine blk_put (cs := #[.string ⟨#[]⟩, .string ⟨#[]⟩, .string ⟨#[]⟩, .string ⟨#[]⟩, .string ⟨#[]⟩, .string ⟨#[]⟩, .string ⟨#[]⟩, .int .i64 0, .string ⟨#[]⟩, .string ⟨#[]⟩, .string ⟨#[]⟩, .int .i64 0]) ?_ 5 _ rfl
     refine blk_put (cs := #[.string ⟨#[]⟩, .string ⟨#[]⟩, .string ⟨#[]⟩, .string ⟨#[]⟩, .string ⟨#[]⟩, .string ⟨#[]⟩, .string ⟨#[]⟩, .int .i64 0, .string ⟨#[]⟩, .string ⟨#[]⟩, .string ⟨#[]⟩, .int .i64 0]) ?_ 4 _ rfl
     refine blk_put (cs := #[.string ⟨#[]⟩, .string ⟨#[]⟩, .string ⟨#[]⟩, .string ⟨#[]⟩, .string ⟨#[]⟩, .string ⟨#[]⟩, .string ⟨#[]⟩, .int .i64 0, .string ⟨#[]⟩, .string ⟨#[]⟩, .string ⟨#[]⟩, .int .i64 0]) ?_ 3 _ rfl
     refine blk_put (cs := #[.string ⟨#[]⟩, .string ⟨#[]⟩, .string ⟨#[]⟩, .string ⟨#[]⟩, .string ⟨#[]⟩, .string ⟨#[]⟩, .string ⟨#[]⟩, .int .i64 0, .string ⟨#[]⟩, .string ⟨#[]⟩, .string ⟨#[]⟩, .int .i64 0]) ?_ 2 _ rfl
     refine blk_put (cs := #[.string ⟨#[]⟩, .string ⟨#[]⟩, .string ⟨#[]⟩, .string ⟨#[]⟩, .string ⟨#[]⟩, .string ⟨#[]⟩, .string ⟨#[]⟩, .int .i64 0, .string ⟨#[]⟩, .string ⟨#[]⟩, .string ⟨#[]⟩, .int .i64 0]) ?_ 1 _ rfl
     refine blk_put (cs := #[.string ⟨#[]⟩, .string ⟨#[]⟩, .string ⟨#[]⟩, .string ⟨#[]⟩, .string ⟨#[]⟩, .string ⟨#[]⟩, .string ⟨#[]⟩, .int .i64 0, .string ⟨#[]⟩, .string ⟨#[]⟩, .string ⟨#[]⟩, .int .i64 0]) ?_ 0 _ rfl
     exact hz4) Tryz.underlying72 rfl (by kernel_rfl)) rfl ?_
    refine ⟨by rw [readS_bad hU (.inl (numL_false h7))]; rfl, ?_⟩
    iterate 12 (with_reducible refine below_set ?_ (Nat.le_refl _))
    with_reducible exact hB4
   | true =>
    cases b with
    | false =>
     go_wp2_with fail
     refine bodyPost_ret (results_ct rfl _ _ w.heap.size 72 #[.string ⟨#[]⟩, .string ⟨#[]⟩, .string ⟨#[]⟩, .string ⟨#[]⟩, .string ⟨#[]⟩, .string ⟨#[]⟩, .string ⟨#[]⟩, .int .i64 0, .string ⟨#[]⟩, .string ⟨#[]⟩, .string ⟨#[]⟩, .int .i64 0] (0, 0) _ rfl (by
      refine blk_put (cs := #[.string ⟨#[]⟩, .string ⟨#[]⟩, .string ⟨#[]⟩, .string ⟨#[]⟩, .string ⟨#[]⟩, .string ⟨#[]⟩, .string ⟨#[]⟩, .int .i64 0, .string ⟨#[]⟩, .string ⟨#[]⟩, .string ⟨#[]⟩, .int .i64 0]) ?_ 11 _ rfl
      refine blk_put (cs := #[.string ⟨#[]⟩, .string ⟨#[]⟩, .string ⟨#[]⟩, .string ⟨#[]⟩, .string ⟨#[]⟩, .string ⟨#[]⟩, .string ⟨#[]⟩, .int .i64 0, .string ⟨#[]⟩, .string ⟨#[]⟩, .string ⟨#[]⟩, .int .i64 0]) ?_ 10 _ rfl
      refine blk_put (cs := #[.string ⟨#[]⟩, .string ⟨#[]⟩, .string ⟨#[]⟩, .string ⟨#[]⟩, .string ⟨#[]⟩, .string ⟨#[]⟩, .string ⟨#[]⟩, .int .i64 0, .string ⟨#[]⟩, .string ⟨#[]⟩, .string ⟨#[]⟩, .int .i64 0]) ?_ 9 _ rfl
      refine blk_put (cs := #[.string ⟨#[]⟩, .string ⟨#[]⟩, .string ⟨#[]⟩, .string ⟨#[]⟩, .string ⟨#[]⟩, .string ⟨#[]⟩, .string ⟨#[]⟩, .int .i64 0, .string ⟨#[]⟩, .string ⟨#[]⟩, .string ⟨#[]⟩, .int .i64 0]) ?_ 8 _ rfl
      refine blk_put (cs := #[.string ⟨#[]⟩, .string ⟨#[]⟩, .string ⟨#[]⟩, .string ⟨#[]⟩, .string ⟨#[]⟩, .string ⟨#[]⟩, .string ⟨#[]⟩, .int .i64 0, .string ⟨#[]⟩, .string ⟨#[]⟩, .string ⟨#[]⟩, .int .i64 0]) ?_ 7 _ rfl
      refine blk_put (cs := #[.string ⟨#[]⟩, .string ⟨#[]⟩, .string ⟨#[]⟩, .string ⟨#[]⟩, .string ⟨#[]⟩, .string ⟨#[]⟩, .string ⟨#[]⟩, .int .i64 0, .string ⟨#[]⟩, .string ⟨#[]⟩, .string ⟨#[]⟩, .int .i64 0]) ?_ 6 _ rfl
      refine blk_put (cs := #[.string ⟨#[]⟩, .string ⟨#[]⟩, .string ⟨#[]⟩, .string ⟨#[]⟩, .string ⟨#[]⟩, .string ⟨#[]⟩, .string ⟨#[]⟩, .int .i64 0, .string ⟨#[]⟩, .string ⟨#[]⟩, .string ⟨#[]⟩, .int .i64 0]) ?_ 5 _ rfl
      refine blk_put (cs := #[.string ⟨#[]⟩, .string ⟨#[]⟩, .string ⟨#[]⟩, .string ⟨#[]⟩, .string ⟨#[]⟩, .string ⟨#[]⟩, .string ⟨#[]⟩, .int .i64 0, .string ⟨#[]⟩, .string ⟨#[]⟩, .string ⟨#[]⟩, .int .i64 0]) ?_ 4 _ rfl
      refine blk_put (cs := #[.string ⟨#[]⟩, .string ⟨#[]⟩, .string ⟨#[]⟩, .string ⟨#[]⟩, .string ⟨#[]⟩, .string ⟨#[]⟩, .string ⟨#[]⟩, .int .i64 0, .string ⟨#[]⟩, .string ⟨#[]⟩, .string ⟨#[]⟩, .int .i64 0]) ?_ 3 _ rfl
      refine blk_put (cs := #[.string ⟨#[]⟩, .string ⟨#[]⟩, .string ⟨#[]⟩, .string ⟨#[]⟩, .string ⟨#[]⟩, .string ⟨#[]⟩, .string ⟨#[]⟩, .int .i64 0, .string ⟨#[]⟩, .string ⟨#[]⟩, .string ⟨#[]⟩, .int .i64 0]) ?_ 2 _ rfl
      refine blk_put (cs := #[.string ⟨#[]⟩, .string ⟨#[]⟩, .string ⟨#[]⟩, .string ⟨#[]⟩, .string ⟨#[]⟩, .string ⟨#[]⟩, .string ⟨#[]⟩, .int .i64 0, .string ⟨#[]⟩, .string ⟨#[]⟩, .string ⟨#[]⟩, .int .i64 0]) ?_ 1 _ rfl
      refine blk_put (cs := #[.string ⟨#[]⟩, .string ⟨#[]⟩, .string ⟨#[]⟩, .string ⟨#[]⟩, .string ⟨#[]⟩, .string ⟨#[]⟩, .string ⟨#[]⟩, .int .i64 0, .string ⟨#[]⟩, .string ⟨#[]⟩, .string ⟨#[]⟩, .int .i64 0]) ?_ 0 _ rfl
      exact hz4) Tryz.underlying72 rfl (by kernel_rfl)) rfl ?_
     refine ⟨by rw [readS_bad hU (.inr (numL_false h11))]; rfl, ?_⟩
     iterate 12 (with_reducible refine below_set ?_ (Nat.le_refl _))
     with_reducible exact hB4
    | true =>
     have hrd := readS_if hU h7 h11
     have hlen := sesL_len (⟨s0, s1, s2, s3, s4, s5, s6, p, s8, s9, s10, q⟩ : Ses) (numB_some (numL_some h7)).2 (numB_some (numL_some h11)).2 v.size (by omega) hss
     have hse := session_says (⟨s0, s1, s2, s3, s4, s5, s6, p, s8, s9, s10, q⟩ : Ses) (numB_some (numL_some h7)).2 (numB_some (numL_some h11)).2 (by omega) w4 (hGP.below hB4)
     by_cases he : sesT (⟨s0, s1, s2, s3, s4, s5, s6, p, s8, s9, s10, q⟩ : Ses) = v
     ·
      rw [if_pos he] at hrd
      rw [he] at hse
      have q1 : (v.toList != v.toList) = false := by simp
      go_wp2_with fail
      refine hse.mono ?_
      rintro e w5 ⟨rfl, hb5⟩
      have hz5 := blk_below hz4 hb5
      have hx5 := blk_below hx4 hb5
      have hB5 := below_then hB4 hB4.size hb5
      have c0 := blk_cell hz5 0
      have f0 := blk_frozen hz5 0
      have d0 : w5.cell? ⟨w3.heap.size, 0, none⟩ = some (.string s0) := (blk_cell hx5 0).trans rfl
      have c1 := blk_cell hz5 1
      have f1 := blk_frozen hz5 1
      have d1 : w5.cell? ⟨w3.heap.size, 1, none⟩ = some (.string s1) := (blk_cell hx5 1).trans rfl
      have c2 := blk_cell hz5 2
      have f2 := blk_frozen hz5 2
      have d2 : w5.cell? ⟨w3.heap.size, 2, none⟩ = some (.string s2) := (blk_cell hx5 2).trans rfl
      have c3 := blk_cell hz5 3
      have f3 := blk_frozen hz5 3
      have d3 : w5.cell? ⟨w3.heap.size, 3, none⟩ = some (.string s3) := (blk_cell hx5 3).trans rfl
      have c4 := blk_cell hz5 4
      have f4 := blk_frozen hz5 4
      have d4 : w5.cell? ⟨w3.heap.size, 4, none⟩ = some (.string s4) := (blk_cell hx5 4).trans rfl
      have c5 := blk_cell hz5 5
      have f5 := blk_frozen hz5 5
      have d5 : w5.cell? ⟨w3.heap.size, 5, none⟩ = some (.string s5) := (blk_cell hx5 5).trans rfl
      have c6 := blk_cell hz5 6
      have f6 := blk_frozen hz5 6
      have d6 : w5.cell? ⟨w3.heap.size, 6, none⟩ = some (.string s6) := (blk_cell hx5 6).trans rfl
      have c7 := blk_cell hz5 7
      have f7 := blk_frozen hz5 7
      have d7 : w5.cell? ⟨w3.heap.size, 7, none⟩ = some (.int .i64 p) := (blk_cell hx5 7).trans rfl
      have c8 := blk_cell hz5 8
      have f8 := blk_frozen hz5 8
      have d8 : w5.cell? ⟨w3.heap.size, 8, none⟩ = some (.string s8) := (blk_cell hx5 8).trans rfl
      have c9 := blk_cell hz5 9
      have f9 := blk_frozen hz5 9
      have d9 : w5.cell? ⟨w3.heap.size, 9, none⟩ = some (.string s9) := (blk_cell hx5 9).trans rfl
      have c10 := blk_cell hz5 10
      have f10 := blk_frozen hz5 10
      have d10 : w5.cell? ⟨w3.heap.size, 10, none⟩ = some (.string s10) := (blk_cell hx5 10).trans rfl
      have c11 := blk_cell hz5 11
      have f11 := blk_frozen hz5 11
      have d11 : w5.cell? ⟨w3.heap.size, 11, none⟩ = some (.int .i64 q) := (blk_cell hx5 11).trans rfl
      go_wp2_with fail
      refine bodyPost_ret (results_ct rfl _ _ w.heap.size 72 #[.string s0, .string s1, .string s2, .string s3, .string s4, .string s5, .string s6, .int .i64 p, .string s8, .string s9, .string s10, .int .i64 q] (0, 0) _ rfl (by
       refine blk_put (cs := #[.string s0, .string s1, .string s2, .string s3, .string s4, .string s5, .string s6, .int .i64 p, .string s8, .string s9, .string s10, .int .i64 0]) ?_ 11 _ rfl
       refine blk_put (cs := #[.string s0, .string s1, .string s2, .string s3, .string s4, .string s5, .string s6, .int .i64 p, .string s8, .string s9, .string ⟨#[]⟩, .int .i64 0]) ?_ 10 _ rfl
       refine blk_put (cs := #[.string s0, .string s1, .string s2, .string s3, .string s4, .string s5, .string s6, .int .i64 p, .string s8, .string ⟨#[]⟩, .string ⟨#[]⟩, .int .i64 0]) ?_ 9 _ rfl
       refine blk_put (cs := #[.string s0, .string s1, .string s2, .string s3, .string s4, .string s5, .string s6, .int .i64 p, .string ⟨#[]⟩, .string ⟨#[]⟩, .string ⟨#[]⟩, .int .i64 0]) ?_ 8 _ rfl
       refine blk_put (cs := #[.string s0, .string s1, .string s2, .string s3, .string s4, .string s5, .string s6, .int .i64 0, .string ⟨#[]⟩, .string ⟨#[]⟩, .string ⟨#[]⟩, .int .i64 0]) ?_ 7 _ rfl
       refine blk_put (cs := #[.string s0, .string s1, .string s2, .string s3, .string s4, .string s5, .string ⟨#[]⟩, .int .i64 0, .string ⟨#[]⟩, .string ⟨#[]⟩, .string ⟨#[]⟩, .int .i64 0]) ?_ 6 _ rfl
       refine blk_put (cs := #[.string s0, .string s1, .string s2, .string s3, .string s4, .string ⟨#[]⟩, .string ⟨#[]⟩, .int .i64 0, .string ⟨#[]⟩, .string ⟨#[]⟩, .string ⟨#[]⟩, .int .i64 0]) ?_ 5 _ rfl
       refine blk_put (cs := #[.string s0, .string s1, .string s2, .string s3, .string ⟨#[]⟩, .string ⟨#[]⟩, .string ⟨#[]⟩, .int .i64 0, .string ⟨#[]⟩, .string ⟨#[]⟩, .string ⟨#[]⟩, .int .i64 0]) ?_ 4 _ rfl
       refine blk_put (cs := #[.string s0, .string s1, .string s2, .string ⟨#[]⟩, .string ⟨#[]⟩, .string ⟨#[]⟩, .string ⟨#[]⟩, .int .i64 0, .string ⟨#[]⟩, .string ⟨#[]⟩, .string ⟨#[]⟩, .int .i64 0]) ?_ 3 _ rfl
       refine blk_put (cs := #[.string s0, .string s1, .string ⟨#[]⟩, .string ⟨#[]⟩, .string ⟨#[]⟩, .string ⟨#[]⟩, .string ⟨#[]⟩, .int .i64 0, .string ⟨#[]⟩, .string ⟨#[]⟩, .string ⟨#[]⟩, .int .i64 0]) ?_ 2 _ rfl
       refine blk_put (cs := #[.string s0, .string ⟨#[]⟩, .string ⟨#[]⟩, .string ⟨#[]⟩, .string ⟨#[]⟩, .string ⟨#[]⟩, .string ⟨#[]⟩, .int .i64 0, .string ⟨#[]⟩, .string ⟨#[]⟩, .string ⟨#[]⟩, .int .i64 0]) ?_ 1 _ rfl
       refine blk_put (cs := #[.string ⟨#[]⟩, .string ⟨#[]⟩, .string ⟨#[]⟩, .string ⟨#[]⟩, .string ⟨#[]⟩, .string ⟨#[]⟩, .string ⟨#[]⟩, .int .i64 0, .string ⟨#[]⟩, .string ⟨#[]⟩, .string ⟨#[]⟩, .int .i64 0]) ?_ 0 _ rfl
       exact hz5) Tryz.underlying72 rfl (by kernel_rfl)) rfl ?_
      refine ⟨by rw [hrd]; rfl, ?_⟩
      iterate 12 (with_reducible refine below_set ?_ (Nat.le_refl _))
      with_reducible exact hB5
     ·
      rw [if_neg he] at hrd
      obtain ⟨T, hT⟩ : ∃ T, T = sesT (⟨s0, s1, s2, s3, s4, s5, s6, p, s8, s9, s10, q⟩ : Ses) := ⟨_, rfl⟩
      rw [← hT] at hse he
      clear hT
      have hne : T.toList ≠ v.toList := fun h => he (toList_inj h)
      have q0 : (T.toList == v.toList) = false := beq_eq_false_iff_ne.2 hne
      have q1 : (T.toList != v.toList) = true := bne_iff_ne.2 hne
      go_wp2_with fail
      refine hse.mono ?_
      rintro e w5 ⟨rfl, hb5⟩
      have hz5 := blk_below hz4 hb5
      have hB5 := below_then hB4 hB4.size hb5
      have c0 := blk_cell hz5 0
      have f0 := blk_frozen hz5 0
      have c1 := blk_cell hz5 1
      have f1 := blk_frozen hz5 1
      have c2 := blk_cell hz5 2
      have f2 := blk_frozen hz5 2
      have c3 := blk_cell hz5 3
      have f3 := blk_frozen hz5 3
      have c4 := blk_cell hz5 4
      have f4 := blk_frozen hz5 4
      have c5 := blk_cell hz5 5
      have f5 := blk_frozen hz5 5
      have c6 := blk_cell hz5 6
      have f6 := blk_frozen hz5 6
      have c7 := blk_cell hz5 7
      have f7 := blk_frozen hz5 7
      have c8 := blk_cell hz5 8
      have f8 := blk_frozen hz5 8
      have c9 := blk_cell hz5 9
      have f9 := blk_frozen hz5 9
      have c10 := blk_cell hz5 10
      have f10 := blk_frozen hz5 10
      have c11 := blk_cell hz5 11
      have f11 := blk_frozen hz5 11
      go_wp2_with fail
      refine bodyPost_ret (results_ct rfl _ _ w.heap.size 72 #[.string ⟨#[]⟩, .string ⟨#[]⟩, .string ⟨#[]⟩, .string ⟨#[]⟩, .string ⟨#[]⟩, .string ⟨#[]⟩, .string ⟨#[]⟩, .int .i64 0, .string ⟨#[]⟩, .string ⟨#[]⟩, .string ⟨#[]⟩, .int .i64 0] (0, 0) _ rfl (by
       refine blk_put (cs := #[.string ⟨#[]⟩, .string ⟨#[]⟩, .string ⟨#[]⟩, .string ⟨#[]⟩, .string ⟨#[]⟩, .string ⟨#[]⟩, .string ⟨#[]⟩, .int .i64 0, .string ⟨#[]⟩, .string ⟨#[]⟩, .string ⟨#[]⟩, .int .i64 0]) ?_ 11 _ rfl
       refine blk_put (cs := #[.string ⟨#[]⟩, .string ⟨#[]⟩, .string ⟨#[]⟩, .string ⟨#[]⟩, .string ⟨#[]⟩, .string ⟨#[]⟩, .string ⟨#[]⟩, .int .i64 0, .string ⟨#[]⟩, .string ⟨#[]⟩, .string ⟨#[]⟩, .int .i64 0]) ?_ 10 _ rfl
       refine blk_put (cs := #[.string ⟨#[]⟩, .string ⟨#[]⟩, .string ⟨#[]⟩, .string ⟨#[]⟩, .string ⟨#[]⟩, .string ⟨#[]⟩, .string ⟨#[]⟩, .int .i64 0, .string ⟨#[]⟩, .string ⟨#[]⟩, .string ⟨#[]⟩, .int .i64 0]) ?_ 9 _ rfl
       refine blk_put (cs := #[.string ⟨#[]⟩, .string ⟨#[]⟩, .string ⟨#[]⟩, .string ⟨#[]⟩, .string ⟨#[]⟩, .string ⟨#[]⟩, .string ⟨#[]⟩, .int .i64 0, .string ⟨#[]⟩, .string ⟨#[]⟩, .string ⟨#[]⟩, .int .i64 0]) ?_ 8 _ rfl
       refine blk_put (cs := #[.string ⟨#[]⟩, .string ⟨#[]⟩, .string ⟨#[]⟩, .string ⟨#[]⟩, .string ⟨#[]⟩, .string ⟨#[]⟩, .string ⟨#[]⟩, .int .i64 0, .string ⟨#[]⟩, .string ⟨#[]⟩, .string ⟨#[]⟩, .int .i64 0]) ?_ 7 _ rfl
       refine blk_put (cs := #[.string ⟨#[]⟩, .string ⟨#[]⟩, .string ⟨#[]⟩, .string ⟨#[]⟩, .string ⟨#[]⟩, .string ⟨#[]⟩, .string ⟨#[]⟩, .int .i64 0, .string ⟨#[]⟩, .string ⟨#[]⟩, .string ⟨#[]⟩, .int .i64 0]) ?_ 6 _ rfl
       refine blk_put (cs := #[.string ⟨#[]⟩, .string ⟨#[]⟩, .string ⟨#[]⟩, .string ⟨#[]⟩, .string ⟨#[]⟩, .string ⟨#[]⟩, .string ⟨#[]⟩, .int .i64 0, .string ⟨#[]⟩, .string ⟨#[]⟩, .string ⟨#[]⟩, .int .i64 0]) ?_ 5 _ rfl
       refine blk_put (cs := #[.string ⟨#[]⟩, .string ⟨#[]⟩, .string ⟨#[]⟩, .string ⟨#[]⟩, .string ⟨#[]⟩, .string ⟨#[]⟩, .string ⟨#[]⟩, .int .i64 0, .string ⟨#[]⟩, .string ⟨#[]⟩, .string ⟨#[]⟩, .int .i64 0]) ?_ 4 _ rfl
       refine blk_put (cs := #[.string ⟨#[]⟩, .string ⟨#[]⟩, .string ⟨#[]⟩, .string ⟨#[]⟩, .string ⟨#[]⟩, .string ⟨#[]⟩, .string ⟨#[]⟩, .int .i64 0, .string ⟨#[]⟩, .string ⟨#[]⟩, .string ⟨#[]⟩, .int .i64 0]) ?_ 3 _ rfl
       refine blk_put (cs := #[.string ⟨#[]⟩, .string ⟨#[]⟩, .string ⟨#[]⟩, .string ⟨#[]⟩, .string ⟨#[]⟩, .string ⟨#[]⟩, .string ⟨#[]⟩, .int .i64 0, .string ⟨#[]⟩, .string ⟨#[]⟩, .string ⟨#[]⟩, .int .i64 0]) ?_ 2 _ rfl
       refine blk_put (cs := #[.string ⟨#[]⟩, .string ⟨#[]⟩, .string ⟨#[]⟩, .string ⟨#[]⟩, .string ⟨#[]⟩, .string ⟨#[]⟩, .string ⟨#[]⟩, .int .i64 0, .string ⟨#[]⟩, .string ⟨#[]⟩, .string ⟨#[]⟩, .int .i64 0]) ?_ 1 _ rfl
       refine blk_put (cs := #[.string ⟨#[]⟩, .string ⟨#[]⟩, .string ⟨#[]⟩, .string ⟨#[]⟩, .string ⟨#[]⟩, .string ⟨#[]⟩, .string ⟨#[]⟩, .int .i64 0, .string ⟨#[]⟩, .string ⟨#[]⟩, .string ⟨#[]⟩, .int .i64 0]) ?_ 0 _ rfl
       exact hz5) Tryz.underlying72 rfl (by kernel_rfl)) rfl ?_
      refine ⟨by rw [hrd]; rfl, ?_⟩
      iterate 12 (with_reducible refine below_set ?_ (Nat.le_refl _))
      with_reducible exact hB5

end Go.Proofs.YtpoblffgclmmlaaGreatDoor.X
end
section
set_option linter.unusedVariables false
set_option linter.unusedSimpArgs false
namespace Go.Proofs.YtpoblffgclmmlaaGreatDoor.X
open Go.RowKit Go.WideMaps Go.Maps Go.Proofs.YtpoblffgclmmlaaGreatDoorW.PrintWords Go.Proofs.YtpoblffgclmmlaaGreatDoorW.PrintLast Go.Proofs.YtpoblffgclmmlaaGreatDoorW.PrintMore Go.Proofs.YtpoblffgclmmlaaGreatDoor.Q

theorem rsplit_says (s : ByteArray) (hs : s.size ≤ 4294967280) (w : World) :
  Calls Tryz.prog 105 #[.string s] w fun e w' => ∃ v0_ : Value, e = .returned (.tuple #[v0_, .bool (rspR s).2]) ∧ Kd.R Kd.string 9 w' w.heap.size (fun _ => True) v0_ (rspR s).1 ∧ Below w.heap.size w w' := by
 obtain ⟨k, hk⟩ := (rsplit_ev s hs s.size 0 [] (by omega) (by simp [txs]) (fun l hl => ⟨l, rfl, by simpa using hl⟩)).rounds
 exact exequaturref13_Split.calls k s _ _ w hk
theorem rfnum_says (s : ByteArray) : ∃ v b, I64 v ∧ (b = true → numB s = some v) ∧ (b = false → numB s = none) ∧ ∀ w, Calls Tryz.prog 106 #[.string s] w fun e w' => e = .returned (.tuple #[.int .i64 v, .bool b]) ∧ Below w.heap.size w w' := by
 obtain ⟨v, b, ⟨k, hk⟩, h1, h2, h3⟩ := num_ev s
 exact ⟨v, b, h1, h2, h3, fun w => exequaturref13_num.calls k s v b w (hk k (Nat.le_refl _))⟩
set_option maxHeartbeats 2000000 in
theorem rfses_none (v : ByteArray) (hv : v.size ≤ 4294967280) (h : rspR v = ([], false)) (w : World) :
  Calls Tryz.prog 47 #[.string v] w fun e w' => e = .returned (.tuple #[sesV sesZ, .bool false]) ∧ Below w.heap.size w w' := by
 have hB0 : Below w.heap.size w (w.alloc (.cells #[.string ⟨#[]⟩, .string ⟨#[]⟩, .string ⟨#[]⟩, .string ⟨#[]⟩, .string ⟨#[]⟩, .string ⟨#[]⟩, .string ⟨#[]⟩, .int .i64 0, .string ⟨#[]⟩, .string ⟨#[]⟩, .string ⟨#[]⟩, .int .i64 0] 72)) := (Below.refl _ w).alloc (Nat.le_refl _) _
 have hz := heap_alloc_new w (.cells #[.string ⟨#[]⟩, .string ⟨#[]⟩, .string ⟨#[]⟩, .string ⟨#[]⟩, .string ⟨#[]⟩, .string ⟨#[]⟩, .string ⟨#[]⟩, .int .i64 0, .string ⟨#[]⟩, .string ⟨#[]⟩, .string ⟨#[]⟩, .int .i64 0] 72)
 have hf := fun w1 => rsplit_says v hv w1
 rw [h] at hf
 go_enter Tryz.func47, Tryz.ntmps47
 go_wp2_with fail
 refine (hf _).mono ?_
 rintro e w1 ⟨v1, rfl, hr1, hb1⟩
 have hB1 := below_then hB0 hB0.size hb1
 have hz1 := blk_below hz hb1
 have c0 := blk_cell hz1 0
 have f0 := blk_frozen hz1 0
 have c1 := blk_cell hz1 1
 have f1 := blk_frozen hz1 1
 have c2 := blk_cell hz1 2
 have f2 := blk_frozen hz1 2
 have c3 := blk_cell hz1 3
 have f3 := blk_frozen hz1 3
 have c4 := blk_cell hz1 4
 have f4 := blk_frozen hz1 4
 have c5 := blk_cell hz1 5
 have f5 := blk_frozen hz1 5
 have c6 := blk_cell hz1 6
 have f6 := blk_frozen hz1 6
 have c7 := blk_cell hz1 7
 have f7 := blk_frozen hz1 7
 have c8 := blk_cell hz1 8
 have f8 := blk_frozen hz1 8
 have c9 := blk_cell hz1 9
 have f9 := blk_frozen hz1 9
 have c10 := blk_cell hz1 10
 have f10 := blk_frozen hz1 10
 have c11 := blk_cell hz1 11
 have f11 := blk_frozen hz1 11
 go_wp2_with fail
 refine bodyPost_ret (results_ct rfl _ _ w.heap.size 72 #[.string ⟨#[]⟩, .string ⟨#[]⟩, .string ⟨#[]⟩, .string ⟨#[]⟩, .string ⟨#[]⟩, .string ⟨#[]⟩, .string ⟨#[]⟩, .int .i64 0, .string ⟨#[]⟩, .string ⟨#[]⟩, .string ⟨#[]⟩, .int .i64 0] (0, 0) _ rfl (by
  refine blk_put (cs := #[.string ⟨#[]⟩, .string ⟨#[]⟩, .string ⟨#[]⟩, .string ⟨#[]⟩, .string ⟨#[]⟩, .string ⟨#[]⟩, .string ⟨#[]⟩, .int .i64 0, .string ⟨#[]⟩, .string ⟨#[]⟩, .string ⟨#[]⟩, .int .i64 0]) ?_ 11 _ rfl
  refine blk_put (cs := #[.string ⟨#[]⟩, .string ⟨#[]⟩, .string ⟨#[]⟩, .string ⟨#[]⟩, .string ⟨#[]⟩, .string ⟨#[]⟩, .string ⟨#[]⟩, .int .i64 0, .string ⟨#[]⟩, .string ⟨#[]⟩, .string ⟨#[]⟩, .int .i64 0]) ?_ 10 _ rfl
  refine blk_put (cs := #[.string ⟨#[]⟩, .string ⟨#[]⟩, .string ⟨#[]⟩, .string ⟨#[]⟩, .string ⟨#[]⟩, .string ⟨#[]⟩, .string ⟨#[]⟩, .int .i64 0, .string ⟨#[]⟩, .string ⟨#[]⟩, .string ⟨#[]⟩, .int .i64 0]) ?_ 9 _ rfl
  refine blk_put (cs := #[.string ⟨#[]⟩, .string ⟨#[]⟩, .string ⟨#[]⟩, .string ⟨#[]⟩, .string ⟨#[]⟩, .string ⟨#[]⟩, .string ⟨#[]⟩, .int .i64 0, .string ⟨#[]⟩, .string ⟨#[]⟩, .string ⟨#[]⟩, .int .i64 0]) ?_ 8 _ rfl
  refine blk_put (cs := #[.string ⟨#[]⟩, .string ⟨#[]⟩, .string ⟨#[]⟩, .string ⟨#[]⟩, .string ⟨#[]⟩, .string ⟨#[]⟩, .string ⟨#[]⟩, .int .i64 0, .string ⟨#[]⟩, .string ⟨#[]⟩, .string ⟨#[]⟩, .int .i64 0]) ?_ 7 _ rfl
  refine blk_put (cs := #[.string ⟨#[]⟩, .string ⟨#[]⟩, .string ⟨#[]⟩, .string ⟨#[]⟩, .string ⟨#[]⟩, .string ⟨#[]⟩, .string ⟨#[]⟩, .int .i64 0, .string ⟨#[]⟩, .string ⟨#[]⟩, .string ⟨#[]⟩, .int .i64 0]) ?_ 6 _ rfl
  refine blk_put (cs := #[.string ⟨#[]⟩, .string ⟨#[]⟩, .string ⟨#[]⟩, .string ⟨#[]⟩, .string ⟨#[]⟩, .string ⟨#[]⟩, .string ⟨#[]⟩, .int .i64 0, .string ⟨#[]⟩, .string ⟨#[]⟩, .string ⟨#[]⟩, .int .i64 0]) ?_ 5 _ rfl
  refine blk_put (cs := #[.string ⟨#[]⟩, .string ⟨#[]⟩, .string ⟨#[]⟩, .string ⟨#[]⟩, .string ⟨#[]⟩, .string ⟨#[]⟩, .string ⟨#[]⟩, .int .i64 0, .string ⟨#[]⟩, .string ⟨#[]⟩, .string ⟨#[]⟩, .int .i64 0]) ?_ 4 _ rfl
  refine blk_put (cs := #[.string ⟨#[]⟩, .string ⟨#[]⟩, .string ⟨#[]⟩, .string ⟨#[]⟩, .string ⟨#[]⟩, .string ⟨#[]⟩, .string ⟨#[]⟩, .int .i64 0, .string ⟨#[]⟩, .string ⟨#[]⟩, .string ⟨#[]⟩, .int .i64 0]) ?_ 3 _ rfl
  refine blk_put (cs := #[.string ⟨#[]⟩, .string ⟨#[]⟩, .string ⟨#[]⟩, .string ⟨#[]⟩, .string ⟨#[]⟩, .string ⟨#[]⟩, .string ⟨#[]⟩, .int .i64 0, .string ⟨#[]⟩, .string ⟨#[]⟩, .string ⟨#[]⟩, .int .i64 0]) ?_ 2 _ rfl
  refine blk_put (cs := #[.string ⟨#[]⟩, .string ⟨#[]⟩, .string ⟨#[]⟩, .string ⟨#[]⟩, .string ⟨#[]⟩, .string ⟨#[]⟩, .string ⟨#[]⟩, .int .i64 0, .string ⟨#[]⟩, .string ⟨#[]⟩, .string ⟨#[]⟩, .int .i64 0]) ?_ 1 _ rfl
  refine blk_put (cs := #[.string ⟨#[]⟩, .string ⟨#[]⟩, .string ⟨#[]⟩, .string ⟨#[]⟩, .string ⟨#[]⟩, .string ⟨#[]⟩, .string ⟨#[]⟩, .int .i64 0, .string ⟨#[]⟩, .string ⟨#[]⟩, .string ⟨#[]⟩, .int .i64 0]) ?_ 0 _ rfl
  exact hz1) Tryz.underlying72 rfl (by kernel_rfl)) rfl ?_
 refine ⟨rfl, ?_⟩
 iterate 12 (with_reducible refine below_set ?_ (Nat.le_refl _))
 with_reducible exact hB1
set_option maxHeartbeats 2000000 in
theorem rfses_len (v : ByteArray) (hv : v.size ≤ 4294967280) (l : List ByteArray) (h : rspR v = (l, true)) (h12 : l.length ≠ 12) (w : World) :
  Calls Tryz.prog 47 #[.string v] w fun e w' => e = .returned (.tuple #[sesV sesZ, .bool false]) ∧ Below w.heap.size w w' := by
 have hB0 : Below w.heap.size w (w.alloc (.cells #[.string ⟨#[]⟩, .string ⟨#[]⟩, .string ⟨#[]⟩, .string ⟨#[]⟩, .string ⟨#[]⟩, .string ⟨#[]⟩, .string ⟨#[]⟩, .int .i64 0, .string ⟨#[]⟩, .string ⟨#[]⟩, .string ⟨#[]⟩, .int .i64 0] 72)) := (Below.refl _ w).alloc (Nat.le_refl _) _
 have hz := heap_alloc_new w (.cells #[.string ⟨#[]⟩, .string ⟨#[]⟩, .string ⟨#[]⟩, .string ⟨#[]⟩, .string ⟨#[]⟩, .string ⟨#[]⟩, .string ⟨#[]⟩, .int .i64 0, .string ⟨#[]⟩, .string ⟨#[]⟩, .string ⟨#[]⟩, .int .i64 0] 72)
 have hf := fun w1 => rsplit_says v hv w1
 rw [h] at hf
 go_enter Tryz.func47, Tryz.ntmps47
 go_wp2_with fail
 refine (hf _).mono ?_
 rintro e w1 ⟨v1, rfl, hr1, hb1⟩
 have hB1 := below_then hB0 hB0.size hb1
 have hz1 := blk_below hz hb1
 obtain ⟨A1, c1, e1⟩ := Kd.R_slice hr1
 subst e1
 have d1 : ((l.length : Int) != 12) = true := bne_iff_ne.2 (by omega)
 have d0 : ((l.length : Int) == 12) = false := beq_eq_false_iff_ne.2 (by omega)
 have d2 : decide ((l.length : Int) = 12) = false := decide_eq_false (by omega)
 have c0 := blk_cell hz1 0
 have f0 := blk_frozen hz1 0
 have c1 := blk_cell hz1 1
 have f1 := blk_frozen hz1 1
 have c2 := blk_cell hz1 2
 have f2 := blk_frozen hz1 2
 have c3 := blk_cell hz1 3
 have f3 := blk_frozen hz1 3
 have c4 := blk_cell hz1 4
 have f4 := blk_frozen hz1 4
 have c5 := blk_cell hz1 5
 have f5 := blk_frozen hz1 5
 have c6 := blk_cell hz1 6
 have f6 := blk_frozen hz1 6
 have c7 := blk_cell hz1 7
 have f7 := blk_frozen hz1 7
 have c8 := blk_cell hz1 8
 have f8 := blk_frozen hz1 8
 have c9 := blk_cell hz1 9
 have f9 := blk_frozen hz1 9
 have c10 := blk_cell hz1 10
 have f10 := blk_frozen hz1 10
 have c11 := blk_cell hz1 11
 have f11 := blk_frozen hz1 11
 go_wp2_with fail
 refine bodyPost_ret (results_ct rfl _ _ w.heap.size 72 #[.string ⟨#[]⟩, .string ⟨#[]⟩, .string ⟨#[]⟩, .string ⟨#[]⟩, .string ⟨#[]⟩, .string ⟨#[]⟩, .string ⟨#[]⟩, .int .i64 0, .string ⟨#[]⟩, .string ⟨#[]⟩, .string ⟨#[]⟩, .int .i64 0] (0, 0) _ rfl (by
  refine blk_put (cs := #[.string ⟨#[]⟩, .string ⟨#[]⟩, .string ⟨#[]⟩, .string ⟨#[]⟩, .string ⟨#[]⟩, .string ⟨#[]⟩, .string ⟨#[]⟩, .int .i64 0, .string ⟨#[]⟩, .string ⟨#[]⟩, .string ⟨#[]⟩, .int .i64 0]) ?_ 11 _ rfl
  refine blk_put (cs := #[.string ⟨#[]⟩, .string ⟨#[]⟩, .string ⟨#[]⟩, .string ⟨#[]⟩, .string ⟨#[]⟩, .string ⟨#[]⟩, .string ⟨#[]⟩, .int .i64 0, .string ⟨#[]⟩, .string ⟨#[]⟩, .string ⟨#[]⟩, .int .i64 0]) ?_ 10 _ rfl
  refine blk_put (cs := #[.string ⟨#[]⟩, .string ⟨#[]⟩, .string ⟨#[]⟩, .string ⟨#[]⟩, .string ⟨#[]⟩, .string ⟨#[]⟩, .string ⟨#[]⟩, .int .i64 0, .string ⟨#[]⟩, .string ⟨#[]⟩, .string ⟨#[]⟩, .int .i64 0]) ?_ 9 _ rfl
  refine blk_put (cs := #[.string ⟨#[]⟩, .string ⟨#[]⟩, .string ⟨#[]⟩, .string ⟨#[]⟩, .string ⟨#[]⟩, .string ⟨#[]⟩, .string ⟨#[]⟩, .int .i64 0, .string ⟨#[]⟩, .string ⟨#[]⟩, .string ⟨#[]⟩, .int .i64 0]) ?_ 8 _ rfl
  refine blk_put (cs := #[.string ⟨#[]⟩, .string ⟨#[]⟩, .string ⟨#[]⟩, .string ⟨#[]⟩, .string ⟨#[]⟩, .string ⟨#[]⟩, .string ⟨#[]⟩, .int .i64 0, .string ⟨#[]⟩, .string ⟨#[]⟩, .string ⟨#[]⟩, .int .i64 0]) ?_ 7 _ rfl
  refine blk_put (cs := #[.string ⟨#[]⟩, .string ⟨#[]⟩, .string ⟨#[]⟩, .string ⟨#[]⟩, .string ⟨#[]⟩, .string ⟨#[]⟩, .string ⟨#[]⟩, .int .i64 0, .string ⟨#[]⟩, .string ⟨#[]⟩, .string ⟨#[]⟩, .int .i64 0]) ?_ 6 _ rfl
  refine blk_put (cs := #[.string ⟨#[]⟩, .string ⟨#[]⟩, .string ⟨#[]⟩, .string ⟨#[]⟩, .string ⟨#[]⟩, .string ⟨#[]⟩, .string ⟨#[]⟩, .int .i64 0, .string ⟨#[]⟩, .string ⟨#[]⟩, .string ⟨#[]⟩, .int .i64 0]) ?_ 5 _ rfl
  refine blk_put (cs := #[.string ⟨#[]⟩, .string ⟨#[]⟩, .string ⟨#[]⟩, .string ⟨#[]⟩, .string ⟨#[]⟩, .string ⟨#[]⟩, .string ⟨#[]⟩, .int .i64 0, .string ⟨#[]⟩, .string ⟨#[]⟩, .string ⟨#[]⟩, .int .i64 0]) ?_ 4 _ rfl
  refine blk_put (cs := #[.string ⟨#[]⟩, .string ⟨#[]⟩, .string ⟨#[]⟩, .string ⟨#[]⟩, .string ⟨#[]⟩, .string ⟨#[]⟩, .string ⟨#[]⟩, .int .i64 0, .string ⟨#[]⟩, .string ⟨#[]⟩, .string ⟨#[]⟩, .int .i64 0]) ?_ 3 _ rfl
  refine blk_put (cs := #[.string ⟨#[]⟩, .string ⟨#[]⟩, .string ⟨#[]⟩, .string ⟨#[]⟩, .string ⟨#[]⟩, .string ⟨#[]⟩, .string ⟨#[]⟩, .int .i64 0, .string ⟨#[]⟩, .string ⟨#[]⟩, .string ⟨#[]⟩, .int .i64 0]) ?_ 2 _ rfl
  refine blk_put (cs := #[.string ⟨#[]⟩, .string ⟨#[]⟩, .string ⟨#[]⟩, .string ⟨#[]⟩, .string ⟨#[]⟩, .string ⟨#[]⟩, .string ⟨#[]⟩, .int .i64 0, .string ⟨#[]⟩, .string ⟨#[]⟩, .string ⟨#[]⟩, .int .i64 0]) ?_ 1 _ rfl
  refine blk_put (cs := #[.string ⟨#[]⟩, .string ⟨#[]⟩, .string ⟨#[]⟩, .string ⟨#[]⟩, .string ⟨#[]⟩, .string ⟨#[]⟩, .string ⟨#[]⟩, .int .i64 0, .string ⟨#[]⟩, .string ⟨#[]⟩, .string ⟨#[]⟩, .int .i64 0]) ?_ 0 _ rfl
  exact hz1) Tryz.underlying72 rfl (by kernel_rfl)) rfl ?_
 refine ⟨rfl, ?_⟩
 iterate 12 (with_reducible refine below_set ?_ (Nat.le_refl _))
 with_reducible exact hB1
theorem cell_far {w : World} {g j : Nat} {a : Addr} {u v : Value} (hne : g ≠ a.block) (h : w.cell? a = some u) : (w.setCell ⟨g, j, none⟩ v).cell? a = some u :=
 (World.cell?_setCell_other _ _ _ _ (fun e => hne (by rw [← e]))).trans h
theorem rspR_unTx {v : ByteArray} {l : List ByteArray} (h : rspR v = (l, true)) : unTx v = some l := by
 unfold rspR at h
 cases hu : unTx v with
 | none => rw [hu] at h; cases (Prod.mk.inj h).2
 | some l' => rw [hu] at h; rw [(Prod.mk.inj h).1]
theorem rspR_no {v : ByteArray} {l : List ByteArray} (h : rspR v = (l, false)) : unTx v = none ∧ l = [] := by
 unfold rspR at h
 cases hu : unTx v with
 | none => rw [hu] at h; exact ⟨rfl, (Prod.mk.inj h).1.symm⟩
 | some l' => rw [hu] at h; cases (Prod.mk.inj h).2
set_option maxHeartbeats 8000000 in
set_option maxRecDepth 100000 in
theorem rfses_all_true (v : ByteArray) (hv : v.size ≤ 4294967280) (s0 s1 s2 s3 s4 s5 s6 s7 s8 s9 s10 s11 : ByteArray) (h : rspR v = ([s0, s1, s2, s3, s4, s5, s6, s7, s8, s9, s10, s11], true)) (p q : Int) (b2 : Bool) (hn7 : ∀ w, Calls Tryz.prog 106 #[.string s7] w fun e w' => e = .returned (.tuple #[.int .i64 p, .bool true]) ∧ Below w.heap.size w w') (hn11 : ∀ w, Calls Tryz.prog 106 #[.string s11] w fun e w' => e = .returned (.tuple #[.int .i64 q, .bool b2]) ∧ Below w.heap.size w w') (w : World) :
  Calls Tryz.prog 47 #[.string v] w fun e w' => e = .returned (.tuple #[sesV ⟨s0, s1, s2, s3, s4, s5, s6, p, s8, s9, s10, q⟩, .bool b2]) ∧ Below w.heap.size w w' := by
 have hB0 : Below w.heap.size w (w.alloc (.cells #[.string ⟨#[]⟩, .string ⟨#[]⟩, .string ⟨#[]⟩, .string ⟨#[]⟩, .string ⟨#[]⟩, .string ⟨#[]⟩, .string ⟨#[]⟩, .int .i64 0, .string ⟨#[]⟩, .string ⟨#[]⟩, .string ⟨#[]⟩, .int .i64 0] 72)) := (Below.refl _ w).alloc (Nat.le_refl _) _
 have hz := heap_alloc_new w (.cells #[.string ⟨#[]⟩, .string ⟨#[]⟩, .string ⟨#[]⟩, .string ⟨#[]⟩, .string ⟨#[]⟩, .string ⟨#[]⟩, .string ⟨#[]⟩, .int .i64 0, .string ⟨#[]⟩, .string ⟨#[]⟩, .string ⟨#[]⟩, .int .i64 0] 72)
 have hf := fun w1 => rsplit_says v hv w1
 rw [h] at hf
 have hn7 := fun w1 (_ : Below w.heap.size w w1) => hn7 w1
 obtain ⟨n, hn⟩ : ∃ n, n = ([s0, s1, s2, s3, s4, s5, s6, s7, s8, s9, s10, s11] : List ByteArray).length := ⟨_, rfl⟩
 have hn12 : 12 ≤ n := by rw [hn]; simp
 have hn12' : n = 12 := by rw [hn]; rfl
 have d1 : ((n : Int) != 12) = false := by rw [hn12']; rfl
 have d0 : ((n : Int) == 12) = true := by rw [hn12']; rfl
 have d2 : decide ((n : Int) = 12) = true := by rw [hn12']; rfl
 clear hn12'
 have i0 : ((0 : Int) < (n : Int)) = True := eq_true (by omega)
 have j0 : 0 < n := by omega
 have i1 : ((1 : Int) < (n : Int)) = True := eq_true (by omega)
 have j1 : 1 < n := by omega
 have i2 : ((2 : Int) < (n : Int)) = True := eq_true (by omega)
 have j2 : 2 < n := by omega
 have i3 : ((3 : Int) < (n : Int)) = True := eq_true (by omega)
 have j3 : 3 < n := by omega
 have i4 : ((4 : Int) < (n : Int)) = True := eq_true (by omega)
 have j4 : 4 < n := by omega
 have i5 : ((5 : Int) < (n : Int)) = True := eq_true (by omega)
 have j5 : 5 < n := by omega
 have i6 : ((6 : Int) < (n : Int)) = True := eq_true (by omega)
 have j6 : 6 < n := by omega
 have i7 : ((7 : Int) < (n : Int)) = True := eq_true (by omega)
 have j7 : 7 < n := by omega
 have i8 : ((8 : Int) < (n : Int)) = True := eq_true (by omega)
 have j8 : 8 < n := by omega
 have i9 : ((9 : Int) < (n : Int)) = True := eq_true (by omega)
 have j9 : 9 < n := by omega
 have i10 : ((10 : Int) < (n : Int)) = True := eq_true (by omega)
 have j10 : 10 < n := by omega
 have i11 : ((11 : Int) < (n : Int)) = True := eq_true (by omega)
 have j11 : 11 < n := by omega
 go_enter Tryz.func47, Tryz.ntmps47
 go_wp2_with fail
 refine (hf _).mono ?_
 rintro e w1 ⟨v1, rfl, hr1, hb1⟩
 have hB1 := below_then hB0 hB0.size hb1
 have hz1 := blk_below hz hb1
 obtain ⟨A1, c1, e1⟩ := Kd.R_slice hr1
 subst e1
 have hown : A1.map (·.block) ≠ some w.heap.size := by
  intro he
  cases A1 with
  | none => cases he
  | some ad0 =>
   have hb9 := Kd.R_base hr1 _ (show (Value.slice (some ad0) _ c1).ownBlock = some ad0.block from rfl)
   have he2 : ad0.block = w.heap.size := Option.some.inj he
   have h2 := (Array.getElem?_eq_some_iff.1 hz).1
   omega
 obtain ⟨ad, rfl, x0, x1, x2, x3, x4, x5, x6, x7, x8, x9, x10, x11⟩ := row12 rfl (Kd.R_reads' hr1).2.2
 have hadb : w.heap.size ≠ ad.block := fun e => hown (by rw [e]; rfl)
 clear hown
 rw [← hn]
 clear hr1 hn hf
 have hn7 := hn7 _ hB1
 go_wp2_with fail
 refine hn7.mono ?_
 rintro e w2 ⟨rfl, hb2⟩
 have hB2 := below_then hB1 hB1.size hb2
 have hz2 := blk_below hz1 hb2
 have hn11 := hn11 w2
 have x0 := cellL hb2 x0
 have x1 := cellL hb2 x1
 have x2 := cellL hb2 x2
 have x3 := cellL hb2 x3
 have x4 := cellL hb2 x4
 have x5 := cellL hb2 x5
 have x6 := cellL hb2 x6
 have x7 := cellL hb2 x7
 have x8 := cellL hb2 x8
 have x9 := cellL hb2 x9
 have x10 := cellL hb2 x10
 have x11 := cellL hb2 x11
 go_wp2_with fail
 refine hn11.mono ?_
 rintro e w3 ⟨rfl, hb3⟩
 have hB3 := below_then hB2 hB2.size hb3
 have hz3 := blk_below hz2 hb3
 have x0 := cellL hb3 x0
 have x1 := cellL hb3 x1
 have x2 := cellL hb3 x2
 have x3 := cellL hb3 x3
 have x4 := cellL hb3 x4
 have x5 := cellL hb3 x5
 have x6 := cellL hb3 x6
 have x7 := cellL hb3 x7
 have x8 := cellL hb3 x8
 have x9 := cellL hb3 x9
 have x10 := cellL hb3 x10
 have x11 := cellL hb3 x11
 have hne0 : ∀ i : Nat, (⟨w.heap.size, i, none⟩ : Addr) ≠ ad := fun i e => hadb (by rw [← e])
 have hne : ∀ i k : Nat, (⟨w.heap.size, i, none⟩ : Addr) ≠ ⟨ad.block, k, none⟩ := fun i k e => hadb (Addr.mk.inj e).1
 go_wp2_with fail
 have hz4 : w3.drew.heap[w.heap.size]? = some (.cells #[.string ⟨#[]⟩, .string ⟨#[]⟩, .string ⟨#[]⟩, .string ⟨#[]⟩, .string ⟨#[]⟩, .string ⟨#[]⟩, .string ⟨#[]⟩, .int .i64 0, .string ⟨#[]⟩, .string ⟨#[]⟩, .string ⟨#[]⟩, .int .i64 0] 72 (0, 0)) := hz3
 have hB4 := below_drew hB3
 refine start_ (n := 39) (S := fun w' => w'.cell? ad = some (.string s0) ∧ w'.cell? ⟨ad.block, ad.off + 1, none⟩ = some (.string s1) ∧ w'.cell? ⟨ad.block, ad.off + 2, none⟩ = some (.string s2) ∧ w'.cell? ⟨ad.block, ad.off + 3, none⟩ = some (.string s3) ∧ w'.cell? ⟨ad.block, ad.off + 4, none⟩ = some (.string s4) ∧ w'.cell? ⟨ad.block, ad.off + 5, none⟩ = some (.string s5) ∧ w'.cell? ⟨ad.block, ad.off + 6, none⟩ = some (.string s6) ∧ w'.cell? ⟨ad.block, ad.off + 8, none⟩ = some (.string s8) ∧ w'.cell? ⟨ad.block, ad.off + 9, none⟩ = some (.string s9) ∧ w'.cell? ⟨ad.block, ad.off + 10, none⟩ = some (.string s10)) (ds := [37]) #[false, false, false, false, false, false, false, false, false, false, false, false, false, false, false, false, false, false, false, false, false, false, false, false, false, false, false, false, false, false, false, false, false, false, false, false, false, false, false] (by kernel_rfl) rfl rfl ⟨x0, x1, x2, x3, x4, x5, x6, x8, x9, x10⟩ (fun hHeld => ?_)
 generalize w3.drew = w4 at hz4 hB4 hHeld ⊢
 have c0 := blk_cell hz4 0
 have f0 := blk_frozen hz4 0
 have c1 := blk_cell hz4 1
 have f1 := blk_frozen hz4 1
 have c2 := blk_cell hz4 2
 have f2 := blk_frozen hz4 2
 have c3 := blk_cell hz4 3
 have f3 := blk_frozen hz4 3
 have c4 := blk_cell hz4 4
 have f4 := blk_frozen hz4 4
 have c5 := blk_cell hz4 5
 have f5 := blk_frozen hz4 5
 have c6 := blk_cell hz4 6
 have f6 := blk_frozen hz4 6
 have c7 := blk_cell hz4 7
 have f7 := blk_frozen hz4 7
 have c8 := blk_cell hz4 8
 have f8 := blk_frozen hz4 8
 have c9 := blk_cell hz4 9
 have f9 := blk_frozen hz4 9
 have c10 := blk_cell hz4 10
 have f10 := blk_frozen hz4 10
 have c11 := blk_cell hz4 11
 have f11 := blk_frozen hz4 11
 refine pure_ (i := 0) (N := some 37) (v := ?_) (a' := ?_) #[true, false, false, false, false, false, false, false, false, false, false, false, false, false, false, false, false, false, false, false, false, false, false, false, false, false, false, false, false, false, false, false, false, false, false, false, false, false, false] rfl rfl (by kernel_rfl) (fun _ _ _ h => h) (Or.inl ⟨by rfl, ?_⟩) ?_ ?_
 rotate_left
 ·
  intro w'
  go_simp
  with_reducible rfl
 rotate_left
 ·
  simp only [Act.put, List.setIfInBounds_toArray, List.set_cons_zero, List.set_cons_succ, i64_w, i32_w]
  rfl
 refine pure_ (i := 1) (N := some 38) (v := ?_) (a' := ?_) #[true, true, false, false, false, false, false, false, false, false, false, false, false, false, false, false, false, false, false, false, false, false, false, false, false, false, false, false, false, false, false, false, false, false, false, false, false, false, false] rfl rfl (by kernel_rfl) (fun _ _ _ h => h) (Or.inl ⟨by rfl, ?_⟩) ?_ ?_
 rotate_left
 ·
  intro w'
  go_simp
  with_reducible rfl
 rotate_left
 ·
  simp only [Act.put, List.setIfInBounds_toArray, List.set_cons_zero, List.set_cons_succ, i64_w, i32_w]
  rfl
 refine pure_ (i := 3) (N := some 40) (v := ?_) (a' := ?_) #[true, true, false, true, false, false, false, false, false, false, false, false, false, false, false, false, false, false, false, false, false, false, false, false, false, false, false, false, false, false, false, false, false, false, false, false, false, false, false] rfl rfl (by kernel_rfl) (fun _ _ _ h => h) (Or.inl ⟨by rfl, ?_⟩) ?_ ?_
 rotate_left
 ·
  intro w'
  go_simp
  with_reducible rfl
 rotate_left
 ·
  simp only [Act.put, List.setIfInBounds_toArray, List.set_cons_zero, List.set_cons_succ, i64_w, i32_w]
  rfl
 refine pure_ (i := 4) (N := some 41) (v := ?_) (a' := ?_) #[true, true, false, true, true, false, false, false, false, false, false, false, false, false, false, false, false, false, false, false, false, false, false, false, false, false, false, false, false, false, false, false, false, false, false, false, false, false, false] rfl rfl (by kernel_rfl) (fun _ _ _ h => h) (Or.inl ⟨by rfl, ?_⟩) ?_ ?_
 rotate_left
 ·
  intro w'
  go_simp
  with_reducible rfl
 rotate_left
 ·
  simp only [Act.put, List.setIfInBounds_toArray, List.set_cons_zero, List.set_cons_succ, i64_w, i32_w]
  rfl
 refine pure_ (i := 6) (N := some 43) (v := ?_) (a' := ?_) #[true, true, false, true, true, false, true, false, false, false, false, false, false, false, false, false, false, false, false, false, false, false, false, false, false, false, false, false, false, false, false, false, false, false, false, false, false, false, false] rfl rfl (by kernel_rfl) (fun _ _ _ h => h) (Or.inl ⟨by rfl, ?_⟩) ?_ ?_
 rotate_left
 ·
  intro w'
  go_simp
  with_reducible rfl
 rotate_left
 ·
  simp only [Act.put, List.setIfInBounds_toArray, List.set_cons_zero, List.set_cons_succ, i64_w, i32_w]
  rfl
 refine pure_ (i := 7) (N := some 44) (v := ?_) (a' := ?_) #[true, true, false, true, true, false, true, true, false, false, false, false, false, false, false, false, false, false, false, false, false, false, false, false, false, false, false, false, false, false, false, false, false, false, false, false, false, false, false] rfl rfl (by kernel_rfl) (fun _ _ _ h => h) (Or.inl ⟨by rfl, ?_⟩) ?_ ?_
 rotate_left
 ·
  intro w'
  go_simp
  with_reducible rfl
 rotate_left
 ·
  simp only [Act.put, List.setIfInBounds_toArray, List.set_cons_zero, List.set_cons_succ, i64_w, i32_w]
  rfl
 refine pure_ (i := 9) (N := some 46) (v := ?_) (a' := ?_) #[true, true, false, true, true, false, true, true, false, true, false, false, false, false, false, false, false, false, false, false, false, false, false, false, false, false, false, false, false, false, false, false, false, false, false, false, false, false, false] rfl rfl (by kernel_rfl) (fun _ _ _ h => h) (Or.inl ⟨by rfl, ?_⟩) ?_ ?_
 rotate_left
 ·
  intro w'
  go_simp
  with_reducible rfl
 rotate_left
 ·
  simp only [Act.put, List.setIfInBounds_toArray, List.set_cons_zero, List.set_cons_succ, i64_w, i32_w]
  rfl
 refine pure_ (i := 10) (N := some 47) (v := ?_) (a' := ?_) #[true, true, false, true, true, false, true, true, false, true, true, false, false, false, false, false, false, false, false, false, false, false, false, false, false, false, false, false, false, false, false, false, false, false, false, false, false, false, false] rfl rfl (by kernel_rfl) (fun _ _ _ h => h) (Or.inl ⟨by rfl, ?_⟩) ?_ ?_
 rotate_left
 ·
  intro w'
  go_simp
  with_reducible rfl
 rotate_left
 ·
  simp only [Act.put, List.setIfInBounds_toArray, List.set_cons_zero, List.set_cons_succ, i64_w, i32_w]
  rfl
 refine pure_ (i := 12) (N := some 49) (v := ?_) (a' := ?_) #[true, true, false, true, true, false, true, true, false, true, true, false, true, false, false, false, false, false, false, false, false, false, false, false, false, false, false, false, false, false, false, false, false, false, false, false, false, false, false] rfl rfl (by kernel_rfl) (fun _ _ _ h => h) (Or.inl ⟨by rfl, ?_⟩) ?_ ?_
 rotate_left
 ·
  intro w'
  go_simp
  with_reducible rfl
 rotate_left
 ·
  simp only [Act.put, List.setIfInBounds_toArray, List.set_cons_zero, List.set_cons_succ, i64_w, i32_w]
  rfl
 refine pure_ (i := 13) (N := some 50) (v := ?_) (a' := ?_) #[true, true, false, true, true, false, true, true, false, true, true, false, true, true, false, false, false, false, false, false, false, false, false, false, false, false, false, false, false, false, false, false, false, false, false, false, false, false, false] rfl rfl (by kernel_rfl) (fun _ _ _ h => h) (Or.inl ⟨by rfl, ?_⟩) ?_ ?_
 rotate_left
 ·
  intro w'
  go_simp
  with_reducible rfl
 rotate_left
 ·
  simp only [Act.put, List.setIfInBounds_toArray, List.set_cons_zero, List.set_cons_succ, i64_w, i32_w]
  rfl
 refine pure_ (i := 15) (N := some 52) (v := ?_) (a' := ?_) #[true, true, false, true, true, false, true, true, false, true, true, false, true, true, false, true, false, false, false, false, false, false, false, false, false, false, false, false, false, false, false, false, false, false, false, false, false, false, false] rfl rfl (by kernel_rfl) (fun _ _ _ h => h) (Or.inl ⟨by rfl, ?_⟩) ?_ ?_
 rotate_left
 ·
  intro w'
  go_simp
  with_reducible rfl
 rotate_left
 ·
  simp only [Act.put, List.setIfInBounds_toArray, List.set_cons_zero, List.set_cons_succ, i64_w, i32_w]
  rfl
 refine pure_ (i := 16) (N := some 53) (v := ?_) (a' := ?_) #[true, true, false, true, true, false, true, true, false, true, true, false, true, true, false, true, true, false, false, false, false, false, false, false, false, false, false, false, false, false, false, false, false, false, false, false, false, false, false] rfl rfl (by kernel_rfl) (fun _ _ _ h => h) (Or.inl ⟨by rfl, ?_⟩) ?_ ?_
 rotate_left
 ·
  intro w'
  go_simp
  with_reducible rfl
 rotate_left
 ·
  simp only [Act.put, List.setIfInBounds_toArray, List.set_cons_zero, List.set_cons_succ, i64_w, i32_w]
  rfl
 refine pure_ (i := 18) (N := some 55) (v := ?_) (a' := ?_) #[true, true, false, true, true, false, true, true, false, true, true, false, true, true, false, true, true, false, true, false, false, false, false, false, false, false, false, false, false, false, false, false, false, false, false, false, false, false, false] rfl rfl (by kernel_rfl) (fun _ _ _ h => h) (Or.inl ⟨by rfl, ?_⟩) ?_ ?_
 rotate_left
 ·
  intro w'
  go_simp
  with_reducible rfl
 rotate_left
 ·
  simp only [Act.put, List.setIfInBounds_toArray, List.set_cons_zero, List.set_cons_succ, i64_w, i32_w]
  rfl
 refine pure_ (i := 19) (N := some 56) (v := ?_) (a' := ?_) #[true, true, false, true, true, false, true, true, false, true, true, false, true, true, false, true, true, false, true, true, false, false, false, false, false, false, false, false, false, false, false, false, false, false, false, false, false, false, false] rfl rfl (by kernel_rfl) (fun _ _ _ h => h) (Or.inl ⟨by rfl, ?_⟩) ?_ ?_
 rotate_left
 ·
  intro w'
  go_simp
  with_reducible rfl
 rotate_left
 ·
  simp only [Act.put, List.setIfInBounds_toArray, List.set_cons_zero, List.set_cons_succ, i64_w, i32_w]
  rfl
 refine pure_ (i := 21) (N := some 58) (v := ?_) (a' := ?_) #[true, true, false, true, true, false, true, true, false, true, true, false, true, true, false, true, true, false, true, true, false, true, false, false, false, false, false, false, false, false, false, false, false, false, false, false, false, false, false] rfl rfl (by kernel_rfl) (fun _ _ _ h => h) (Or.inl ⟨by rfl, ?_⟩) ?_ ?_
 rotate_left
 ·
  intro w'
  go_simp
  with_reducible rfl
 rotate_left
 ·
  simp only [Act.put, List.setIfInBounds_toArray, List.set_cons_zero, List.set_cons_succ, i64_w, i32_w]
  rfl
 refine pure_ (i := 22) (N := some 59) (v := ?_) (a' := ?_) #[true, true, false, true, true, false, true, true, false, true, true, false, true, true, false, true, true, false, true, true, false, true, true, false, false, false, false, false, false, false, false, false, false, false, false, false, false, false, false] rfl rfl (by kernel_rfl) (fun _ _ _ h => h) (Or.inl ⟨by rfl, ?_⟩) ?_ ?_
 rotate_left
 ·
  intro w'
  go_simp
  with_reducible rfl
 rotate_left
 ·
  simp only [Act.put, List.setIfInBounds_toArray, List.set_cons_zero, List.set_cons_succ, i64_w, i32_w]
  rfl
 refine pure_ (i := 23) (N := some 60) (v := ?_) (a' := ?_) #[true, true, false, true, true, false, true, true, false, true, true, false, true, true, false, true, true, false, true, true, false, true, true, true, false, false, false, false, false, false, false, false, false, false, false, false, false, false, false] rfl rfl (by kernel_rfl) (fun _ _ _ h => h) (Or.inl ⟨by rfl, ?_⟩) ?_ ?_
 rotate_left
 ·
  intro w'
  go_simp
  with_reducible rfl
 rotate_left
 ·
  simp only [Act.put, List.setIfInBounds_toArray, List.set_cons_zero, List.set_cons_succ, i64_w, i32_w]
  rfl
 refine pure_ (i := 25) (N := some 62) (v := ?_) (a' := ?_) #[true, true, false, true, true, false, true, true, false, true, true, false, true, true, false, true, true, false, true, true, false, true, true, true, false, true, false, false, false, false, false, false, false, false, false, false, false, false, false] rfl rfl (by kernel_rfl) (fun _ _ _ h => h) (Or.inl ⟨by rfl, ?_⟩) ?_ ?_
 rotate_left
 ·
  intro w'
  go_simp
  with_reducible rfl
 rotate_left
 ·
  simp only [Act.put, List.setIfInBounds_toArray, List.set_cons_zero, List.set_cons_succ, i64_w, i32_w]
  rfl
 refine pure_ (i := 26) (N := some 63) (v := ?_) (a' := ?_) #[true, true, false, true, true, false, true, true, false, true, true, false, true, true, false, true, true, false, true, true, false, true, true, true, false, true, true, false, false, false, false, false, false, false, false, false, false, false, false] rfl rfl (by kernel_rfl) (fun _ _ _ h => h) (Or.inl ⟨by rfl, ?_⟩) ?_ ?_
 rotate_left
 ·
  intro w'
  go_simp
  with_reducible rfl
 rotate_left
 ·
  simp only [Act.put, List.setIfInBounds_toArray, List.set_cons_zero, List.set_cons_succ, i64_w, i32_w]
  rfl
 refine pure_ (i := 28) (N := some 65) (v := ?_) (a' := ?_) #[true, true, false, true, true, false, true, true, false, true, true, false, true, true, false, true, true, false, true, true, false, true, true, true, false, true, true, false, true, false, false, false, false, false, false, false, false, false, false] rfl rfl (by kernel_rfl) (fun _ _ _ h => h) (Or.inl ⟨by rfl, ?_⟩) ?_ ?_
 rotate_left
 ·
  intro w'
  go_simp
  with_reducible rfl
 rotate_left
 ·
  simp only [Act.put, List.setIfInBounds_toArray, List.set_cons_zero, List.set_cons_succ, i64_w, i32_w]
  rfl
 refine pure_ (i := 29) (N := some 66) (v := ?_) (a' := ?_) #[true, true, false, true, true, false, true, true, false, true, true, false, true, true, false, true, true, false, true, true, false, true, true, true, false, true, true, false, true, true, false, false, false, false, false, false, false, false, false] rfl rfl (by kernel_rfl) (fun _ _ _ h => h) (Or.inl ⟨by rfl, ?_⟩) ?_ ?_
 rotate_left
 ·
  intro w'
  go_simp
  with_reducible rfl
 rotate_left
 ·
  simp only [Act.put, List.setIfInBounds_toArray, List.set_cons_zero, List.set_cons_succ, i64_w, i32_w]
  rfl
 refine pure_ (i := 31) (N := some 68) (v := ?_) (a' := ?_) #[true, true, false, true, true, false, true, true, false, true, true, false, true, true, false, true, true, false, true, true, false, true, true, true, false, true, true, false, true, true, false, true, false, false, false, false, false, false, false] rfl rfl (by kernel_rfl) (fun _ _ _ h => h) (Or.inl ⟨by rfl, ?_⟩) ?_ ?_
 rotate_left
 ·
  intro w'
  go_simp
  with_reducible rfl
 rotate_left
 ·
  simp only [Act.put, List.setIfInBounds_toArray, List.set_cons_zero, List.set_cons_succ, i64_w, i32_w]
  rfl
 refine pure_ (i := 33) (N := some 70) (v := ?_) (a' := ?_) #[true, true, false, true, true, false, true, true, false, true, true, false, true, true, false, true, true, false, true, true, false, true, true, true, false, true, true, false, true, true, false, true, false, true, false, false, false, false, false] rfl rfl (by kernel_rfl) (fun _ _ _ h => h) (Or.inl ⟨by rfl, ?_⟩) ?_ ?_
 rotate_left
 ·
  intro w'
  go_simp
  with_reducible rfl
 rotate_left
 ·
  simp only [Act.put, List.setIfInBounds_toArray, List.set_cons_zero, List.set_cons_succ, i64_w, i32_w]
  rfl
 refine pure_ (i := 34) (N := some 71) (v := ?_) (a' := ?_) #[true, true, false, true, true, false, true, true, false, true, true, false, true, true, false, true, true, false, true, true, false, true, true, true, false, true, true, false, true, true, false, true, false, true, true, false, false, false, false] rfl rfl (by kernel_rfl) (fun _ _ _ h => h) (Or.inl ⟨by rfl, ?_⟩) ?_ ?_
 rotate_left
 ·
  intro w'
  go_simp
  with_reducible rfl
 rotate_left
 ·
  simp only [Act.put, List.setIfInBounds_toArray, List.set_cons_zero, List.set_cons_succ, i64_w, i32_w]
  rfl
 refine pure_ (i := 35) (N := some 72) (v := ?_) (a' := ?_) #[true, true, false, true, true, false, true, true, false, true, true, false, true, true, false, true, true, false, true, true, false, true, true, true, false, true, true, false, true, true, false, true, false, true, true, true, false, false, false] rfl rfl (by kernel_rfl) (fun _ _ _ h => h) (Or.inl ⟨by rfl, ?_⟩) ?_ ?_
 rotate_left
 ·
  intro w'
  go_simp
  with_reducible rfl
 rotate_left
 ·
  simp only [Act.put, List.setIfInBounds_toArray, List.set_cons_zero, List.set_cons_succ, i64_w, i32_w]
  rfl
 refine pure_ (i := 36) (N := some 73) (v := ?_) (a' := ?_) #[true, true, false, true, true, false, true, true, false, true, true, false, true, true, false, true, true, false, true, true, false, true, true, true, false, true, true, false, true, true, false, true, false, true, true, true, true, false, false] rfl rfl (by kernel_rfl) (fun _ _ _ h => h) (Or.inl ⟨by rfl, ?_⟩) ?_ ?_
 rotate_left
 ·
  intro w'
  go_simp
  with_reducible rfl
 rotate_left
 ·
  simp only [Act.put, List.setIfInBounds_toArray, List.set_cons_zero, List.set_cons_succ, i64_w, i32_w]
  rfl
 refine take_ (i := 2) (N := some 39) (v := ?_) (a' := ?_) #[true, true, true, true, true, false, true, true, false, true, true, false, true, true, false, true, true, false, true, true, false, true, true, true, false, true, true, false, true, true, false, true, false, true, true, true, true, false, false] rfl rfl (by kernel_rfl) (fun _ _ _ h => h) (Or.inl ⟨by rfl, ?_⟩) hHeld ?_ ?_
 rotate_left
 ·
  rintro w' ⟨s0, s1, s2, s3, s4, s5, s6, s7, s8, s9⟩
  go_simp
  with_reducible rfl
 rotate_left
 ·
  simp only [Act.put, List.setIfInBounds_toArray, List.set_cons_zero, List.set_cons_succ, i64_w, i32_w]
  rfl
 refine take_ (i := 5) (N := some 42) (v := ?_) (a' := ?_) #[true, true, true, true, true, true, true, true, false, true, true, false, true, true, false, true, true, false, true, true, false, true, true, true, false, true, true, false, true, true, false, true, false, true, true, true, true, false, false] rfl rfl (by kernel_rfl) (fun _ _ _ h => h) (Or.inl ⟨by rfl, ?_⟩) hHeld ?_ ?_
 rotate_left
 ·
  rintro w' ⟨s0, s1, s2, s3, s4, s5, s6, s7, s8, s9⟩
  go_simp
  with_reducible rfl
 rotate_left
 ·
  simp only [Act.put, List.setIfInBounds_toArray, List.set_cons_zero, List.set_cons_succ, i64_w, i32_w]
  rfl
 refine take_ (i := 8) (N := some 45) (v := ?_) (a' := ?_) #[true, true, true, true, true, true, true, true, true, true, true, false, true, true, false, true, true, false, true, true, false, true, true, true, false, true, true, false, true, true, false, true, false, true, true, true, true, false, false] rfl rfl (by kernel_rfl) (fun _ _ _ h => h) (Or.inl ⟨by rfl, ?_⟩) hHeld ?_ ?_
 rotate_left
 ·
  rintro w' ⟨s0, s1, s2, s3, s4, s5, s6, s7, s8, s9⟩
  go_simp
  with_reducible rfl
 rotate_left
 ·
  simp only [Act.put, List.setIfInBounds_toArray, List.set_cons_zero, List.set_cons_succ, i64_w, i32_w]
  rfl
 refine take_ (i := 11) (N := some 48) (v := ?_) (a' := ?_) #[true, true, true, true, true, true, true, true, true, true, true, true, true, true, false, true, true, false, true, true, false, true, true, true, false, true, true, false, true, true, false, true, false, true, true, true, true, false, false] rfl rfl (by kernel_rfl) (fun _ _ _ h => h) (Or.inl ⟨by rfl, ?_⟩) hHeld ?_ ?_
 rotate_left
 ·
  rintro w' ⟨s0, s1, s2, s3, s4, s5, s6, s7, s8, s9⟩
  go_simp
  with_reducible rfl
 rotate_left
 ·
  simp only [Act.put, List.setIfInBounds_toArray, List.set_cons_zero, List.set_cons_succ, i64_w, i32_w]
  rfl
 refine take_ (i := 14) (N := some 51) (v := ?_) (a' := ?_) #[true, true, true, true, true, true, true, true, true, true, true, true, true, true, true, true, true, false, true, true, false, true, true, true, false, true, true, false, true, true, false, true, false, true, true, true, true, false, false] rfl rfl (by kernel_rfl) (fun _ _ _ h => h) (Or.inl ⟨by rfl, ?_⟩) hHeld ?_ ?_
 rotate_left
 ·
  rintro w' ⟨s0, s1, s2, s3, s4, s5, s6, s7, s8, s9⟩
  go_simp
  with_reducible rfl
 rotate_left
 ·
  simp only [Act.put, List.setIfInBounds_toArray, List.set_cons_zero, List.set_cons_succ, i64_w, i32_w]
  rfl
 refine take_ (i := 17) (N := some 54) (v := ?_) (a' := ?_) #[true, true, true, true, true, true, true, true, true, true, true, true, true, true, true, true, true, true, true, true, false, true, true, true, false, true, true, false, true, true, false, true, false, true, true, true, true, false, false] rfl rfl (by kernel_rfl) (fun _ _ _ h => h) (Or.inl ⟨by rfl, ?_⟩) hHeld ?_ ?_
 rotate_left
 ·
  rintro w' ⟨s0, s1, s2, s3, s4, s5, s6, s7, s8, s9⟩
  go_simp
  with_reducible rfl
 rotate_left
 ·
  simp only [Act.put, List.setIfInBounds_toArray, List.set_cons_zero, List.set_cons_succ, i64_w, i32_w]
  rfl
 refine take_ (i := 20) (N := some 57) (v := ?_) (a' := ?_) #[true, true, true, true, true, true, true, true, true, true, true, true, true, true, true, true, true, true, true, true, true, true, true, true, false, true, true, false, true, true, false, true, false, true, true, true, true, false, false] rfl rfl (by kernel_rfl) (fun _ _ _ h => h) (Or.inl ⟨by rfl, ?_⟩) hHeld ?_ ?_
 rotate_left
 ·
  rintro w' ⟨s0, s1, s2, s3, s4, s5, s6, s7, s8, s9⟩
  go_simp
  with_reducible rfl
 rotate_left
 ·
  simp only [Act.put, List.setIfInBounds_toArray, List.set_cons_zero, List.set_cons_succ, i64_w, i32_w]
  rfl
 refine take_ (i := 24) (N := some 61) (v := ?_) (a' := ?_) #[true, true, true, true, true, true, true, true, true, true, true, true, true, true, true, true, true, true, true, true, true, true, true, true, true, true, true, false, true, true, false, true, false, true, true, true, true, false, false] rfl rfl (by kernel_rfl) (fun _ _ _ h => h) (Or.inl ⟨by rfl, ?_⟩) hHeld ?_ ?_
 rotate_left
 ·
  rintro w' ⟨s0, s1, s2, s3, s4, s5, s6, s7, s8, s9⟩
  go_simp
  with_reducible rfl
 rotate_left
 ·
  simp only [Act.put, List.setIfInBounds_toArray, List.set_cons_zero, List.set_cons_succ, i64_w, i32_w]
  rfl
 refine take_ (i := 27) (N := some 64) (v := ?_) (a' := ?_) #[true, true, true, true, true, true, true, true, true, true, true, true, true, true, true, true, true, true, true, true, true, true, true, true, true, true, true, true, true, true, false, true, false, true, true, true, true, false, false] rfl rfl (by kernel_rfl) (fun _ _ _ h => h) (Or.inl ⟨by rfl, ?_⟩) hHeld ?_ ?_
 rotate_left
 ·
  rintro w' ⟨s0, s1, s2, s3, s4, s5, s6, s7, s8, s9⟩
  go_simp
  with_reducible rfl
 rotate_left
 ·
  simp only [Act.put, List.setIfInBounds_toArray, List.set_cons_zero, List.set_cons_succ, i64_w, i32_w]
  rfl
 refine take_ (i := 30) (N := some 67) (v := ?_) (a' := ?_) #[true, true, true, true, true, true, true, true, true, true, true, true, true, true, true, true, true, true, true, true, true, true, true, true, true, true, true, true, true, true, true, true, false, true, true, true, true, false, false] rfl rfl (by kernel_rfl) (fun _ _ _ h => h) (Or.inl ⟨by rfl, ?_⟩) hHeld ?_ ?_
 rotate_left
 ·
  rintro w' ⟨s0, s1, s2, s3, s4, s5, s6, s7, s8, s9⟩
  go_simp
  with_reducible rfl
 rotate_left
 ·
  simp only [Act.put, List.setIfInBounds_toArray, List.set_cons_zero, List.set_cons_succ, i64_w, i32_w]
  rfl
 refine pure_ (i := 32) (N := some 69) (v := ?_) (a' := ?_) #[true, true, true, true, true, true, true, true, true, true, true, true, true, true, true, true, true, true, true, true, true, true, true, true, true, true, true, true, true, true, true, true, true, true, true, true, true, false, false] rfl rfl (by kernel_rfl) (fun _ _ _ h => h) (Or.inl ⟨by rfl, ?_⟩) ?_ ?_
 rotate_left
 ·
  intro w'
  go_simp
  with_reducible rfl
 rotate_left
 ·
  simp only [Act.put, List.setIfInBounds_toArray, List.set_cons_zero, List.set_cons_succ, i64_w, i32_w]
  rfl
 refine last_ (i := 37) (N := none) #[true, true, true, true, true, true, true, true, true, true, true, true, true, true, true, true, true, true, true, true, true, true, true, true, true, true, true, true, true, true, true, true, true, true, true, true, true, true, false] rfl rfl (by kernel_rfl) (by decide) (fun K hK => ?_)
 refine skip_ (w1 := ?_) (by rfl) rfl ?_ ?_
 rotate_left
 ·
  go_simp
  rfl
 refine hK.out _ _ ?_
 clear hK K
 refine pure_ (i := 38) (N := some 3) (v := ?_) (a' := ?_) #[true, true, true, true, true, true, true, true, true, true, true, true, true, true, true, true, true, true, true, true, true, true, true, true, true, true, true, true, true, true, true, true, true, true, true, true, true, true, true] rfl rfl (by kernel_rfl) (fun _ _ _ h => h) (Or.inl ⟨by rfl, ?_⟩) ?_ ?_
 rotate_left
 ·
  intro w'
  go_simp
  with_reducible rfl
 rotate_left
 ·
  simp only [Act.put, List.setIfInBounds_toArray, List.set_cons_zero, List.set_cons_succ, i64_w, i32_w]
  rfl
 refine done_ (by kernel_rfl) ?_
 go_wp2_with fail
 refine bodyPost_ret (results_ct rfl _ _ w.heap.size 72 #[.string s0, .string s1, .string s2, .string s3, .string s4, .string s5, .string s6, .int .i64 p, .string s8, .string s9, .string s10, .int .i64 q] (0, 0) _ rfl (by
  refine blk_put (cs := #[.string s0, .string s1, .string s2, .string s3, .string s4, .string s5, .string s6, .int .i64 p, .string s8, .string s9, .string s10, .int .i64 0]) ?_ 11 _ rfl
  refine blk_put (cs := #[.string s0, .string s1, .string s2, .string s3, .string s4, .string s5, .string s6, .int .i64 p, .string s8, .string s9, .string ⟨#[]⟩, .int .i64 0]) ?_ 10 _ rfl
  refine blk_put (cs := #[.string s0, .string s1, .string s2, .string s3, .string s4, .string s5, .string s6, .int .i64 p, .string s8, .string ⟨#[]⟩, .string ⟨#[]⟩, .int .i64 0]) ?_ 9 _ rfl
  refine blk_put (cs := #[.string s0, .string s1, .string s2, .string s3, .string s4, .string s5, .string s6, .int .i64 p, .string ⟨#[]⟩, .string ⟨#[]⟩, .string ⟨#[]⟩, .int .i64 0]) ?_ 8 _ rfl
  refine blk_put (cs := #[.string s0, .string s1, .string s2, .string s3, .string s4, .string s5, .string s6, .int .i64 0, .string ⟨#[]⟩, .string ⟨#[]⟩, .string ⟨#[]⟩, .int .i64 0]) ?_ 7 _ rfl
  refine blk_put (cs := #[.string s0, .string s1, .string s2, .string s3, .string s4, .string s5, .string ⟨#[]⟩, .int .i64 0, .string ⟨#[]⟩, .string ⟨#[]⟩, .string ⟨#[]⟩, .int .i64 0]) ?_ 6 _ rfl
  refine blk_put (cs := #[.string s0, .string s1, .string s2, .string s3, .string s4, .string ⟨#[]⟩, .string ⟨#[]⟩, .int .i64 0, .string ⟨#[]⟩, .string ⟨#[]⟩, .string ⟨#[]⟩, .int .i64 0]) ?_ 5 _ rfl
  refine blk_put (cs := #[.string s0, .string s1, .string s2, .string s3, .string ⟨#[]⟩, .string ⟨#[]⟩, .string ⟨#[]⟩, .int .i64 0, .string ⟨#[]⟩, .string ⟨#[]⟩, .string ⟨#[]⟩, .int .i64 0]) ?_ 4 _ rfl
  refine blk_put (cs := #[.string s0, .string s1, .string s2, .string ⟨#[]⟩, .string ⟨#[]⟩, .string ⟨#[]⟩, .string ⟨#[]⟩, .int .i64 0, .string ⟨#[]⟩, .string ⟨#[]⟩, .string ⟨#[]⟩, .int .i64 0]) ?_ 3 _ rfl
  refine blk_put (cs := #[.string s0, .string s1, .string ⟨#[]⟩, .string ⟨#[]⟩, .string ⟨#[]⟩, .string ⟨#[]⟩, .string ⟨#[]⟩, .int .i64 0, .string ⟨#[]⟩, .string ⟨#[]⟩, .string ⟨#[]⟩, .int .i64 0]) ?_ 2 _ rfl
  refine blk_put (cs := #[.string s0, .string ⟨#[]⟩, .string ⟨#[]⟩, .string ⟨#[]⟩, .string ⟨#[]⟩, .string ⟨#[]⟩, .string ⟨#[]⟩, .int .i64 0, .string ⟨#[]⟩, .string ⟨#[]⟩, .string ⟨#[]⟩, .int .i64 0]) ?_ 1 _ rfl
  refine blk_put (cs := #[.string ⟨#[]⟩, .string ⟨#[]⟩, .string ⟨#[]⟩, .string ⟨#[]⟩, .string ⟨#[]⟩, .string ⟨#[]⟩, .string ⟨#[]⟩, .int .i64 0, .string ⟨#[]⟩, .string ⟨#[]⟩, .string ⟨#[]⟩, .int .i64 0]) ?_ 0 _ rfl
  exact hz4) Tryz.underlying72 rfl (by kernel_rfl)) rfl ?_
 refine ⟨rfl, ?_⟩
 iterate 12 (with_reducible refine below_set ?_ (Nat.le_refl _))
 with_reducible exact hB4
set_option maxHeartbeats 8000000 in
set_option maxRecDepth 100000 in
theorem rfses_all_false (v : ByteArray) (hv : v.size ≤ 4294967280) (s0 s1 s2 s3 s4 s5 s6 s7 s8 s9 s10 s11 : ByteArray) (h : rspR v = ([s0, s1, s2, s3, s4, s5, s6, s7, s8, s9, s10, s11], true)) (p q : Int) (b2 : Bool) (hn7 : ∀ w, Calls Tryz.prog 106 #[.string s7] w fun e w' => e = .returned (.tuple #[.int .i64 p, .bool false]) ∧ Below w.heap.size w w') (hn11 : ∀ w, Calls Tryz.prog 106 #[.string s11] w fun e w' => e = .returned (.tuple #[.int .i64 q, .bool b2]) ∧ Below w.heap.size w w') (w : World) :
  Calls Tryz.prog 47 #[.string v] w fun e w' => e = .returned (.tuple #[sesV ⟨s0, s1, s2, s3, s4, s5, s6, p, s8, s9, s10, q⟩, .bool false]) ∧ Below w.heap.size w w' := by
 have hB0 : Below w.heap.size w (w.alloc (.cells #[.string ⟨#[]⟩, .string ⟨#[]⟩, .string ⟨#[]⟩, .string ⟨#[]⟩, .string ⟨#[]⟩, .string ⟨#[]⟩, .string ⟨#[]⟩, .int .i64 0, .string ⟨#[]⟩, .string ⟨#[]⟩, .string ⟨#[]⟩, .int .i64 0] 72)) := (Below.refl _ w).alloc (Nat.le_refl _) _
 have hz := heap_alloc_new w (.cells #[.string ⟨#[]⟩, .string ⟨#[]⟩, .string ⟨#[]⟩, .string ⟨#[]⟩, .string ⟨#[]⟩, .string ⟨#[]⟩, .string ⟨#[]⟩, .int .i64 0, .string ⟨#[]⟩, .string ⟨#[]⟩, .string ⟨#[]⟩, .int .i64 0] 72)
 have hf := fun w1 => rsplit_says v hv w1
 rw [h] at hf
 have hn7 := fun w1 (_ : Below w.heap.size w w1) => hn7 w1
 obtain ⟨n, hn⟩ : ∃ n, n = ([s0, s1, s2, s3, s4, s5, s6, s7, s8, s9, s10, s11] : List ByteArray).length := ⟨_, rfl⟩
 have hn12 : 12 ≤ n := by rw [hn]; simp
 have hn12' : n = 12 := by rw [hn]; rfl
 have d1 : ((n : Int) != 12) = false := by rw [hn12']; rfl
 have d0 : ((n : Int) == 12) = true := by rw [hn12']; rfl
 have d2 : decide ((n : Int) = 12) = true := by rw [hn12']; rfl
 clear hn12'
 have i0 : ((0 : Int) < (n : Int)) = True := eq_true (by omega)
 have j0 : 0 < n := by omega
 have i1 : ((1 : Int) < (n : Int)) = True := eq_true (by omega)
 have j1 : 1 < n := by omega
 have i2 : ((2 : Int) < (n : Int)) = True := eq_true (by omega)
 have j2 : 2 < n := by omega
 have i3 : ((3 : Int) < (n : Int)) = True := eq_true (by omega)
 have j3 : 3 < n := by omega
 have i4 : ((4 : Int) < (n : Int)) = True := eq_true (by omega)
 have j4 : 4 < n := by omega
 have i5 : ((5 : Int) < (n : Int)) = True := eq_true (by omega)
 have j5 : 5 < n := by omega
 have i6 : ((6 : Int) < (n : Int)) = True := eq_true (by omega)
 have j6 : 6 < n := by omega
 have i7 : ((7 : Int) < (n : Int)) = True := eq_true (by omega)
 have j7 : 7 < n := by omega
 have i8 : ((8 : Int) < (n : Int)) = True := eq_true (by omega)
 have j8 : 8 < n := by omega
 have i9 : ((9 : Int) < (n : Int)) = True := eq_true (by omega)
 have j9 : 9 < n := by omega
 have i10 : ((10 : Int) < (n : Int)) = True := eq_true (by omega)
 have j10 : 10 < n := by omega
 have i11 : ((11 : Int) < (n : Int)) = True := eq_true (by omega)
 have j11 : 11 < n := by omega
 go_enter Tryz.func47, Tryz.ntmps47
 go_wp2_with fail
 refine (hf _).mono ?_
 rintro e w1 ⟨v1, rfl, hr1, hb1⟩
 have hB1 := below_then hB0 hB0.size hb1
 have hz1 := blk_below hz hb1
 obtain ⟨A1, c1, e1⟩ := Kd.R_slice hr1
 subst e1
 have hown : A1.map (·.block) ≠ some w.heap.size := by
  intro he
  cases A1 with
  | none => cases he
  | some ad0 =>
   have hb9 := Kd.R_base hr1 _ (show (Value.slice (some ad0) _ c1).ownBlock = some ad0.block from rfl)
   have he2 : ad0.block = w.heap.size := Option.some.inj he
   have h2 := (Array.getElem?_eq_some_iff.1 hz).1
   omega
 obtain ⟨ad, rfl, x0, x1, x2, x3, x4, x5, x6, x7, x8, x9, x10, x11⟩ := row12 rfl (Kd.R_reads' hr1).2.2
 have hadb : w.heap.size ≠ ad.block := fun e => hown (by rw [e]; rfl)
 clear hown
 rw [← hn]
 clear hr1 hn hf
 have hn7 := hn7 _ hB1
 go_wp2_with fail
 refine hn7.mono ?_
 rintro e w2 ⟨rfl, hb2⟩
 have hB2 := below_then hB1 hB1.size hb2
 have hz2 := blk_below hz1 hb2
 have hn11 := hn11 w2
 have x0 := cellL hb2 x0
 have x1 := cellL hb2 x1
 have x2 := cellL hb2 x2
 have x3 := cellL hb2 x3
 have x4 := cellL hb2 x4
 have x5 := cellL hb2 x5
 have x6 := cellL hb2 x6
 have x7 := cellL hb2 x7
 have x8 := cellL hb2 x8
 have x9 := cellL hb2 x9
 have x10 := cellL hb2 x10
 have x11 := cellL hb2 x11
 go_wp2_with fail
 refine hn11.mono ?_
 rintro e w3 ⟨rfl, hb3⟩
 have hB3 := below_then hB2 hB2.size hb3
 have hz3 := blk_below hz2 hb3
 have x0 := cellL hb3 x0
 have x1 := cellL hb3 x1
 have x2 := cellL hb3 x2
 have x3 := cellL hb3 x3
 have x4 := cellL hb3 x4
 have x5 := cellL hb3 x5
 have x6 := cellL hb3 x6
 have x7 := cellL hb3 x7
 have x8 := cellL hb3 x8
 have x9 := cellL hb3 x9
 have x10 := cellL hb3 x10
 have x11 := cellL hb3 x11
 have hne0 : ∀ i : Nat, (⟨w.heap.size, i, none⟩ : Addr) ≠ ad := fun i e => hadb (by rw [← e])
 have hne : ∀ i k : Nat, (⟨w.heap.size, i, none⟩ : Addr) ≠ ⟨ad.block, k, none⟩ := fun i k e => hadb (Addr.mk.inj e).1
 go_wp2_with fail
 have hz4 : w3.drew.heap[w.heap.size]? = some (.cells #[.string ⟨#[]⟩, .string ⟨#[]⟩, .string ⟨#[]⟩, .string ⟨#[]⟩, .string ⟨#[]⟩, .string ⟨#[]⟩, .string ⟨#[]⟩, .int .i64 0, .string ⟨#[]⟩, .string ⟨#[]⟩, .string ⟨#[]⟩, .int .i64 0] 72 (0, 0)) := hz3
 have hB4 := below_drew hB3
 refine start_ (n := 39) (S := fun w' => w'.cell? ad = some (.string s0) ∧ w'.cell? ⟨ad.block, ad.off + 1, none⟩ = some (.string s1) ∧ w'.cell? ⟨ad.block, ad.off + 2, none⟩ = some (.string s2) ∧ w'.cell? ⟨ad.block, ad.off + 3, none⟩ = some (.string s3) ∧ w'.cell? ⟨ad.block, ad.off + 4, none⟩ = some (.string s4) ∧ w'.cell? ⟨ad.block, ad.off + 5, none⟩ = some (.string s5) ∧ w'.cell? ⟨ad.block, ad.off + 6, none⟩ = some (.string s6) ∧ w'.cell? ⟨ad.block, ad.off + 8, none⟩ = some (.string s8) ∧ w'.cell? ⟨ad.block, ad.off + 9, none⟩ = some (.string s9) ∧ w'.cell? ⟨ad.block, ad.off + 10, none⟩ = some (.string s10)) (ds := [37]) #[false, false, false, false, false, false, false, false, false, false, false, false, false, false, false, false, false, false, false, false, false, false, false, false, false, false, false, false, false, false, false, false, false, false, false, false, false, false, false] (by kernel_rfl) rfl rfl ⟨x0, x1, x2, x3, x4, x5, x6, x8, x9, x10⟩ (fun hHeld => ?_)
 generalize w3.drew = w4 at hz4 hB4 hHeld ⊢
 have c0 := blk_cell hz4 0
 have f0 := blk_frozen hz4 0
 have c1 := blk_cell hz4 1
 have f1 := blk_frozen hz4 1
 have c2 := blk_cell hz4 2
 have f2 := blk_frozen hz4 2
 have c3 := blk_cell hz4 3
 have f3 := blk_frozen hz4 3
 have c4 := blk_cell hz4 4
 have f4 := blk_frozen hz4 4
 have c5 := blk_cell hz4 5
 have f5 := blk_frozen hz4 5
 have c6 := blk_cell hz4 6
 have f6 := blk_frozen hz4 6
 have c7 := blk_cell hz4 7
 have f7 := blk_frozen hz4 7
 have c8 := blk_cell hz4 8
 have f8 := blk_frozen hz4 8
 have c9 := blk_cell hz4 9
 have f9 := blk_frozen hz4 9
 have c10 := blk_cell hz4 10
 have f10 := blk_frozen hz4 10
 have c11 := blk_cell hz4 11
 have f11 := blk_frozen hz4 11
 refine pure_ (i := 0) (N := some 37) (v := ?_) (a' := ?_) #[true, false, false, false, false, false, false, false, false, false, false, false, false, false, false, false, false, false, false, false, false, false, false, false, false, false, false, false, false, false, false, false, false, false, false, false, false, false, false] rfl rfl (by kernel_rfl) (fun _ _ _ h => h) (Or.inl ⟨by rfl, ?_⟩) ?_ ?_
 rotate_left
 ·
  intro w'
  go_simp
  with_reducible rfl
 rotate_left
 ·
  simp only [Act.put, List.setIfInBounds_toArray, List.set_cons_zero, List.set_cons_succ, i64_w, i32_w]
  rfl
 refine pure_ (i := 1) (N := some 38) (v := ?_) (a' := ?_) #[true, true, false, false, false, false, false, false, false, false, false, false, false, false, false, false, false, false, false, false, false, false, false, false, false, false, false, false, false, false, false, false, false, false, false, false, false, false, false] rfl rfl (by kernel_rfl) (fun _ _ _ h => h) (Or.inl ⟨by rfl, ?_⟩) ?_ ?_
 rotate_left
 ·
  intro w'
  go_simp
  with_reducible rfl
 rotate_left
 ·
  simp only [Act.put, List.setIfInBounds_toArray, List.set_cons_zero, List.set_cons_succ, i64_w, i32_w]
  rfl
 refine pure_ (i := 3) (N := some 40) (v := ?_) (a' := ?_) #[true, true, false, true, false, false, false, false, false, false, false, false, false, false, false, false, false, false, false, false, false, false, false, false, false, false, false, false, false, false, false, false, false, false, false, false, false, false, false] rfl rfl (by kernel_rfl) (fun _ _ _ h => h) (Or.inl ⟨by rfl, ?_⟩) ?_ ?_
 rotate_left
 ·
  intro w'
  go_simp
  with_reducible rfl
 rotate_left
 ·
  simp only [Act.put, List.setIfInBounds_toArray, List.set_cons_zero, List.set_cons_succ, i64_w, i32_w]
  rfl
 refine pure_ (i := 4) (N := some 41) (v := ?_) (a' := ?_) #[true, true, false, true, true, false, false, false, false, false, false, false, false, false, false, false, false, false, false, false, false, false, false, false, false, false, false, false, false, false, false, false, false, false, false, false, false, false, false] rfl rfl (by kernel_rfl) (fun _ _ _ h => h) (Or.inl ⟨by rfl, ?_⟩) ?_ ?_
 rotate_left
 ·
  intro w'
  go_simp
  with_reducible rfl
 rotate_left
 ·
  simp only [Act.put, List.setIfInBounds_toArray, List.set_cons_zero, List.set_cons_succ, i64_w, i32_w]
  rfl
 refine pure_ (i := 6) (N := some 43) (v := ?_) (a' := ?_) #[true, true, false, true, true, false, true, false, false, false, false, false, false, false, false, false, false, false, false, false, false, false, false, false, false, false, false, false, false, false, false, false, false, false, false, false, false, false, false] rfl rfl (by kernel_rfl) (fun _ _ _ h => h) (Or.inl ⟨by rfl, ?_⟩) ?_ ?_
 rotate_left
 ·
  intro w'
  go_simp
  with_reducible rfl
 rotate_left
 ·
  simp only [Act.put, List.setIfInBounds_toArray, List.set_cons_zero, List.set_cons_succ, i64_w, i32_w]
  rfl
 refine pure_ (i := 7) (N := some 44) (v := ?_) (a' := ?_) #[true, true, false, true, true, false, true, true, false, false, false, false, false, false, false, false, false, false, false, false, false, false, false, false, false, false, false, false, false, false, false, false, false, false, false, false, false, false, false] rfl rfl (by kernel_rfl) (fun _ _ _ h => h) (Or.inl ⟨by rfl, ?_⟩) ?_ ?_
 rotate_left
 ·
  intro w'
  go_simp
  with_reducible rfl
 rotate_left
 ·
  simp only [Act.put, List.setIfInBounds_toArray, List.set_cons_zero, List.set_cons_succ, i64_w, i32_w]
  rfl
 refine pure_ (i := 9) (N := some 46) (v := ?_) (a' := ?_) #[true, true, false, true, true, false, true, true, false, true, false, false, false, false, false, false, false, false, false, false, false, false, false, false, false, false, false, false, false, false, false, false, false, false, false, false, false, false, false] rfl rfl (by kernel_rfl) (fun _ _ _ h => h) (Or.inl ⟨by rfl, ?_⟩) ?_ ?_
 rotate_left
 ·
  intro w'
  go_simp
  with_reducible rfl
 rotate_left
 ·
  simp only [Act.put, List.setIfInBounds_toArray, List.set_cons_zero, List.set_cons_succ, i64_w, i32_w]
  rfl
 refine pure_ (i := 10) (N := some 47) (v := ?_) (a' := ?_) #[true, true, false, true, true, false, true, true, false, true, true, false, false, false, false, false, false, false, false, false, false, false, false, false, false, false, false, false, false, false, false, false, false, false, false, false, false, false, false] rfl rfl (by kernel_rfl) (fun _ _ _ h => h) (Or.inl ⟨by rfl, ?_⟩) ?_ ?_
 rotate_left
 ·
  intro w'
  go_simp
  with_reducible rfl
 rotate_left
 ·
  simp only [Act.put, List.setIfInBounds_toArray, List.set_cons_zero, List.set_cons_succ, i64_w, i32_w]
  rfl
 refine pure_ (i := 12) (N := some 49) (v := ?_) (a' := ?_) #[true, true, false, true, true, false, true, true, false, true, true, false, true, false, false, false, false, false, false, false, false, false, false, false, false, false, false, false, false, false, false, false, false, false, false, false, false, false, false] rfl rfl (by kernel_rfl) (fun _ _ _ h => h) (Or.inl ⟨by rfl, ?_⟩) ?_ ?_
 rotate_left
 ·
  intro w'
  go_simp
  with_reducible rfl
 rotate_left
 ·
  simp only [Act.put, List.setIfInBounds_toArray, List.set_cons_zero, List.set_cons_succ, i64_w, i32_w]
  rfl
 refine pure_ (i := 13) (N := some 50) (v := ?_) (a' := ?_) #[true, true, false, true, true, false, true, true, false, true, true, false, true, true, false, false, false, false, false, false, false, false, false, false, false, false, false, false, false, false, false, false, false, false, false, false, false, false, false] rfl rfl (by kernel_rfl) (fun _ _ _ h => h) (Or.inl ⟨by rfl, ?_⟩) ?_ ?_
 rotate_left
 ·
  intro w'
  go_simp
  with_reducible rfl
 rotate_left
 ·
  simp only [Act.put, List.setIfInBounds_toArray, List.set_cons_zero, List.set_cons_succ, i64_w, i32_w]
  rfl
 refine pure_ (i := 15) (N := some 52) (v := ?_) (a' := ?_) #[true, true, false, true, true, false, true, true, false, true, true, false, true, true, false, true, false, false, false, false, false, false, false, false, false, false, false, false, false, false, false, false, false, false, false, false, false, false, false] rfl rfl (by kernel_rfl) (fun _ _ _ h => h) (Or.inl ⟨by rfl, ?_⟩) ?_ ?_
 rotate_left
 ·
  intro w'
  go_simp
  with_reducible rfl
 rotate_left
 ·
  simp only [Act.put, List.setIfInBounds_toArray, List.set_cons_zero, List.set_cons_succ, i64_w, i32_w]
  rfl
 refine pure_ (i := 16) (N := some 53) (v := ?_) (a' := ?_) #[true, true, false, true, true, false, true, true, false, true, true, false, true, true, false, true, true, false, false, false, false, false, false, false, false, false, false, false, false, false, false, false, false, false, false, false, false, false, false] rfl rfl (by kernel_rfl) (fun _ _ _ h => h) (Or.inl ⟨by rfl, ?_⟩) ?_ ?_
 rotate_left
 ·
  intro w'
  go_simp
  with_reducible rfl
 rotate_left
 ·
  simp only [Act.put, List.setIfInBounds_toArray, List.set_cons_zero, List.set_cons_succ, i64_w, i32_w]
  rfl
 refine pure_ (i := 18) (N := some 55) (v := ?_) (a' := ?_) #[true, true, false, true, true, false, true, true, false, true, true, false, true, true, false, true, true, false, true, false, false, false, false, false, false, false, false, false, false, false, false, false, false, false, false, false, false, false, false] rfl rfl (by kernel_rfl) (fun _ _ _ h => h) (Or.inl ⟨by rfl, ?_⟩) ?_ ?_
 rotate_left
 ·
  intro w'
  go_simp
  with_reducible rfl
 rotate_left
 ·
  simp only [Act.put, List.setIfInBounds_toArray, List.set_cons_zero, List.set_cons_succ, i64_w, i32_w]
  rfl
 refine pure_ (i := 19) (N := some 56) (v := ?_) (a' := ?_) #[true, true, false, true, true, false, true, true, false, true, true, false, true, true, false, true, true, false, true, true, false, false, false, false, false, false, false, false, false, false, false, false, false, false, false, false, false, false, false] rfl rfl (by kernel_rfl) (fun _ _ _ h => h) (Or.inl ⟨by rfl, ?_⟩) ?_ ?_
 rotate_left
 ·
  intro w'
  go_simp
  with_reducible rfl
 rotate_left
 ·
  simp only [Act.put, List.setIfInBounds_toArray, List.set_cons_zero, List.set_cons_succ, i64_w, i32_w]
  rfl
 refine pure_ (i := 21) (N := some 58) (v := ?_) (a' := ?_) #[true, true, false, true, true, false, true, true, false, true, true, false, true, true, false, true, true, false, true, true, false, true, false, false, false, false, false, false, false, false, false, false, false, false, false, false, false, false, false] rfl rfl (by kernel_rfl) (fun _ _ _ h => h) (Or.inl ⟨by rfl, ?_⟩) ?_ ?_
 rotate_left
 ·
  intro w'
  go_simp
  with_reducible rfl
 rotate_left
 ·
  simp only [Act.put, List.setIfInBounds_toArray, List.set_cons_zero, List.set_cons_succ, i64_w, i32_w]
  rfl
 refine pure_ (i := 22) (N := some 59) (v := ?_) (a' := ?_) #[true, true, false, true, true, false, true, true, false, true, true, false, true, true, false, true, true, false, true, true, false, true, true, false, false, false, false, false, false, false, false, false, false, false, false, false, false, false, false] rfl rfl (by kernel_rfl) (fun _ _ _ h => h) (Or.inl ⟨by rfl, ?_⟩) ?_ ?_
 rotate_left
 ·
  intro w'
  go_simp
  with_reducible rfl
 rotate_left
 ·
  simp only [Act.put, List.setIfInBounds_toArray, List.set_cons_zero, List.set_cons_succ, i64_w, i32_w]
  rfl
 refine pure_ (i := 23) (N := some 60) (v := ?_) (a' := ?_) #[true, true, false, true, true, false, true, true, false, true, true, false, true, true, false, true, true, false, true, true, false, true, true, true, false, false, false, false, false, false, false, false, false, false, false, false, false, false, false] rfl rfl (by kernel_rfl) (fun _ _ _ h => h) (Or.inl ⟨by rfl, ?_⟩) ?_ ?_
 rotate_left
 ·
  intro w'
  go_simp
  with_reducible rfl
 rotate_left
 ·
  simp only [Act.put, List.setIfInBounds_toArray, List.set_cons_zero, List.set_cons_succ, i64_w, i32_w]
  rfl
 refine pure_ (i := 25) (N := some 62) (v := ?_) (a' := ?_) #[true, true, false, true, true, false, true, true, false, true, true, false, true, true, false, true, true, false, true, true, false, true, true, true, false, true, false, false, false, false, false, false, false, false, false, false, false, false, false] rfl rfl (by kernel_rfl) (fun _ _ _ h => h) (Or.inl ⟨by rfl, ?_⟩) ?_ ?_
 rotate_left
 ·
  intro w'
  go_simp
  with_reducible rfl
 rotate_left
 ·
  simp only [Act.put, List.setIfInBounds_toArray, List.set_cons_zero, List.set_cons_succ, i64_w, i32_w]
  rfl
 refine pure_ (i := 26) (N := some 63) (v := ?_) (a' := ?_) #[true, true, false, true, true, false, true, true, false, true, true, false, true, true, false, true, true, false, true, true, false, true, true, true, false, true, true, false, false, false, false, false, false, false, false, false, false, false, false] rfl rfl (by kernel_rfl) (fun _ _ _ h => h) (Or.inl ⟨by rfl, ?_⟩) ?_ ?_
 rotate_left
 ·
  intro w'
  go_simp
  with_reducible rfl
 rotate_left
 ·
  simp only [Act.put, List.setIfInBounds_toArray, List.set_cons_zero, List.set_cons_succ, i64_w, i32_w]
  rfl
 refine pure_ (i := 28) (N := some 65) (v := ?_) (a' := ?_) #[true, true, false, true, true, false, true, true, false, true, true, false, true, true, false, true, true, false, true, true, false, true, true, true, false, true, true, false, true, false, false, false, false, false, false, false, false, false, false] rfl rfl (by kernel_rfl) (fun _ _ _ h => h) (Or.inl ⟨by rfl, ?_⟩) ?_ ?_
 rotate_left
 ·
  intro w'
  go_simp
  with_reducible rfl
 rotate_left
 ·
  simp only [Act.put, List.setIfInBounds_toArray, List.set_cons_zero, List.set_cons_succ, i64_w, i32_w]
  rfl
 refine pure_ (i := 29) (N := some 66) (v := ?_) (a' := ?_) #[true, true, false, true, true, false, true, true, false, true, true, false, true, true, false, true, true, false, true, true, false, true, true, true, false, true, true, false, true, true, false, false, false, false, false, false, false, false, false] rfl rfl (by kernel_rfl) (fun _ _ _ h => h) (Or.inl ⟨by rfl, ?_⟩) ?_ ?_
 rotate_left
 ·
  intro w'
  go_simp
  with_reducible rfl
 rotate_left
 ·
  simp only [Act.put, List.setIfInBounds_toArray, List.set_cons_zero, List.set_cons_succ, i64_w, i32_w]
  rfl
 refine pure_ (i := 31) (N := some 68) (v := ?_) (a' := ?_) #[true, true, false, true, true, false, true, true, false, true, true, false, true, true, false, true, true, false, true, true, false, true, true, true, false, true, true, false, true, true, false, true, false, false, false, false, false, false, false] rfl rfl (by kernel_rfl) (fun _ _ _ h => h) (Or.inl ⟨by rfl, ?_⟩) ?_ ?_
 rotate_left
 ·
  intro w'
  go_simp
  with_reducible rfl
 rotate_left
 ·
  simp only [Act.put, List.setIfInBounds_toArray, List.set_cons_zero, List.set_cons_succ, i64_w, i32_w]
  rfl
 refine pure_ (i := 33) (N := some 70) (v := ?_) (a' := ?_) #[true, true, false, true, true, false, true, true, false, true, true, false, true, true, false, true, true, false, true, true, false, true, true, true, false, true, true, false, true, true, false, true, false, true, false, false, false, false, false] rfl rfl (by kernel_rfl) (fun _ _ _ h => h) (Or.inl ⟨by rfl, ?_⟩) ?_ ?_
 rotate_left
 ·
  intro w'
  go_simp
  with_reducible rfl
 rotate_left
 ·
  simp only [Act.put, List.setIfInBounds_toArray, List.set_cons_zero, List.set_cons_succ, i64_w, i32_w]
  rfl
 refine pure_ (i := 34) (N := some 71) (v := ?_) (a' := ?_) #[true, true, false, true, true, false, true, true, false, true, true, false, true, true, false, true, true, false, true, true, false, true, true, true, false, true, true, false, true, true, false, true, false, true, true, false, false, false, false] rfl rfl (by kernel_rfl) (fun _ _ _ h => h) (Or.inl ⟨by rfl, ?_⟩) ?_ ?_
 rotate_left
 ·
  intro w'
  go_simp
  with_reducible rfl
 rotate_left
 ·
  simp only [Act.put, List.setIfInBounds_toArray, List.set_cons_zero, List.set_cons_succ, i64_w, i32_w]
  rfl
 refine pure_ (i := 35) (N := some 72) (v := undef) (a' := ?_) #[true, true, false, true, true, false, true, true, false, true, true, false, true, true, false, true, true, false, true, true, false, true, true, true, false, true, true, false, true, true, false, true, false, true, true, true, false, false, false] rfl rfl (by kernel_rfl) (fun _ _ _ h => h) (Or.inr ⟨by rfl, rfl⟩) ?_ ?_
 rotate_left
 ·
  simp only [Act.put, List.setIfInBounds_toArray, List.set_cons_zero, List.set_cons_succ, i64_w, i32_w]
  rfl
 refine pure_ (i := 36) (N := some 73) (v := ?_) (a' := ?_) #[true, true, false, true, true, false, true, true, false, true, true, false, true, true, false, true, true, false, true, true, false, true, true, true, false, true, true, false, true, true, false, true, false, true, true, true, true, false, false] rfl rfl (by kernel_rfl) (fun _ _ _ h => h) (Or.inl ⟨by rfl, ?_⟩) ?_ ?_
 rotate_left
 ·
  intro w'
  go_simp
  with_reducible rfl
 rotate_left
 ·
  simp only [Act.put, List.setIfInBounds_toArray, List.set_cons_zero, List.set_cons_succ, i64_w, i32_w]
  rfl
 refine take_ (i := 2) (N := some 39) (v := ?_) (a' := ?_) #[true, true, true, true, true, false, true, true, false, true, true, false, true, true, false, true, true, false, true, true, false, true, true, true, false, true, true, false, true, true, false, true, false, true, true, true, true, false, false] rfl rfl (by kernel_rfl) (fun _ _ _ h => h) (Or.inl ⟨by rfl, ?_⟩) hHeld ?_ ?_
 rotate_left
 ·
  rintro w' ⟨s0, s1, s2, s3, s4, s5, s6, s7, s8, s9⟩
  go_simp
  with_reducible rfl
 rotate_left
 ·
  simp only [Act.put, List.setIfInBounds_toArray, List.set_cons_zero, List.set_cons_succ, i64_w, i32_w]
  rfl
 refine take_ (i := 5) (N := some 42) (v := ?_) (a' := ?_) #[true, true, true, true, true, true, true, true, false, true, true, false, true, true, false, true, true, false, true, true, false, true, true, true, false, true, true, false, true, true, false, true, false, true, true, true, true, false, false] rfl rfl (by kernel_rfl) (fun _ _ _ h => h) (Or.inl ⟨by rfl, ?_⟩) hHeld ?_ ?_
 rotate_left
 ·
  rintro w' ⟨s0, s1, s2, s3, s4, s5, s6, s7, s8, s9⟩
  go_simp
  with_reducible rfl
 rotate_left
 ·
  simp only [Act.put, List.setIfInBounds_toArray, List.set_cons_zero, List.set_cons_succ, i64_w, i32_w]
  rfl
 refine take_ (i := 8) (N := some 45) (v := ?_) (a' := ?_) #[true, true, true, true, true, true, true, true, true, true, true, false, true, true, false, true, true, false, true, true, false, true, true, true, false, true, true, false, true, true, false, true, false, true, true, true, true, false, false] rfl rfl (by kernel_rfl) (fun _ _ _ h => h) (Or.inl ⟨by rfl, ?_⟩) hHeld ?_ ?_
 rotate_left
 ·
  rintro w' ⟨s0, s1, s2, s3, s4, s5, s6, s7, s8, s9⟩
  go_simp
  with_reducible rfl
 rotate_left
 ·
  simp only [Act.put, List.setIfInBounds_toArray, List.set_cons_zero, List.set_cons_succ, i64_w, i32_w]
  rfl
 refine take_ (i := 11) (N := some 48) (v := ?_) (a' := ?_) #[true, true, true, true, true, true, true, true, true, true, true, true, true, true, false, true, true, false, true, true, false, true, true, true, false, true, true, false, true, true, false, true, false, true, true, true, true, false, false] rfl rfl (by kernel_rfl) (fun _ _ _ h => h) (Or.inl ⟨by rfl, ?_⟩) hHeld ?_ ?_
 rotate_left
 ·
  rintro w' ⟨s0, s1, s2, s3, s4, s5, s6, s7, s8, s9⟩
  go_simp
  with_reducible rfl
 rotate_left
 ·
  simp only [Act.put, List.setIfInBounds_toArray, List.set_cons_zero, List.set_cons_succ, i64_w, i32_w]
  rfl
 refine take_ (i := 14) (N := some 51) (v := ?_) (a' := ?_) #[true, true, true, true, true, true, true, true, true, true, true, true, true, true, true, true, true, false, true, true, false, true, true, true, false, true, true, false, true, true, false, true, false, true, true, true, true, false, false] rfl rfl (by kernel_rfl) (fun _ _ _ h => h) (Or.inl ⟨by rfl, ?_⟩) hHeld ?_ ?_
 rotate_left
 ·
  rintro w' ⟨s0, s1, s2, s3, s4, s5, s6, s7, s8, s9⟩
  go_simp
  with_reducible rfl
 rotate_left
 ·
  simp only [Act.put, List.setIfInBounds_toArray, List.set_cons_zero, List.set_cons_succ, i64_w, i32_w]
  rfl
 refine take_ (i := 17) (N := some 54) (v := ?_) (a' := ?_) #[true, true, true, true, true, true, true, true, true, true, true, true, true, true, true, true, true, true, true, true, false, true, true, true, false, true, true, false, true, true, false, true, false, true, true, true, true, false, false] rfl rfl (by kernel_rfl) (fun _ _ _ h => h) (Or.inl ⟨by rfl, ?_⟩) hHeld ?_ ?_
 rotate_left
 ·
  rintro w' ⟨s0, s1, s2, s3, s4, s5, s6, s7, s8, s9⟩
  go_simp
  with_reducible rfl
 rotate_left
 ·
  simp only [Act.put, List.setIfInBounds_toArray, List.set_cons_zero, List.set_cons_succ, i64_w, i32_w]
  rfl
 refine take_ (i := 20) (N := some 57) (v := ?_) (a' := ?_) #[true, true, true, true, true, true, true, true, true, true, true, true, true, true, true, true, true, true, true, true, true, true, true, true, false, true, true, false, true, true, false, true, false, true, true, true, true, false, false] rfl rfl (by kernel_rfl) (fun _ _ _ h => h) (Or.inl ⟨by rfl, ?_⟩) hHeld ?_ ?_
 rotate_left
 ·
  rintro w' ⟨s0, s1, s2, s3, s4, s5, s6, s7, s8, s9⟩
  go_simp
  with_reducible rfl
 rotate_left
 ·
  simp only [Act.put, List.setIfInBounds_toArray, List.set_cons_zero, List.set_cons_succ, i64_w, i32_w]
  rfl
 refine take_ (i := 24) (N := some 61) (v := ?_) (a' := ?_) #[true, true, true, true, true, true, true, true, true, true, true, true, true, true, true, true, true, true, true, true, true, true, true, true, true, true, true, false, true, true, false, true, false, true, true, true, true, false, false] rfl rfl (by kernel_rfl) (fun _ _ _ h => h) (Or.inl ⟨by rfl, ?_⟩) hHeld ?_ ?_
 rotate_left
 ·
  rintro w' ⟨s0, s1, s2, s3, s4, s5, s6, s7, s8, s9⟩
  go_simp
  with_reducible rfl
 rotate_left
 ·
  simp only [Act.put, List.setIfInBounds_toArray, List.set_cons_zero, List.set_cons_succ, i64_w, i32_w]
  rfl
 refine take_ (i := 27) (N := some 64) (v := ?_) (a' := ?_) #[true, true, true, true, true, true, true, true, true, true, true, true, true, true, true, true, true, true, true, true, true, true, true, true, true, true, true, true, true, true, false, true, false, true, true, true, true, false, false] rfl rfl (by kernel_rfl) (fun _ _ _ h => h) (Or.inl ⟨by rfl, ?_⟩) hHeld ?_ ?_
 rotate_left
 ·
  rintro w' ⟨s0, s1, s2, s3, s4, s5, s6, s7, s8, s9⟩
  go_simp
  with_reducible rfl
 rotate_left
 ·
  simp only [Act.put, List.setIfInBounds_toArray, List.set_cons_zero, List.set_cons_succ, i64_w, i32_w]
  rfl
 refine take_ (i := 30) (N := some 67) (v := ?_) (a' := ?_) #[true, true, true, true, true, true, true, true, true, true, true, true, true, true, true, true, true, true, true, true, true, true, true, true, true, true, true, true, true, true, true, true, false, true, true, true, true, false, false] rfl rfl (by kernel_rfl) (fun _ _ _ h => h) (Or.inl ⟨by rfl, ?_⟩) hHeld ?_ ?_
 rotate_left
 ·
  rintro w' ⟨s0, s1, s2, s3, s4, s5, s6, s7, s8, s9⟩
  go_simp
  with_reducible rfl
 rotate_left
 ·
  simp only [Act.put, List.setIfInBounds_toArray, List.set_cons_zero, List.set_cons_succ, i64_w, i32_w]
  rfl
 refine pure_ (i := 32) (N := some 69) (v := ?_) (a' := ?_) #[true, true, true, true, true, true, true, true, true, true, true, true, true, true, true, true, true, true, true, true, true, true, true, true, true, true, true, true, true, true, true, true, true, true, true, true, true, false, false] rfl rfl (by kernel_rfl) (fun _ _ _ h => h) (Or.inl ⟨by rfl, ?_⟩) ?_ ?_
 rotate_left
 ·
  intro w'
  go_simp
  with_reducible rfl
 rotate_left
 ·
  simp only [Act.put, List.setIfInBounds_toArray, List.set_cons_zero, List.set_cons_succ, i64_w, i32_w]
  rfl
 refine last_ (i := 37) (N := none) #[true, true, true, true, true, true, true, true, true, true, true, true, true, true, true, true, true, true, true, true, true, true, true, true, true, true, true, true, true, true, true, true, true, true, true, true, true, true, false] rfl rfl (by kernel_rfl) (by decide) (fun K hK => ?_)
 refine skip_ (w1 := ?_) (by rfl) rfl ?_ ?_
 rotate_left
 ·
  go_simp
  rfl
 refine hK.out _ _ ?_
 clear hK K
 refine pure_ (i := 38) (N := some 3) (v := ?_) (a' := ?_) #[true, true, true, true, true, true, true, true, true, true, true, true, true, true, true, true, true, true, true, true, true, true, true, true, true, true, true, true, true, true, true, true, true, true, true, true, true, true, true] rfl rfl (by kernel_rfl) (fun _ _ _ h => h) (Or.inl ⟨by rfl, ?_⟩) ?_ ?_
 rotate_left
 ·
  intro w'
  go_simp
  with_reducible rfl
 rotate_left
 ·
  simp only [Act.put, List.setIfInBounds_toArray, List.set_cons_zero, List.set_cons_succ, i64_w, i32_w]
  rfl
 refine done_ (by kernel_rfl) ?_
 go_wp2_with fail
 refine bodyPost_ret (results_ct rfl _ _ w.heap.size 72 #[.string s0, .string s1, .string s2, .string s3, .string s4, .string s5, .string s6, .int .i64 p, .string s8, .string s9, .string s10, .int .i64 q] (0, 0) _ rfl (by
  refine blk_put (cs := #[.string s0, .string s1, .string s2, .string s3, .string s4, .string s5, .string s6, .int .i64 p, .string s8, .string s9, .string s10, .int .i64 0]) ?_ 11 _ rfl
  refine blk_put (cs := #[.string s0, .string s1, .string s2, .string s3, .string s4, .string s5, .string s6, .int .i64 p, .string s8, .string s9, .string ⟨#[]⟩, .int .i64 0]) ?_ 10 _ rfl
  refine blk_put (cs := #[.string s0, .string s1, .string s2, .string s3, .string s4, .string s5, .string s6, .int .i64 p, .string s8, .string ⟨#[]⟩, .string ⟨#[]⟩, .int .i64 0]) ?_ 9 _ rfl
  refine blk_put (cs := #[.string s0, .string s1, .string s2, .string s3, .string s4, .string s5, .string s6, .int .i64 p, .string ⟨#[]⟩, .string ⟨#[]⟩, .string ⟨#[]⟩, .int .i64 0]) ?_ 8 _ rfl
  refine blk_put (cs := #[.string s0, .string s1, .string s2, .string s3, .string s4, .string s5, .string s6, .int .i64 0, .string ⟨#[]⟩, .string ⟨#[]⟩, .string ⟨#[]⟩, .int .i64 0]) ?_ 7 _ rfl
  refine blk_put (cs := #[.string s0, .string s1, .string s2, .string s3, .string s4, .string s5, .string ⟨#[]⟩, .int .i64 0, .string ⟨#[]⟩, .string ⟨#[]⟩, .string ⟨#[]⟩, .int .i64 0]) ?_ 6 _ rfl
  refine blk_put (cs := #[.string s0, .string s1, .string s2, .string s3, .string s4, .string ⟨#[]⟩, .string ⟨#[]⟩, .int .i64 0, .string ⟨#[]⟩, .string ⟨#[]⟩, .string ⟨#[]⟩, .int .i64 0]) ?_ 5 _ rfl
  refine blk_put (cs := #[.string s0, .string s1, .string s2, .string s3, .string ⟨#[]⟩, .string ⟨#[]⟩, .string ⟨#[]⟩, .int .i64 0, .string ⟨#[]⟩, .string ⟨#[]⟩, .string ⟨#[]⟩, .int .i64 0]) ?_ 4 _ rfl
  refine blk_put (cs := #[.string s0, .string s1, .string s2, .string ⟨#[]⟩, .string ⟨#[]⟩, .string ⟨#[]⟩, .string ⟨#[]⟩, .int .i64 0, .string ⟨#[]⟩, .string ⟨#[]⟩, .string ⟨#[]⟩, .int .i64 0]) ?_ 3 _ rfl
  refine blk_put (cs := #[.string s0, .string s1, .string ⟨#[]⟩, .string ⟨#[]⟩, .string ⟨#[]⟩, .string ⟨#[]⟩, .string ⟨#[]⟩, .int .i64 0, .string ⟨#[]⟩, .string ⟨#[]⟩, .string ⟨#[]⟩, .int .i64 0]) ?_ 2 _ rfl
  refine blk_put (cs := #[.string s0, .string ⟨#[]⟩, .string ⟨#[]⟩, .string ⟨#[]⟩, .string ⟨#[]⟩, .string ⟨#[]⟩, .string ⟨#[]⟩, .int .i64 0, .string ⟨#[]⟩, .string ⟨#[]⟩, .string ⟨#[]⟩, .int .i64 0]) ?_ 1 _ rfl
  refine blk_put (cs := #[.string ⟨#[]⟩, .string ⟨#[]⟩, .string ⟨#[]⟩, .string ⟨#[]⟩, .string ⟨#[]⟩, .string ⟨#[]⟩, .string ⟨#[]⟩, .int .i64 0, .string ⟨#[]⟩, .string ⟨#[]⟩, .string ⟨#[]⟩, .int .i64 0]) ?_ 0 _ rfl
  exact hz4) Tryz.underlying72 rfl (by kernel_rfl)) rfl ?_
 refine ⟨rfl, ?_⟩
 iterate 12 (with_reducible refine below_set ?_ (Nat.le_refl _))
 with_reducible exact hB4
theorem rfses_says (v : ByteArray) (hv : v.size ≤ 4294967280) : ∃ x b, (b = true → readS v = some x) ∧ (b = false → readS v = none) ∧ ∀ w, Calls Tryz.prog 47 #[.string v] w fun e w' => e = .returned (.tuple #[sesV x, .bool b]) ∧ Below w.heap.size w w' := by
 cases hr : rspR v with
 | mk l ok =>
 cases ok with
 | false =>
  obtain ⟨hu, rfl⟩ := rspR_no hr
  exact ⟨sesZ, false, (by simp), fun _ => readS_nil hu, fun w => rfses_none v hv hr w⟩
 | true =>
  have hu := rspR_unTx hr
  by_cases h12 : l.length = 12
  ·
   match l, h12, hr, hu with
   | [s0, s1, s2, s3, s4, s5, s6, s7, s8, s9, s10, s11], _, hr, hu =>
    obtain ⟨p, bx, _, hp1, hp2, hp⟩ := rfnum_says s7
    obtain ⟨q, b2, _, hq1, hq2, hq⟩ := rfnum_says s11
    cases bx with
    | true =>
     refine ⟨⟨s0, s1, s2, s3, s4, s5, s6, p, s8, s9, s10, q⟩, b2, fun h => ?_, fun h => ?_, fun w => rfses_all_true v hv s0 s1 s2 s3 s4 s5 s6 s7 s8 s9 s10 s11 hr p q b2 hp hq w⟩
     ·
      unfold readS
      rw [hu, Option.bind_some]
      simp only [sesOf, hp1 rfl, hq1 h]
     ·
      exact readS_bad (rest := []) hu (.inr (hq2 h))
    | false => exact ⟨⟨s0, s1, s2, s3, s4, s5, s6, p, s8, s9, s10, q⟩, false, (by simp), fun _ => readS_bad (rest := []) hu (.inl (hp2 rfl)), fun w => rfses_all_false v hv s0 s1 s2 s3 s4 s5 s6 s7 s8 s9 s10 s11 hr p q b2 hp hq w⟩
  ·
   exact ⟨sesZ, false, (by simp), fun _ => readS_len hu h12, fun w => rfses_len v hv l hr h12 w⟩
-- XW]
end Go.Proofs.YtpoblffgclmmlaaGreatDoor.X
end
section
set_option linter.unusedVariables false
set_option linter.unusedSimpArgs false
namespace Go.Proofs.YtpoblffgclmmlaaGreatDoor.X
open Go.RowKit Go.WideMaps Go.Maps Go.Proofs.YtpoblffgclmmlaaGreatDoorW.PrintWords Go.Proofs.YtpoblffgclmmlaaGreatDoorW.PrintLast Go.Proofs.YtpoblffgclmmlaaGreatDoorW.PrintMore Go.Proofs.YtpoblffgclmmlaaGreatDoor.Q

def skey (c : ByteArray) : ByteArray := (⟨#[115]⟩ : ByteArray) ++ c
theorem skey_size (c : ByteArray) : (skey c).size = 1 + c.size := by unfold skey; rw [ByteArray.size_append]; rfl
/-- The session of a cookie that is not over. -/
def findS (r : List S82) (c : ByteArray) (now : Int) : Option Ses := (getR r (skey c)).bind fun v => (readS v).bind fun x => if x.ends ≤ now then none else some x
theorem findS_none {r : List S82} {c : ByteArray} {now : Int} (h : getR r (skey c) = none) : findS r c now = none := by unfold findS; rw [h]; rfl
theorem findS_bad {r : List S82} {c v : ByteArray} {now : Int} (h : getR r (skey c) = some v) (h2 : readS v = none) : findS r c now = none := by unfold findS; rw [h, Option.bind_some, h2]; rfl
theorem findS_over {r : List S82} {c v : ByteArray} {x : Ses} {now : Int} (h : getR r (skey c) = some v) (h2 : readS v = some x) (h3 : x.ends ≤ now) : findS r c now = none := by unfold findS; rw [h, Option.bind_some, h2, Option.bind_some, if_pos h3]
theorem findS_there {r : List S82} {c v : ByteArray} {x : Ses} {now : Int} (h : getR r (skey c) = some v) (h2 : readS v = some x) (h3 : ¬ x.ends ≤ now) : findS r c now = some x := by unfold findS; rw [h, Option.bind_some, h2, Option.bind_some, if_neg h3]
theorem skey_says (c : ByteArray) (hc : c.size ≤ 1000000) (w : World) : Calls Tryz.prog 46 #[.string c] w fun e w' => e = .returned (.string (skey c)) ∧ Below w.heap.size w w' :=
 (seat_Key.calls c (skey c) w (by unfold seat_Key.f; rw [if_pos (by omega)]; rfl)).mono fun e w' h => ⟨h.1, h.2.below⟩
set_option maxHeartbeats 4000000 in
theorem find_says (base s N : Nat) (r : List S82) (c : ByteArray) (now : Int) (hc : c.size ≤ 1000000) (hv : ∀ v, getR r (skey c) = some v → v.size ≤ 4294967280) (w : World) (hS : StW base w s r N) (hGP : GP w) (hGE : GE w) :
  Calls Tryz.prog 44 #[.pointer (some ⟨s, 0, none⟩), .string c, .int .i64 now] w fun e w' => e = .returned (.tuple #[sesV ((findS r c now).getD sesZ), .bool (findS r c now).isSome]) ∧ Below w.heap.size w w' := by
 have hB0 : Below w.heap.size w (w.alloc (.cells #[.string ⟨#[]⟩, .string ⟨#[]⟩, .string ⟨#[]⟩, .string ⟨#[]⟩, .string ⟨#[]⟩, .string ⟨#[]⟩, .string ⟨#[]⟩, .int .i64 0, .string ⟨#[]⟩, .string ⟨#[]⟩, .string ⟨#[]⟩, .int .i64 0] 72)) := (Below.refl _ w).alloc (Nat.le_refl _) _
 have hz := heap_alloc_new w (.cells #[.string ⟨#[]⟩, .string ⟨#[]⟩, .string ⟨#[]⟩, .string ⟨#[]⟩, .string ⟨#[]⟩, .string ⟨#[]⟩, .string ⟨#[]⟩, .int .i64 0, .string ⟨#[]⟩, .string ⟨#[]⟩, .string ⟨#[]⟩, .int .i64 0] 72)
 have hks := skey_size c
 have hkey := fun w1 => skey_says c hc w1
 have hget := fun w1 (hb : Below w.heap.size w w1) => wget_says base s N r (skey c) (by unfold maxLen; omega) w1 (hS.below hb)
 have hread := fun v (hvv : v.size ≤ 4294967280) w1 (hb : Below w.heap.size w w1) => rses_says v hvv w1 (hGP.below hb) (hGE.below hb)
 have f0 := @findS_none r c now
 have f1 := @findS_bad r c
 have f2 := @findS_over r c
 have f3 := @findS_there r c
 obtain ⟨R, hR⟩ : ∃ R, R = findS r c now := ⟨_, rfl⟩
 have f1 := fun v => @f1 v now
 have f2 := fun v x => @f2 v x now
 have f3 := fun v x => @f3 v x now
 rw [← hR] at f0 ⊢
 simp only [← hR] at f1 f2 f3
 clear hR
 cases hg : getR r (skey c) with
 | none =>
  have hf := f0 hg
  subst hf
  clear f0 f1 f2 f3
  go_enter Tryz.func44, Tryz.ntmps44
  go_wp2_with fail
  refine (hkey _).mono ?_
  rintro e w0 ⟨rfl, hb0⟩
  have hB1 := below_then hB0 hB0.size hb0
  have hget := hget w0 hB1
  rw [hg] at hget
  have hz1 := blk_below hz hb0
  clear hkey
  go_wp2_with fail
  refine hget.mono ?_
  rintro e w1 ⟨rfl, he⟩
  subst he
  simp only [Option.getD_none, Option.getD_some, Option.isSome_none, Option.isSome_some]
  have c0 : w1.cell? ⟨w.heap.size, 0, none⟩ = some (.string ⟨#[]⟩) := (blk_cell hz1 0).trans rfl
  have f0 := blk_frozen hz1 0
  have c1 : w1.cell? ⟨w.heap.size, 1, none⟩ = some (.string ⟨#[]⟩) := (blk_cell hz1 1).trans rfl
  have f1 := blk_frozen hz1 1
  have c2 : w1.cell? ⟨w.heap.size, 2, none⟩ = some (.string ⟨#[]⟩) := (blk_cell hz1 2).trans rfl
  have f2 := blk_frozen hz1 2
  have c3 : w1.cell? ⟨w.heap.size, 3, none⟩ = some (.string ⟨#[]⟩) := (blk_cell hz1 3).trans rfl
  have f3 := blk_frozen hz1 3
  have c4 : w1.cell? ⟨w.heap.size, 4, none⟩ = some (.string ⟨#[]⟩) := (blk_cell hz1 4).trans rfl
  have f4 := blk_frozen hz1 4
  have c5 : w1.cell? ⟨w.heap.size, 5, none⟩ = some (.string ⟨#[]⟩) := (blk_cell hz1 5).trans rfl
  have f5 := blk_frozen hz1 5
  have c6 : w1.cell? ⟨w.heap.size, 6, none⟩ = some (.string ⟨#[]⟩) := (blk_cell hz1 6).trans rfl
  have f6 := blk_frozen hz1 6
  have c7 : w1.cell? ⟨w.heap.size, 7, none⟩ = some (.int .i64 0) := (blk_cell hz1 7).trans rfl
  have f7 := blk_frozen hz1 7
  have c8 : w1.cell? ⟨w.heap.size, 8, none⟩ = some (.string ⟨#[]⟩) := (blk_cell hz1 8).trans rfl
  have f8 := blk_frozen hz1 8
  have c9 : w1.cell? ⟨w.heap.size, 9, none⟩ = some (.string ⟨#[]⟩) := (blk_cell hz1 9).trans rfl
  have f9 := blk_frozen hz1 9
  have c10 : w1.cell? ⟨w.heap.size, 10, none⟩ = some (.string ⟨#[]⟩) := (blk_cell hz1 10).trans rfl
  have f10 := blk_frozen hz1 10
  have c11 : w1.cell? ⟨w.heap.size, 11, none⟩ = some (.int .i64 0) := (blk_cell hz1 11).trans rfl
  have f11 := blk_frozen hz1 11
  clear hg
  go_wp2_with fail
  refine bodyPost_ret (results_ct rfl _ _ w.heap.size 72 #[.string ⟨#[]⟩, .string ⟨#[]⟩, .string ⟨#[]⟩, .string ⟨#[]⟩, .string ⟨#[]⟩, .string ⟨#[]⟩, .string ⟨#[]⟩, .int .i64 0, .string ⟨#[]⟩, .string ⟨#[]⟩, .string ⟨#[]⟩, .int .i64 0] (0, 0) _ rfl (by
   refine blk_put (cs := #[.string ⟨#[]⟩, .string ⟨#[]⟩, .string ⟨#[]⟩, .string ⟨#[]⟩, .string ⟨#[]⟩, .string ⟨#[]⟩, .string ⟨#[]⟩, .int .i64 0, .string ⟨#[]⟩, .string ⟨#[]⟩, .string ⟨#[]⟩, .int .i64 0]) ?_ 11 _ rfl
   refine blk_put (cs := #[.string ⟨#[]⟩, .string ⟨#[]⟩, .string ⟨#[]⟩, .string ⟨#[]⟩, .string ⟨#[]⟩, .string ⟨#[]⟩, .string ⟨#[]⟩, .int .i64 0, .string ⟨#[]⟩, .string ⟨#[]⟩, .string ⟨#[]⟩, .int .i64 0]) ?_ 10 _ rfl
   refine blk_put (cs := #[.string ⟨#[]⟩, .string ⟨#[]⟩, .string ⟨#[]⟩, .string ⟨#[]⟩, .string ⟨#[]⟩, .string ⟨#[]⟩, .string ⟨#[]⟩, .int .i64 0, .string ⟨#[]⟩, .string ⟨#[]⟩, .string ⟨#[]⟩, .int .i64 0]) ?_ 9 _ rfl
   refine blk_put (cs := #[.string ⟨#[]⟩, .string ⟨#[]⟩, .string ⟨#[]⟩, .string ⟨#[]⟩, .string ⟨#[]⟩, .string ⟨#[]⟩, .string ⟨#[]⟩, .int .i64 0, .string ⟨#[]⟩, .string ⟨#[]⟩, .string ⟨#[]⟩, .int .i64 0]) ?_ 8 _ rfl
   refine blk_put (cs := #[.string ⟨#[]⟩, .string ⟨#[]⟩, .string ⟨#[]⟩, .string ⟨#[]⟩, .string ⟨#[]⟩, .string ⟨#[]⟩, .string ⟨#[]⟩, .int .i64 0, .string ⟨#[]⟩, .string ⟨#[]⟩, .string ⟨#[]⟩, .int .i64 0]) ?_ 7 _ rfl
   refine blk_put (cs := #[.string ⟨#[]⟩, .string ⟨#[]⟩, .string ⟨#[]⟩, .string ⟨#[]⟩, .string ⟨#[]⟩, .string ⟨#[]⟩, .string ⟨#[]⟩, .int .i64 0, .string ⟨#[]⟩, .string ⟨#[]⟩, .string ⟨#[]⟩, .int .i64 0]) ?_ 6 _ rfl
   refine blk_put (cs := #[.string ⟨#[]⟩, .string ⟨#[]⟩, .string ⟨#[]⟩, .string ⟨#[]⟩, .string ⟨#[]⟩, .string ⟨#[]⟩, .string ⟨#[]⟩, .int .i64 0, .string ⟨#[]⟩, .string ⟨#[]⟩, .string ⟨#[]⟩, .int .i64 0]) ?_ 5 _ rfl
   refine blk_put (cs := #[.string ⟨#[]⟩, .string ⟨#[]⟩, .string ⟨#[]⟩, .string ⟨#[]⟩, .string ⟨#[]⟩, .string ⟨#[]⟩, .string ⟨#[]⟩, .int .i64 0, .string ⟨#[]⟩, .string ⟨#[]⟩, .string ⟨#[]⟩, .int .i64 0]) ?_ 4 _ rfl
   refine blk_put (cs := #[.string ⟨#[]⟩, .string ⟨#[]⟩, .string ⟨#[]⟩, .string ⟨#[]⟩, .string ⟨#[]⟩, .string ⟨#[]⟩, .string ⟨#[]⟩, .int .i64 0, .string ⟨#[]⟩, .string ⟨#[]⟩, .string ⟨#[]⟩, .int .i64 0]) ?_ 3 _ rfl
   refine blk_put (cs := #[.string ⟨#[]⟩, .string ⟨#[]⟩, .string ⟨#[]⟩, .string ⟨#[]⟩, .string ⟨#[]⟩, .string ⟨#[]⟩, .string ⟨#[]⟩, .int .i64 0, .string ⟨#[]⟩, .string ⟨#[]⟩, .string ⟨#[]⟩, .int .i64 0]) ?_ 2 _ rfl
   refine blk_put (cs := #[.string ⟨#[]⟩, .string ⟨#[]⟩, .string ⟨#[]⟩, .string ⟨#[]⟩, .string ⟨#[]⟩, .string ⟨#[]⟩, .string ⟨#[]⟩, .int .i64 0, .string ⟨#[]⟩, .string ⟨#[]⟩, .string ⟨#[]⟩, .int .i64 0]) ?_ 1 _ rfl
   refine blk_put (cs := #[.string ⟨#[]⟩, .string ⟨#[]⟩, .string ⟨#[]⟩, .string ⟨#[]⟩, .string ⟨#[]⟩, .string ⟨#[]⟩, .string ⟨#[]⟩, .int .i64 0, .string ⟨#[]⟩, .string ⟨#[]⟩, .string ⟨#[]⟩, .int .i64 0]) ?_ 0 _ rfl
   exact hz1) Tryz.underlying72 rfl (by kernel_rfl)) rfl ?_
  refine ⟨rfl, ?_⟩
  iterate 12 (with_reducible refine below_set ?_ (Nat.le_refl _))
  with_reducible exact hB1
 | some v =>
  have hvv := hv v hg
  have f1 := f1 v hg
  have f2 := fun x => f2 v x hg
  have f3 := fun x => f3 v x hg
  clear hv f0
  go_enter Tryz.func44, Tryz.ntmps44
  go_wp2_with fail
  refine (hkey _).mono ?_
  rintro e w0 ⟨rfl, hb0⟩
  have hB1 := below_then hB0 hB0.size hb0
  have hget := hget w0 hB1
  rw [hg] at hget
  have hz1 := blk_below hz hb0
  clear hkey
  go_wp2_with fail
  refine hget.mono ?_
  rintro e w1 ⟨rfl, he⟩
  subst he
  simp only [Option.getD_none, Option.getD_some, Option.isSome_none, Option.isSome_some]
  clear hg
  have hread := hread v hvv w1 hB1
  cases hx : readS v with
  | none =>
   have hf := f1 hx
   subst hf
   rw [hx] at hread
   clear f1 f2 f3 hx
   simp only [Option.getD_none, sesV, sesZ, sesE, Option.isSome_none, Bool.false_eq_true, if_false] at hread
   go_wp2_with fail
   refine hread.mono ?_
   rintro e w2 ⟨rfl, hb2⟩
   have hz2 := blk_below hz1 hb2
   have hB2 := below_then hB1 hB1.size hb2
   clear hread
   have hz3 := blk_below hz2 (below_alloc (Below.refl _ w2) (.cells #[.string ⟨#[]⟩, .string ⟨#[]⟩, .string ⟨#[]⟩, .string ⟨#[]⟩, .string ⟨#[]⟩, .string ⟨#[]⟩, .string ⟨#[]⟩, .int .i64 0, .string ⟨#[]⟩, .string ⟨#[]⟩, .string ⟨#[]⟩, .int .i64 0] 72))
   have hx3 := heap_alloc_new w2 (.cells #[.string ⟨#[]⟩, .string ⟨#[]⟩, .string ⟨#[]⟩, .string ⟨#[]⟩, .string ⟨#[]⟩, .string ⟨#[]⟩, .string ⟨#[]⟩, .int .i64 0, .string ⟨#[]⟩, .string ⟨#[]⟩, .string ⟨#[]⟩, .int .i64 0] 72)
   have hB3 := below_alloc hB2 (.cells #[.string ⟨#[]⟩, .string ⟨#[]⟩, .string ⟨#[]⟩, .string ⟨#[]⟩, .string ⟨#[]⟩, .string ⟨#[]⟩, .string ⟨#[]⟩, .int .i64 0, .string ⟨#[]⟩, .string ⟨#[]⟩, .string ⟨#[]⟩, .int .i64 0] 72)
   have c0 : (w2.alloc (.cells #[.string ⟨#[]⟩, .string ⟨#[]⟩, .string ⟨#[]⟩, .string ⟨#[]⟩, .string ⟨#[]⟩, .string ⟨#[]⟩, .string ⟨#[]⟩, .int .i64 0, .string ⟨#[]⟩, .string ⟨#[]⟩, .string ⟨#[]⟩, .int .i64 0] 72)).cell? ⟨w.heap.size, 0, none⟩ = some (.string ⟨#[]⟩) := (blk_cell hz3 0).trans rfl
   have f0 := blk_frozen hz3 0
   have c1 : (w2.alloc (.cells #[.string ⟨#[]⟩, .string ⟨#[]⟩, .string ⟨#[]⟩, .string ⟨#[]⟩, .string ⟨#[]⟩, .string ⟨#[]⟩, .string ⟨#[]⟩, .int .i64 0, .string ⟨#[]⟩, .string ⟨#[]⟩, .string ⟨#[]⟩, .int .i64 0] 72)).cell? ⟨w.heap.size, 1, none⟩ = some (.string ⟨#[]⟩) := (blk_cell hz3 1).trans rfl
   have f1 := blk_frozen hz3 1
   have c2 : (w2.alloc (.cells #[.string ⟨#[]⟩, .string ⟨#[]⟩, .string ⟨#[]⟩, .string ⟨#[]⟩, .string ⟨#[]⟩, .string ⟨#[]⟩, .string ⟨#[]⟩, .int .i64 0, .string ⟨#[]⟩, .string ⟨#[]⟩, .string ⟨#[]⟩, .int .i64 0] 72)).cell? ⟨w.heap.size, 2, none⟩ = some (.string ⟨#[]⟩) := (blk_cell hz3 2).trans rfl
   have f2 := blk_frozen hz3 2
   have c3 : (w2.alloc (.cells #[.string ⟨#[]⟩, .string ⟨#[]⟩, .string ⟨#[]⟩, .string ⟨#[]⟩, .string ⟨#[]⟩, .string ⟨#[]⟩, .string ⟨#[]⟩, .int .i64 0, .string ⟨#[]⟩, .string ⟨#[]⟩, .string ⟨#[]⟩, .int .i64 0] 72)).cell? ⟨w.heap.size, 3, none⟩ = some (.string ⟨#[]⟩) := (blk_cell hz3 3).trans rfl
   have f3 := blk_frozen hz3 3
   have c4 : (w2.alloc (.cells #[.string ⟨#[]⟩, .string ⟨#[]⟩, .string ⟨#[]⟩, .string ⟨#[]⟩, .string ⟨#[]⟩, .string ⟨#[]⟩, .string ⟨#[]⟩, .int .i64 0, .string ⟨#[]⟩, .string ⟨#[]⟩, .string ⟨#[]⟩, .int .i64 0] 72)).cell? ⟨w.heap.size, 4, none⟩ = some (.string ⟨#[]⟩) := (blk_cell hz3 4).trans rfl
   have f4 := blk_frozen hz3 4
   have c5 : (w2.alloc (.cells #[.string ⟨#[]⟩, .string ⟨#[]⟩, .string ⟨#[]⟩, .string ⟨#[]⟩, .string ⟨#[]⟩, .string ⟨#[]⟩, .string ⟨#[]⟩, .int .i64 0, .string ⟨#[]⟩, .string ⟨#[]⟩, .string ⟨#[]⟩, .int .i64 0] 72)).cell? ⟨w.heap.size, 5, none⟩ = some (.string ⟨#[]⟩) := (blk_cell hz3 5).trans rfl
   have f5 := blk_frozen hz3 5
   have c6 : (w2.alloc (.cells #[.string ⟨#[]⟩, .string ⟨#[]⟩, .string ⟨#[]⟩, .string ⟨#[]⟩, .string ⟨#[]⟩, .string ⟨#[]⟩, .string ⟨#[]⟩, .int .i64 0, .string ⟨#[]⟩, .string ⟨#[]⟩, .string ⟨#[]⟩, .int .i64 0] 72)).cell? ⟨w.heap.size, 6, none⟩ = some (.string ⟨#[]⟩) := (blk_cell hz3 6).trans rfl
   have f6 := blk_frozen hz3 6
   have c7 : (w2.alloc (.cells #[.string ⟨#[]⟩, .string ⟨#[]⟩, .string ⟨#[]⟩, .string ⟨#[]⟩, .string ⟨#[]⟩, .string ⟨#[]⟩, .string ⟨#[]⟩, .int .i64 0, .string ⟨#[]⟩, .string ⟨#[]⟩, .string ⟨#[]⟩, .int .i64 0] 72)).cell? ⟨w.heap.size, 7, none⟩ = some (.int .i64 0) := (blk_cell hz3 7).trans rfl
   have f7 := blk_frozen hz3 7
   have c8 : (w2.alloc (.cells #[.string ⟨#[]⟩, .string ⟨#[]⟩, .string ⟨#[]⟩, .string ⟨#[]⟩, .string ⟨#[]⟩, .string ⟨#[]⟩, .string ⟨#[]⟩, .int .i64 0, .string ⟨#[]⟩, .string ⟨#[]⟩, .string ⟨#[]⟩, .int .i64 0] 72)).cell? ⟨w.heap.size, 8, none⟩ = some (.string ⟨#[]⟩) := (blk_cell hz3 8).trans rfl
   have f8 := blk_frozen hz3 8
   have c9 : (w2.alloc (.cells #[.string ⟨#[]⟩, .string ⟨#[]⟩, .string ⟨#[]⟩, .string ⟨#[]⟩, .string ⟨#[]⟩, .string ⟨#[]⟩, .string ⟨#[]⟩, .int .i64 0, .string ⟨#[]⟩, .string ⟨#[]⟩, .string ⟨#[]⟩, .int .i64 0] 72)).cell? ⟨w.heap.size, 9, none⟩ = some (.string ⟨#[]⟩) := (blk_cell hz3 9).trans rfl
   have f9 := blk_frozen hz3 9
   have c10 : (w2.alloc (.cells #[.string ⟨#[]⟩, .string ⟨#[]⟩, .string ⟨#[]⟩, .string ⟨#[]⟩, .string ⟨#[]⟩, .string ⟨#[]⟩, .string ⟨#[]⟩, .int .i64 0, .string ⟨#[]⟩, .string ⟨#[]⟩, .string ⟨#[]⟩, .int .i64 0] 72)).cell? ⟨w.heap.size, 10, none⟩ = some (.string ⟨#[]⟩) := (blk_cell hz3 10).trans rfl
   have f10 := blk_frozen hz3 10
   have c11 : (w2.alloc (.cells #[.string ⟨#[]⟩, .string ⟨#[]⟩, .string ⟨#[]⟩, .string ⟨#[]⟩, .string ⟨#[]⟩, .string ⟨#[]⟩, .string ⟨#[]⟩, .int .i64 0, .string ⟨#[]⟩, .string ⟨#[]⟩, .string ⟨#[]⟩, .int .i64 0] 72)).cell? ⟨w.heap.size, 11, none⟩ = some (.int .i64 0) := (blk_cell hz3 11).trans rfl
   have f11 := blk_frozen hz3 11
   have d0 : (w2.alloc (.cells #[.string ⟨#[]⟩, .string ⟨#[]⟩, .string ⟨#[]⟩, .string ⟨#[]⟩, .string ⟨#[]⟩, .string ⟨#[]⟩, .string ⟨#[]⟩, .int .i64 0, .string ⟨#[]⟩, .string ⟨#[]⟩, .string ⟨#[]⟩, .int .i64 0] 72)).cell? ⟨w2.heap.size, 0, none⟩ = some (.string ⟨#[]⟩) := (blk_cell hx3 0).trans rfl
   have d1 : (w2.alloc (.cells #[.string ⟨#[]⟩, .string ⟨#[]⟩, .string ⟨#[]⟩, .string ⟨#[]⟩, .string ⟨#[]⟩, .string ⟨#[]⟩, .string ⟨#[]⟩, .int .i64 0, .string ⟨#[]⟩, .string ⟨#[]⟩, .string ⟨#[]⟩, .int .i64 0] 72)).cell? ⟨w2.heap.size, 1, none⟩ = some (.string ⟨#[]⟩) := (blk_cell hx3 1).trans rfl
   have d2 : (w2.alloc (.cells #[.string ⟨#[]⟩, .string ⟨#[]⟩, .string ⟨#[]⟩, .string ⟨#[]⟩, .string ⟨#[]⟩, .string ⟨#[]⟩, .string ⟨#[]⟩, .int .i64 0, .string ⟨#[]⟩, .string ⟨#[]⟩, .string ⟨#[]⟩, .int .i64 0] 72)).cell? ⟨w2.heap.size, 2, none⟩ = some (.string ⟨#[]⟩) := (blk_cell hx3 2).trans rfl
   have d3 : (w2.alloc (.cells #[.string ⟨#[]⟩, .string ⟨#[]⟩, .string ⟨#[]⟩, .string ⟨#[]⟩, .string ⟨#[]⟩, .string ⟨#[]⟩, .string ⟨#[]⟩, .int .i64 0, .string ⟨#[]⟩, .string ⟨#[]⟩, .string ⟨#[]⟩, .int .i64 0] 72)).cell? ⟨w2.heap.size, 3, none⟩ = some (.string ⟨#[]⟩) := (blk_cell hx3 3).trans rfl
   have d4 : (w2.alloc (.cells #[.string ⟨#[]⟩, .string ⟨#[]⟩, .string ⟨#[]⟩, .string ⟨#[]⟩, .string ⟨#[]⟩, .string ⟨#[]⟩, .string ⟨#[]⟩, .int .i64 0, .string ⟨#[]⟩, .string ⟨#[]⟩, .string ⟨#[]⟩, .int .i64 0] 72)).cell? ⟨w2.heap.size, 4, none⟩ = some (.string ⟨#[]⟩) := (blk_cell hx3 4).trans rfl
   have d5 : (w2.alloc (.cells #[.string ⟨#[]⟩, .string ⟨#[]⟩, .string ⟨#[]⟩, .string ⟨#[]⟩, .string ⟨#[]⟩, .string ⟨#[]⟩, .string ⟨#[]⟩, .int .i64 0, .string ⟨#[]⟩, .string ⟨#[]⟩, .string ⟨#[]⟩, .int .i64 0] 72)).cell? ⟨w2.heap.size, 5, none⟩ = some (.string ⟨#[]⟩) := (blk_cell hx3 5).trans rfl
   have d6 : (w2.alloc (.cells #[.string ⟨#[]⟩, .string ⟨#[]⟩, .string ⟨#[]⟩, .string ⟨#[]⟩, .string ⟨#[]⟩, .string ⟨#[]⟩, .string ⟨#[]⟩, .int .i64 0, .string ⟨#[]⟩, .string ⟨#[]⟩, .string ⟨#[]⟩, .int .i64 0] 72)).cell? ⟨w2.heap.size, 6, none⟩ = some (.string ⟨#[]⟩) := (blk_cell hx3 6).trans rfl
   have d7 : (w2.alloc (.cells #[.string ⟨#[]⟩, .string ⟨#[]⟩, .string ⟨#[]⟩, .string ⟨#[]⟩, .string ⟨#[]⟩, .string ⟨#[]⟩, .string ⟨#[]⟩, .int .i64 0, .string ⟨#[]⟩, .string ⟨#[]⟩, .string ⟨#[]⟩, .int .i64 0] 72)).cell? ⟨w2.heap.size, 7, none⟩ = some (.int .i64 0) := (blk_cell hx3 7).trans rfl
   have d8 : (w2.alloc (.cells #[.string ⟨#[]⟩, .string ⟨#[]⟩, .string ⟨#[]⟩, .string ⟨#[]⟩, .string ⟨#[]⟩, .string ⟨#[]⟩, .string ⟨#[]⟩, .int .i64 0, .string ⟨#[]⟩, .string ⟨#[]⟩, .string ⟨#[]⟩, .int .i64 0] 72)).cell? ⟨w2.heap.size, 8, none⟩ = some (.string ⟨#[]⟩) := (blk_cell hx3 8).trans rfl
   have d9 : (w2.alloc (.cells #[.string ⟨#[]⟩, .string ⟨#[]⟩, .string ⟨#[]⟩, .string ⟨#[]⟩, .string ⟨#[]⟩, .string ⟨#[]⟩, .string ⟨#[]⟩, .int .i64 0, .string ⟨#[]⟩, .string ⟨#[]⟩, .string ⟨#[]⟩, .int .i64 0] 72)).cell? ⟨w2.heap.size, 9, none⟩ = some (.string ⟨#[]⟩) := (blk_cell hx3 9).trans rfl
   have d10 : (w2.alloc (.cells #[.string ⟨#[]⟩, .string ⟨#[]⟩, .string ⟨#[]⟩, .string ⟨#[]⟩, .string ⟨#[]⟩, .string ⟨#[]⟩, .string ⟨#[]⟩, .int .i64 0, .string ⟨#[]⟩, .string ⟨#[]⟩, .string ⟨#[]⟩, .int .i64 0] 72)).cell? ⟨w2.heap.size, 10, none⟩ = some (.string ⟨#[]⟩) := (blk_cell hx3 10).trans rfl
   have d11 : (w2.alloc (.cells #[.string ⟨#[]⟩, .string ⟨#[]⟩, .string ⟨#[]⟩, .string ⟨#[]⟩, .string ⟨#[]⟩, .string ⟨#[]⟩, .string ⟨#[]⟩, .int .i64 0, .string ⟨#[]⟩, .string ⟨#[]⟩, .string ⟨#[]⟩, .int .i64 0] 72)).cell? ⟨w2.heap.size, 11, none⟩ = some (.int .i64 0) := (blk_cell hx3 11).trans rfl
   go_wp2_with fail
   refine bodyPost_ret (results_ct rfl _ _ w.heap.size 72 #[.string ⟨#[]⟩, .string ⟨#[]⟩, .string ⟨#[]⟩, .string ⟨#[]⟩, .string ⟨#[]⟩, .string ⟨#[]⟩, .string ⟨#[]⟩, .int .i64 0, .string ⟨#[]⟩, .string ⟨#[]⟩, .string ⟨#[]⟩, .int .i64 0] (0, 0) _ rfl (by
    refine blk_put (cs := #[.string ⟨#[]⟩, .string ⟨#[]⟩, .string ⟨#[]⟩, .string ⟨#[]⟩, .string ⟨#[]⟩, .string ⟨#[]⟩, .string ⟨#[]⟩, .int .i64 0, .string ⟨#[]⟩, .string ⟨#[]⟩, .string ⟨#[]⟩, .int .i64 0]) ?_ 11 _ rfl
    refine blk_put (cs := #[.string ⟨#[]⟩, .string ⟨#[]⟩, .string ⟨#[]⟩, .string ⟨#[]⟩, .string ⟨#[]⟩, .string ⟨#[]⟩, .string ⟨#[]⟩, .int .i64 0, .string ⟨#[]⟩, .string ⟨#[]⟩, .string ⟨#[]⟩, .int .i64 0]) ?_ 10 _ rfl
    refine blk_put (cs := #[.string ⟨#[]⟩, .string ⟨#[]⟩, .string ⟨#[]⟩, .string ⟨#[]⟩, .string ⟨#[]⟩, .string ⟨#[]⟩, .string ⟨#[]⟩, .int .i64 0, .string ⟨#[]⟩, .string ⟨#[]⟩, .string ⟨#[]⟩, .int .i64 0]) ?_ 9 _ rfl
    refine blk_put (cs := #[.string ⟨#[]⟩, .string ⟨#[]⟩, .string ⟨#[]⟩, .string ⟨#[]⟩, .string ⟨#[]⟩, .string ⟨#[]⟩, .string ⟨#[]⟩, .int .i64 0, .string ⟨#[]⟩, .string ⟨#[]⟩, .string ⟨#[]⟩, .int .i64 0]) ?_ 8 _ rfl
    refine blk_put (cs := #[.string ⟨#[]⟩, .string ⟨#[]⟩, .string ⟨#[]⟩, .string ⟨#[]⟩, .string ⟨#[]⟩, .string ⟨#[]⟩, .string ⟨#[]⟩, .int .i64 0, .string ⟨#[]⟩, .string ⟨#[]⟩, .string ⟨#[]⟩, .int .i64 0]) ?_ 7 _ rfl
    refine blk_put (cs := #[.string ⟨#[]⟩, .string ⟨#[]⟩, .string ⟨#[]⟩, .string ⟨#[]⟩, .string ⟨#[]⟩, .string ⟨#[]⟩, .string ⟨#[]⟩, .int .i64 0, .string ⟨#[]⟩, .string ⟨#[]⟩, .string ⟨#[]⟩, .int .i64 0]) ?_ 6 _ rfl
    refine blk_put (cs := #[.string ⟨#[]⟩, .string ⟨#[]⟩, .string ⟨#[]⟩, .string ⟨#[]⟩, .string ⟨#[]⟩, .string ⟨#[]⟩, .string ⟨#[]⟩, .int .i64 0, .string ⟨#[]⟩, .string ⟨#[]⟩, .string ⟨#[]⟩, .int .i64 0]) ?_ 5 _ rfl
    refine blk_put (cs := #[.string ⟨#[]⟩, .string ⟨#[]⟩, .string ⟨#[]⟩, .string ⟨#[]⟩, .string ⟨#[]⟩, .string ⟨#[]⟩, .string ⟨#[]⟩, .int .i64 0, .string ⟨#[]⟩, .string ⟨#[]⟩, .string ⟨#[]⟩, .int .i64 0]) ?_ 4 _ rfl
    refine blk_put (cs := #[.string ⟨#[]⟩, .string ⟨#[]⟩, .string ⟨#[]⟩, .string ⟨#[]⟩, .string ⟨#[]⟩, .string ⟨#[]⟩, .string ⟨#[]⟩, .int .i64 0, .string ⟨#[]⟩, .string ⟨#[]⟩, .string ⟨#[]⟩, .int .i64 0]) ?_ 3 _ rfl
    refine blk_put (cs := #[.string ⟨#[]⟩, .string ⟨#[]⟩, .string ⟨#[]⟩, .string ⟨#[]⟩, .string ⟨#[]⟩, .string ⟨#[]⟩, .string ⟨#[]⟩, .int .i64 0, .string ⟨#[]⟩, .string ⟨#[]⟩, .string ⟨#[]⟩, .int .i64 0]) ?_ 2 _ rfl
    refine blk_put (cs := #[.string ⟨#[]⟩, .string ⟨#[]⟩, .string ⟨#[]⟩, .string ⟨#[]⟩, .string ⟨#[]⟩, .string ⟨#[]⟩, .string ⟨#[]⟩, .int .i64 0, .string ⟨#[]⟩, .string ⟨#[]⟩, .string ⟨#[]⟩, .int .i64 0]) ?_ 1 _ rfl
    refine blk_put (cs := #[.string ⟨#[]⟩, .string ⟨#[]⟩, .string ⟨#[]⟩, .string ⟨#[]⟩, .string ⟨#[]⟩, .string ⟨#[]⟩, .string ⟨#[]⟩, .int .i64 0, .string ⟨#[]⟩, .string ⟨#[]⟩, .string ⟨#[]⟩, .int .i64 0]) ?_ 0 _ rfl
    exact hz3) Tryz.underlying72 rfl (by kernel_rfl)) rfl ?_
   refine ⟨rfl, ?_⟩
   iterate 12 (with_reducible refine below_set ?_ (Nat.le_refl _))
   with_reducible exact hB3
  | some x =>
   have f2 := f2 x hx
   have f3 := f3 x hx
   rw [hx] at hread
   clear f1 hx
   simp only [Option.getD_some, sesV, sesE, Option.isSome_some, if_true] at hread
   by_cases hov : x.ends ≤ now
   ·
    have hf := f2 hov
    subst hf
    have q3 : decide (x.ends ≤ now) = true := decide_eq_true hov
    clear f2 f3 hov
    go_wp2_with fail
    refine hread.mono ?_
    rintro e w2 ⟨rfl, hb2⟩
    have hz2 := blk_below hz1 hb2
    have hB2 := below_then hB1 hB1.size hb2
    clear hread
    have hz3 := blk_below hz2 (below_alloc (Below.refl _ w2) (.cells #[.string x.cookie, .string x.client, .string x.redirect, .string x.state, .string x.nonce, .string x.scope, .string x.challenge, .int .i64 x.stage, .string x.conn, .string x.upState, .string x.upNonce, .int .i64 x.ends] 72))
    have hx3 := heap_alloc_new w2 (.cells #[.string x.cookie, .string x.client, .string x.redirect, .string x.state, .string x.nonce, .string x.scope, .string x.challenge, .int .i64 x.stage, .string x.conn, .string x.upState, .string x.upNonce, .int .i64 x.ends] 72)
    have hB3 := below_alloc hB2 (.cells #[.string x.cookie, .string x.client, .string x.redirect, .string x.state, .string x.nonce, .string x.scope, .string x.challenge, .int .i64 x.stage, .string x.conn, .string x.upState, .string x.upNonce, .int .i64 x.ends] 72)
    have c0 : (w2.alloc (.cells #[.string x.cookie, .string x.client, .string x.redirect, .string x.state, .string x.nonce, .string x.scope, .string x.challenge, .int .i64 x.stage, .string x.conn, .string x.upState, .string x.upNonce, .int .i64 x.ends] 72)).cell? ⟨w.heap.size, 0, none⟩ = some (.string ⟨#[]⟩) := (blk_cell hz3 0).trans rfl
    have f0 := blk_frozen hz3 0
    have c1 : (w2.alloc (.cells #[.string x.cookie, .string x.client, .string x.redirect, .string x.state, .string x.nonce, .string x.scope, .string x.challenge, .int .i64 x.stage, .string x.conn, .string x.upState, .string x.upNonce, .int .i64 x.ends] 72)).cell? ⟨w.heap.size, 1, none⟩ = some (.string ⟨#[]⟩) := (blk_cell hz3 1).trans rfl
    have f1 := blk_frozen hz3 1
    have c2 : (w2.alloc (.cells #[.string x.cookie, .string x.client, .string x.redirect, .string x.state, .string x.nonce, .string x.scope, .string x.challenge, .int .i64 x.stage, .string x.conn, .string x.upState, .string x.upNonce, .int .i64 x.ends] 72)).cell? ⟨w.heap.size, 2, none⟩ = some (.string ⟨#[]⟩) := (blk_cell hz3 2).trans rfl
    have f2 := blk_frozen hz3 2
    have c3 : (w2.alloc (.cells #[.string x.cookie, .string x.client, .string x.redirect, .string x.state, .string x.nonce, .string x.scope, .string x.challenge, .int .i64 x.stage, .string x.conn, .string x.upState, .string x.upNonce, .int .i64 x.ends] 72)).cell? ⟨w.heap.size, 3, none⟩ = some (.string ⟨#[]⟩) := (blk_cell hz3 3).trans rfl
    have f3 := blk_frozen hz3 3
    have c4 : (w2.alloc (.cells #[.string x.cookie, .string x.client, .string x.redirect, .string x.state, .string x.nonce, .string x.scope, .string x.challenge, .int .i64 x.stage, .string x.conn, .string x.upState, .string x.upNonce, .int .i64 x.ends] 72)).cell? ⟨w.heap.size, 4, none⟩ = some (.string ⟨#[]⟩) := (blk_cell hz3 4).trans rfl
    have f4 := blk_frozen hz3 4
    have c5 : (w2.alloc (.cells #[.string x.cookie, .string x.client, .string x.redirect, .string x.state, .string x.nonce, .string x.scope, .string x.challenge, .int .i64 x.stage, .string x.conn, .string x.upState, .string x.upNonce, .int .i64 x.ends] 72)).cell? ⟨w.heap.size, 5, none⟩ = some (.string ⟨#[]⟩) := (blk_cell hz3 5).trans rfl
    have f5 := blk_frozen hz3 5
    have c6 : (w2.alloc (.cells #[.string x.cookie, .string x.client, .string x.redirect, .string x.state, .string x.nonce, .string x.scope, .string x.challenge, .int .i64 x.stage, .string x.conn, .string x.upState, .string x.upNonce, .int .i64 x.ends] 72)).cell? ⟨w.heap.size, 6, none⟩ = some (.string ⟨#[]⟩) := (blk_cell hz3 6).trans rfl
    have f6 := blk_frozen hz3 6
    have c7 : (w2.alloc (.cells #[.string x.cookie, .string x.client, .string x.redirect, .string x.state, .string x.nonce, .string x.scope, .string x.challenge, .int .i64 x.stage, .string x.conn, .string x.upState, .string x.upNonce, .int .i64 x.ends] 72)).cell? ⟨w.heap.size, 7, none⟩ = some (.int .i64 0) := (blk_cell hz3 7).trans rfl
    have f7 := blk_frozen hz3 7
    have c8 : (w2.alloc (.cells #[.string x.cookie, .string x.client, .string x.redirect, .string x.state, .string x.nonce, .string x.scope, .string x.challenge, .int .i64 x.stage, .string x.conn, .string x.upState, .string x.upNonce, .int .i64 x.ends] 72)).cell? ⟨w.heap.size, 8, none⟩ = some (.string ⟨#[]⟩) := (blk_cell hz3 8).trans rfl
    have f8 := blk_frozen hz3 8
    have c9 : (w2.alloc (.cells #[.string x.cookie, .string x.client, .string x.redirect, .string x.state, .string x.nonce, .string x.scope, .string x.challenge, .int .i64 x.stage, .string x.conn, .string x.upState, .string x.upNonce, .int .i64 x.ends] 72)).cell? ⟨w.heap.size, 9, none⟩ = some (.string ⟨#[]⟩) := (blk_cell hz3 9).trans rfl
    have f9 := blk_frozen hz3 9
    have c10 : (w2.alloc (.cells #[.string x.cookie, .string x.client, .string x.redirect, .string x.state, .string x.nonce, .string x.scope, .string x.challenge, .int .i64 x.stage, .string x.conn, .string x.upState, .string x.upNonce, .int .i64 x.ends] 72)).cell? ⟨w.heap.size, 10, none⟩ = some (.string ⟨#[]⟩) := (blk_cell hz3 10).trans rfl
    have f10 := blk_frozen hz3 10
    have c11 : (w2.alloc (.cells #[.string x.cookie, .string x.client, .string x.redirect, .string x.state, .string x.nonce, .string x.scope, .string x.challenge, .int .i64 x.stage, .string x.conn, .string x.upState, .string x.upNonce, .int .i64 x.ends] 72)).cell? ⟨w.heap.size, 11, none⟩ = some (.int .i64 0) := (blk_cell hz3 11).trans rfl
    have f11 := blk_frozen hz3 11
    have d0 : (w2.alloc (.cells #[.string x.cookie, .string x.client, .string x.redirect, .string x.state, .string x.nonce, .string x.scope, .string x.challenge, .int .i64 x.stage, .string x.conn, .string x.upState, .string x.upNonce, .int .i64 x.ends] 72)).cell? ⟨w2.heap.size, 0, none⟩ = some (.string x.cookie) := (blk_cell hx3 0).trans rfl
    have d1 : (w2.alloc (.cells #[.string x.cookie, .string x.client, .string x.redirect, .string x.state, .string x.nonce, .string x.scope, .string x.challenge, .int .i64 x.stage, .string x.conn, .string x.upState, .string x.upNonce, .int .i64 x.ends] 72)).cell? ⟨w2.heap.size, 1, none⟩ = some (.string x.client) := (blk_cell hx3 1).trans rfl
    have d2 : (w2.alloc (.cells #[.string x.cookie, .string x.client, .string x.redirect, .string x.state, .string x.nonce, .string x.scope, .string x.challenge, .int .i64 x.stage, .string x.conn, .string x.upState, .string x.upNonce, .int .i64 x.ends] 72)).cell? ⟨w2.heap.size, 2, none⟩ = some (.string x.redirect) := (blk_cell hx3 2).trans rfl
    have d3 : (w2.alloc (.cells #[.string x.cookie, .string x.client, .string x.redirect, .string x.state, .string x.nonce, .string x.scope, .string x.challenge, .int .i64 x.stage, .string x.conn, .string x.upState, .string x.upNonce, .int .i64 x.ends] 72)).cell? ⟨w2.heap.size, 3, none⟩ = some (.string x.state) := (blk_cell hx3 3).trans rfl
    have d4 : (w2.alloc (.cells #[.string x.cookie, .string x.client, .string x.redirect, .string x.state, .string x.nonce, .string x.scope, .string x.challenge, .int .i64 x.stage, .string x.conn, .string x.upState, .string x.upNonce, .int .i64 x.ends] 72)).cell? ⟨w2.heap.size, 4, none⟩ = some (.string x.nonce) := (blk_cell hx3 4).trans rfl
    have d5 : (w2.alloc (.cells #[.string x.cookie, .string x.client, .string x.redirect, .string x.state, .string x.nonce, .string x.scope, .string x.challenge, .int .i64 x.stage, .string x.conn, .string x.upState, .string x.upNonce, .int .i64 x.ends] 72)).cell? ⟨w2.heap.size, 5, none⟩ = some (.string x.scope) := (blk_cell hx3 5).trans rfl
    have d6 : (w2.alloc (.cells #[.string x.cookie, .string x.client, .string x.redirect, .string x.state, .string x.nonce, .string x.scope, .string x.challenge, .int .i64 x.stage, .string x.conn, .string x.upState, .string x.upNonce, .int .i64 x.ends] 72)).cell? ⟨w2.heap.size, 6, none⟩ = some (.string x.challenge) := (blk_cell hx3 6).trans rfl
    have d7 : (w2.alloc (.cells #[.string x.cookie, .string x.client, .string x.redirect, .string x.state, .string x.nonce, .string x.scope, .string x.challenge, .int .i64 x.stage, .string x.conn, .string x.upState, .string x.upNonce, .int .i64 x.ends] 72)).cell? ⟨w2.heap.size, 7, none⟩ = some (.int .i64 x.stage) := (blk_cell hx3 7).trans rfl
    have d8 : (w2.alloc (.cells #[.string x.cookie, .string x.client, .string x.redirect, .string x.state, .string x.nonce, .string x.scope, .string x.challenge, .int .i64 x.stage, .string x.conn, .string x.upState, .string x.upNonce, .int .i64 x.ends] 72)).cell? ⟨w2.heap.size, 8, none⟩ = some (.string x.conn) := (blk_cell hx3 8).trans rfl
    have d9 : (w2.alloc (.cells #[.string x.cookie, .string x.client, .string x.redirect, .string x.state, .string x.nonce, .string x.scope, .string x.challenge, .int .i64 x.stage, .string x.conn, .string x.upState, .string x.upNonce, .int .i64 x.ends] 72)).cell? ⟨w2.heap.size, 9, none⟩ = some (.string x.upState) := (blk_cell hx3 9).trans rfl
    have d10 : (w2.alloc (.cells #[.string x.cookie, .string x.client, .string x.redirect, .string x.state, .string x.nonce, .string x.scope, .string x.challenge, .int .i64 x.stage, .string x.conn, .string x.upState, .string x.upNonce, .int .i64 x.ends] 72)).cell? ⟨w2.heap.size, 10, none⟩ = some (.string x.upNonce) := (blk_cell hx3 10).trans rfl
    have d11 : (w2.alloc (.cells #[.string x.cookie, .string x.client, .string x.redirect, .string x.state, .string x.nonce, .string x.scope, .string x.challenge, .int .i64 x.stage, .string x.conn, .string x.upState, .string x.upNonce, .int .i64 x.ends] 72)).cell? ⟨w2.heap.size, 11, none⟩ = some (.int .i64 x.ends) := (blk_cell hx3 11).trans rfl
    go_wp2_with fail
    refine bodyPost_ret (results_ct rfl _ _ w.heap.size 72 #[.string ⟨#[]⟩, .string ⟨#[]⟩, .string ⟨#[]⟩, .string ⟨#[]⟩, .string ⟨#[]⟩, .string ⟨#[]⟩, .string ⟨#[]⟩, .int .i64 0, .string ⟨#[]⟩, .string ⟨#[]⟩, .string ⟨#[]⟩, .int .i64 0] (0, 0) _ rfl (by
     refine blk_put (cs := #[.string ⟨#[]⟩, .string ⟨#[]⟩, .string ⟨#[]⟩, .string ⟨#[]⟩, .string ⟨#[]⟩, .string ⟨#[]⟩, .string ⟨#[]⟩, .int .i64 0, .string ⟨#[]⟩, .string ⟨#[]⟩, .string ⟨#[]⟩, .int .i64 0]) ?_ 11 _ rfl
     refine blk_put (cs := #[.string ⟨#[]⟩, .string ⟨#[]⟩, .string ⟨#[]⟩, .string ⟨#[]⟩, .string ⟨#[]⟩, .string ⟨#[]⟩, .string ⟨#[]⟩, .int .i64 0, .string ⟨#[]⟩, .string ⟨#[]⟩, .string ⟨#[]⟩, .int .i64 0]) ?_ 10 _ rfl
     refine blk_put (cs := #[.string ⟨#[]⟩, .string ⟨#[]⟩, .string ⟨#[]⟩, .string ⟨#[]⟩, .string ⟨#[]⟩, .string ⟨#[]⟩, .string ⟨#[]⟩, .int .i64 0, .string ⟨#[]⟩, .string ⟨#[]⟩, .string ⟨#[]⟩, .int .i64 0]) ?_ 9 _ rfl
     refine blk_put (cs := #[.string ⟨#[]⟩, .string ⟨#[]⟩, .string ⟨#[]⟩, .string ⟨#[]⟩, .string ⟨#[]⟩, .string ⟨#[]⟩, .string ⟨#[]⟩, .int .i64 0, .string ⟨#[]⟩, .string ⟨#[]⟩, .string ⟨#[]⟩, .int .i64 0]) ?_ 8 _ rfl
     refine blk_put (cs := #[.string ⟨#[]⟩, .string ⟨#[]⟩, .string ⟨#[]⟩, .string ⟨#[]⟩, .string ⟨#[]⟩, .string ⟨#[]⟩, .string ⟨#[]⟩, .int .i64 0, .string ⟨#[]⟩, .string ⟨#[]⟩, .string ⟨#[]⟩, .int .i64 0]) ?_ 7 _ rfl
     refine blk_put (cs := #[.string ⟨#[]⟩, .string ⟨#[]⟩, .string ⟨#[]⟩, .string ⟨#[]⟩, .string ⟨#[]⟩, .string ⟨#[]⟩, .string ⟨#[]⟩, .int .i64 0, .string ⟨#[]⟩, .string ⟨#[]⟩, .string ⟨#[]⟩, .int .i64 0]) ?_ 6 _ rfl
     refine blk_put (cs := #[.string ⟨#[]⟩, .string ⟨#[]⟩, .string ⟨#[]⟩, .string ⟨#[]⟩, .string ⟨#[]⟩, .string ⟨#[]⟩, .string ⟨#[]⟩, .int .i64 0, .string ⟨#[]⟩, .string ⟨#[]⟩, .string ⟨#[]⟩, .int .i64 0]) ?_ 5 _ rfl
     refine blk_put (cs := #[.string ⟨#[]⟩, .string ⟨#[]⟩, .string ⟨#[]⟩, .string ⟨#[]⟩, .string ⟨#[]⟩, .string ⟨#[]⟩, .string ⟨#[]⟩, .int .i64 0, .string ⟨#[]⟩, .string ⟨#[]⟩, .string ⟨#[]⟩, .int .i64 0]) ?_ 4 _ rfl
     refine blk_put (cs := #[.string ⟨#[]⟩, .string ⟨#[]⟩, .string ⟨#[]⟩, .string ⟨#[]⟩, .string ⟨#[]⟩, .string ⟨#[]⟩, .string ⟨#[]⟩, .int .i64 0, .string ⟨#[]⟩, .string ⟨#[]⟩, .string ⟨#[]⟩, .int .i64 0]) ?_ 3 _ rfl
     refine blk_put (cs := #[.string ⟨#[]⟩, .string ⟨#[]⟩, .string ⟨#[]⟩, .string ⟨#[]⟩, .string ⟨#[]⟩, .string ⟨#[]⟩, .string ⟨#[]⟩, .int .i64 0, .string ⟨#[]⟩, .string ⟨#[]⟩, .string ⟨#[]⟩, .int .i64 0]) ?_ 2 _ rfl
     refine blk_put (cs := #[.string ⟨#[]⟩, .string ⟨#[]⟩, .string ⟨#[]⟩, .string ⟨#[]⟩, .string ⟨#[]⟩, .string ⟨#[]⟩, .string ⟨#[]⟩, .int .i64 0, .string ⟨#[]⟩, .string ⟨#[]⟩, .string ⟨#[]⟩, .int .i64 0]) ?_ 1 _ rfl
     refine blk_put (cs := #[.string ⟨#[]⟩, .string ⟨#[]⟩, .string ⟨#[]⟩, .string ⟨#[]⟩, .string ⟨#[]⟩, .string ⟨#[]⟩, .string ⟨#[]⟩, .int .i64 0, .string ⟨#[]⟩, .string ⟨#[]⟩, .string ⟨#[]⟩, .int .i64 0]) ?_ 0 _ rfl
     exact hz3) Tryz.underlying72 rfl (by kernel_rfl)) rfl ?_
    refine ⟨rfl, ?_⟩
    iterate 12 (with_reducible refine below_set ?_ (Nat.le_refl _))
    with_reducible exact hB3
   ·
    have hf := f3 (Int.not_le.1 hov)
    subst hf
    have q3 : decide (x.ends ≤ now) = false := decide_eq_false hov
    clear f2 f3 hov
    go_wp2_with fail
    refine hread.mono ?_
    rintro e w2 ⟨rfl, hb2⟩
    have hz2 := blk_below hz1 hb2
    have hB2 := below_then hB1 hB1.size hb2
    clear hread
    have hz3 := blk_below hz2 (below_alloc (Below.refl _ w2) (.cells #[.string x.cookie, .string x.client, .string x.redirect, .string x.state, .string x.nonce, .string x.scope, .string x.challenge, .int .i64 x.stage, .string x.conn, .string x.upState, .string x.upNonce, .int .i64 x.ends] 72))
    have hx3 := heap_alloc_new w2 (.cells #[.string x.cookie, .string x.client, .string x.redirect, .string x.state, .string x.nonce, .string x.scope, .string x.challenge, .int .i64 x.stage, .string x.conn, .string x.upState, .string x.upNonce, .int .i64 x.ends] 72)
    have hB3 := below_alloc hB2 (.cells #[.string x.cookie, .string x.client, .string x.redirect, .string x.state, .string x.nonce, .string x.scope, .string x.challenge, .int .i64 x.stage, .string x.conn, .string x.upState, .string x.upNonce, .int .i64 x.ends] 72)
    have c0 : (w2.alloc (.cells #[.string x.cookie, .string x.client, .string x.redirect, .string x.state, .string x.nonce, .string x.scope, .string x.challenge, .int .i64 x.stage, .string x.conn, .string x.upState, .string x.upNonce, .int .i64 x.ends] 72)).cell? ⟨w.heap.size, 0, none⟩ = some (.string ⟨#[]⟩) := (blk_cell hz3 0).trans rfl
    have f0 := blk_frozen hz3 0
    have c1 : (w2.alloc (.cells #[.string x.cookie, .string x.client, .string x.redirect, .string x.state, .string x.nonce, .string x.scope, .string x.challenge, .int .i64 x.stage, .string x.conn, .string x.upState, .string x.upNonce, .int .i64 x.ends] 72)).cell? ⟨w.heap.size, 1, none⟩ = some (.string ⟨#[]⟩) := (blk_cell hz3 1).trans rfl
    have f1 := blk_frozen hz3 1
    have c2 : (w2.alloc (.cells #[.string x.cookie, .string x.client, .string x.redirect, .string x.state, .string x.nonce, .string x.scope, .string x.challenge, .int .i64 x.stage, .string x.conn, .string x.upState, .string x.upNonce, .int .i64 x.ends] 72)).cell? ⟨w.heap.size, 2, none⟩ = some (.string ⟨#[]⟩) := (blk_cell hz3 2).trans rfl
    have f2 := blk_frozen hz3 2
    have c3 : (w2.alloc (.cells #[.string x.cookie, .string x.client, .string x.redirect, .string x.state, .string x.nonce, .string x.scope, .string x.challenge, .int .i64 x.stage, .string x.conn, .string x.upState, .string x.upNonce, .int .i64 x.ends] 72)).cell? ⟨w.heap.size, 3, none⟩ = some (.string ⟨#[]⟩) := (blk_cell hz3 3).trans rfl
    have f3 := blk_frozen hz3 3
    have c4 : (w2.alloc (.cells #[.string x.cookie, .string x.client, .string x.redirect, .string x.state, .string x.nonce, .string x.scope, .string x.challenge, .int .i64 x.stage, .string x.conn, .string x.upState, .string x.upNonce, .int .i64 x.ends] 72)).cell? ⟨w.heap.size, 4, none⟩ = some (.string ⟨#[]⟩) := (blk_cell hz3 4).trans rfl
    have f4 := blk_frozen hz3 4
    have c5 : (w2.alloc (.cells #[.string x.cookie, .string x.client, .string x.redirect, .string x.state, .string x.nonce, .string x.scope, .string x.challenge, .int .i64 x.stage, .string x.conn, .string x.upState, .string x.upNonce, .int .i64 x.ends] 72)).cell? ⟨w.heap.size, 5, none⟩ = some (.string ⟨#[]⟩) := (blk_cell hz3 5).trans rfl
    have f5 := blk_frozen hz3 5
    have c6 : (w2.alloc (.cells #[.string x.cookie, .string x.client, .string x.redirect, .string x.state, .string x.nonce, .string x.scope, .string x.challenge, .int .i64 x.stage, .string x.conn, .string x.upState, .string x.upNonce, .int .i64 x.ends] 72)).cell? ⟨w.heap.size, 6, none⟩ = some (.string ⟨#[]⟩) := (blk_cell hz3 6).trans rfl
    have f6 := blk_frozen hz3 6
    have c7 : (w2.alloc (.cells #[.string x.cookie, .string x.client, .string x.redirect, .string x.state, .string x.nonce, .string x.scope, .string x.challenge, .int .i64 x.stage, .string x.conn, .string x.upState, .string x.upNonce, .int .i64 x.ends] 72)).cell? ⟨w.heap.size, 7, none⟩ = some (.int .i64 0) := (blk_cell hz3 7).trans rfl
    have f7 := blk_frozen hz3 7
    have c8 : (w2.alloc (.cells #[.string x.cookie, .string x.client, .string x.redirect, .string x.state, .string x.nonce, .string x.scope, .string x.challenge, .int .i64 x.stage, .string x.conn, .string x.upState, .string x.upNonce, .int .i64 x.ends] 72)).cell? ⟨w.heap.size, 8, none⟩ = some (.string ⟨#[]⟩) := (blk_cell hz3 8).trans rfl
    have f8 := blk_frozen hz3 8
    have c9 : (w2.alloc (.cells #[.string x.cookie, .string x.client, .string x.redirect, .string x.state, .string x.nonce, .string x.scope, .string x.challenge, .int .i64 x.stage, .string x.conn, .string x.upState, .string x.upNonce, .int .i64 x.ends] 72)).cell? ⟨w.heap.size, 9, none⟩ = some (.string ⟨#[]⟩) := (blk_cell hz3 9).trans rfl
    have f9 := blk_frozen hz3 9
    have c10 : (w2.alloc (.cells #[.string x.cookie, .string x.client, .string x.redirect, .string x.state, .string x.nonce, .string x.scope, .string x.challenge, .int .i64 x.stage, .string x.conn, .string x.upState, .string x.upNonce, .int .i64 x.ends] 72)).cell? ⟨w.heap.size, 10, none⟩ = some (.string ⟨#[]⟩) := (blk_cell hz3 10).trans rfl
    have f10 := blk_frozen hz3 10
    have c11 : (w2.alloc (.cells #[.string x.cookie, .string x.client, .string x.redirect, .string x.state, .string x.nonce, .string x.scope, .string x.challenge, .int .i64 x.stage, .string x.conn, .string x.upState, .string x.upNonce, .int .i64 x.ends] 72)).cell? ⟨w.heap.size, 11, none⟩ = some (.int .i64 0) := (blk_cell hz3 11).trans rfl
    have f11 := blk_frozen hz3 11
    have d0 : (w2.alloc (.cells #[.string x.cookie, .string x.client, .string x.redirect, .string x.state, .string x.nonce, .string x.scope, .string x.challenge, .int .i64 x.stage, .string x.conn, .string x.upState, .string x.upNonce, .int .i64 x.ends] 72)).cell? ⟨w2.heap.size, 0, none⟩ = some (.string x.cookie) := (blk_cell hx3 0).trans rfl
    have d1 : (w2.alloc (.cells #[.string x.cookie, .string x.client, .string x.redirect, .string x.state, .string x.nonce, .string x.scope, .string x.challenge, .int .i64 x.stage, .string x.conn, .string x.upState, .string x.upNonce, .int .i64 x.ends] 72)).cell? ⟨w2.heap.size, 1, none⟩ = some (.string x.client) := (blk_cell hx3 1).trans rfl
    have d2 : (w2.alloc (.cells #[.string x.cookie, .string x.client, .string x.redirect, .string x.state, .string x.nonce, .string x.scope, .string x.challenge, .int .i64 x.stage, .string x.conn, .string x.upState, .string x.upNonce, .int .i64 x.ends] 72)).cell? ⟨w2.heap.size, 2, none⟩ = some (.string x.redirect) := (blk_cell hx3 2).trans rfl
    have d3 : (w2.alloc (.cells #[.string x.cookie, .string x.client, .string x.redirect, .string x.state, .string x.nonce, .string x.scope, .string x.challenge, .int .i64 x.stage, .string x.conn, .string x.upState, .string x.upNonce, .int .i64 x.ends] 72)).cell? ⟨w2.heap.size, 3, none⟩ = some (.string x.state) := (blk_cell hx3 3).trans rfl
    have d4 : (w2.alloc (.cells #[.string x.cookie, .string x.client, .string x.redirect, .string x.state, .string x.nonce, .string x.scope, .string x.challenge, .int .i64 x.stage, .string x.conn, .string x.upState, .string x.upNonce, .int .i64 x.ends] 72)).cell? ⟨w2.heap.size, 4, none⟩ = some (.string x.nonce) := (blk_cell hx3 4).trans rfl
    have d5 : (w2.alloc (.cells #[.string x.cookie, .string x.client, .string x.redirect, .string x.state, .string x.nonce, .string x.scope, .string x.challenge, .int .i64 x.stage, .string x.conn, .string x.upState, .string x.upNonce, .int .i64 x.ends] 72)).cell? ⟨w2.heap.size, 5, none⟩ = some (.string x.scope) := (blk_cell hx3 5).trans rfl
    have d6 : (w2.alloc (.cells #[.string x.cookie, .string x.client, .string x.redirect, .string x.state, .string x.nonce, .string x.scope, .string x.challenge, .int .i64 x.stage, .string x.conn, .string x.upState, .string x.upNonce, .int .i64 x.ends] 72)).cell? ⟨w2.heap.size, 6, none⟩ = some (.string x.challenge) := (blk_cell hx3 6).trans rfl
    have d7 : (w2.alloc (.cells #[.string x.cookie, .string x.client, .string x.redirect, .string x.state, .string x.nonce, .string x.scope, .string x.challenge, .int .i64 x.stage, .string x.conn, .string x.upState, .string x.upNonce, .int .i64 x.ends] 72)).cell? ⟨w2.heap.size, 7, none⟩ = some (.int .i64 x.stage) := (blk_cell hx3 7).trans rfl
    have d8 : (w2.alloc (.cells #[.string x.cookie, .string x.client, .string x.redirect, .string x.state, .string x.nonce, .string x.scope, .string x.challenge, .int .i64 x.stage, .string x.conn, .string x.upState, .string x.upNonce, .int .i64 x.ends] 72)).cell? ⟨w2.heap.size, 8, none⟩ = some (.string x.conn) := (blk_cell hx3 8).trans rfl
    have d9 : (w2.alloc (.cells #[.string x.cookie, .string x.client, .string x.redirect, .string x.state, .string x.nonce, .string x.scope, .string x.challenge, .int .i64 x.stage, .string x.conn, .string x.upState, .string x.upNonce, .int .i64 x.ends] 72)).cell? ⟨w2.heap.size, 9, none⟩ = some (.string x.upState) := (blk_cell hx3 9).trans rfl
    have d10 : (w2.alloc (.cells #[.string x.cookie, .string x.client, .string x.redirect, .string x.state, .string x.nonce, .string x.scope, .string x.challenge, .int .i64 x.stage, .string x.conn, .string x.upState, .string x.upNonce, .int .i64 x.ends] 72)).cell? ⟨w2.heap.size, 10, none⟩ = some (.string x.upNonce) := (blk_cell hx3 10).trans rfl
    have d11 : (w2.alloc (.cells #[.string x.cookie, .string x.client, .string x.redirect, .string x.state, .string x.nonce, .string x.scope, .string x.challenge, .int .i64 x.stage, .string x.conn, .string x.upState, .string x.upNonce, .int .i64 x.ends] 72)).cell? ⟨w2.heap.size, 11, none⟩ = some (.int .i64 x.ends) := (blk_cell hx3 11).trans rfl
    go_wp2_with fail
    refine bodyPost_ret (results_ct rfl _ _ w.heap.size 72 #[.string x.cookie, .string x.client, .string x.redirect, .string x.state, .string x.nonce, .string x.scope, .string x.challenge, .int .i64 x.stage, .string x.conn, .string x.upState, .string x.upNonce, .int .i64 x.ends] (0, 0) _ rfl (by
     refine blk_put (cs := #[.string x.cookie, .string x.client, .string x.redirect, .string x.state, .string x.nonce, .string x.scope, .string x.challenge, .int .i64 x.stage, .string x.conn, .string x.upState, .string x.upNonce, .int .i64 0]) ?_ 11 _ rfl
     refine blk_put (cs := #[.string x.cookie, .string x.client, .string x.redirect, .string x.state, .string x.nonce, .string x.scope, .string x.challenge, .int .i64 x.stage, .string x.conn, .string x.upState, .string ⟨#[]⟩, .int .i64 0]) ?_ 10 _ rfl
     refine blk_put (cs := #[.string x.cookie, .string x.client, .string x.redirect, .string x.state, .string x.nonce, .string x.scope, .string x.challenge, .int .i64 x.stage, .string x.conn, .string ⟨#[]⟩, .string ⟨#[]⟩, .int .i64 0]) ?_ 9 _ rfl
     refine blk_put (cs := #[.string x.cookie, .string x.client, .string x.redirect, .string x.state, .string x.nonce, .string x.scope, .string x.challenge, .int .i64 x.stage, .string ⟨#[]⟩, .string ⟨#[]⟩, .string ⟨#[]⟩, .int .i64 0]) ?_ 8 _ rfl
     refine blk_put (cs := #[.string x.cookie, .string x.client, .string x.redirect, .string x.state, .string x.nonce, .string x.scope, .string x.challenge, .int .i64 0, .string ⟨#[]⟩, .string ⟨#[]⟩, .string ⟨#[]⟩, .int .i64 0]) ?_ 7 _ rfl
     refine blk_put (cs := #[.string x.cookie, .string x.client, .string x.redirect, .string x.state, .string x.nonce, .string x.scope, .string ⟨#[]⟩, .int .i64 0, .string ⟨#[]⟩, .string ⟨#[]⟩, .string ⟨#[]⟩, .int .i64 0]) ?_ 6 _ rfl
     refine blk_put (cs := #[.string x.cookie, .string x.client, .string x.redirect, .string x.state, .string x.nonce, .string ⟨#[]⟩, .string ⟨#[]⟩, .int .i64 0, .string ⟨#[]⟩, .string ⟨#[]⟩, .string ⟨#[]⟩, .int .i64 0]) ?_ 5 _ rfl
     refine blk_put (cs := #[.string x.cookie, .string x.client, .string x.redirect, .string x.state, .string ⟨#[]⟩, .string ⟨#[]⟩, .string ⟨#[]⟩, .int .i64 0, .string ⟨#[]⟩, .string ⟨#[]⟩, .string ⟨#[]⟩, .int .i64 0]) ?_ 4 _ rfl
     refine blk_put (cs := #[.string x.cookie, .string x.client, .string x.redirect, .string ⟨#[]⟩, .string ⟨#[]⟩, .string ⟨#[]⟩, .string ⟨#[]⟩, .int .i64 0, .string ⟨#[]⟩, .string ⟨#[]⟩, .string ⟨#[]⟩, .int .i64 0]) ?_ 3 _ rfl
     refine blk_put (cs := #[.string x.cookie, .string x.client, .string ⟨#[]⟩, .string ⟨#[]⟩, .string ⟨#[]⟩, .string ⟨#[]⟩, .string ⟨#[]⟩, .int .i64 0, .string ⟨#[]⟩, .string ⟨#[]⟩, .string ⟨#[]⟩, .int .i64 0]) ?_ 2 _ rfl
     refine blk_put (cs := #[.string x.cookie, .string ⟨#[]⟩, .string ⟨#[]⟩, .string ⟨#[]⟩, .string ⟨#[]⟩, .string ⟨#[]⟩, .string ⟨#[]⟩, .int .i64 0, .string ⟨#[]⟩, .string ⟨#[]⟩, .string ⟨#[]⟩, .int .i64 0]) ?_ 1 _ rfl
     refine blk_put (cs := #[.string ⟨#[]⟩, .string ⟨#[]⟩, .string ⟨#[]⟩, .string ⟨#[]⟩, .string ⟨#[]⟩, .string ⟨#[]⟩, .string ⟨#[]⟩, .int .i64 0, .string ⟨#[]⟩, .string ⟨#[]⟩, .string ⟨#[]⟩, .int .i64 0]) ?_ 0 _ rfl
     exact hz3) Tryz.underlying72 rfl (by kernel_rfl)) rfl ?_
    refine ⟨rfl, ?_⟩
    iterate 12 (with_reducible refine below_set ?_ (Nat.le_refl _))
    with_reducible exact hB3
set_option maxHeartbeats 4000000 in
theorem seat_says (A0 : Option Addr) (c0 : Nat) (r : List S82) (c : ByteArray) (now : Int) (hc : c.size ≤ 1000000) (hv : ∀ v, getR r (skey c) = some v → v.size ≤ 4294967280) (w : World) (h0 : Kd.C k82 w A0 r.length r) (hc0 : r.length ≤ c0) (hl : r.length ≤ 1000000000) :
  Calls Tryz.prog 48 #[.slice A0 r.length c0, .string c, .int .i64 now] w fun e w' => e = .returned (.tuple #[sesV ((findS r c now).getD sesZ), .bool (findS r c now).isSome]) ∧ Below w.heap.size w w' := by
 have hB0 : Below w.heap.size w (w.alloc (.cells #[.string ⟨#[]⟩, .string ⟨#[]⟩, .string ⟨#[]⟩, .string ⟨#[]⟩, .string ⟨#[]⟩, .string ⟨#[]⟩, .string ⟨#[]⟩, .int .i64 0, .string ⟨#[]⟩, .string ⟨#[]⟩, .string ⟨#[]⟩, .int .i64 0] 72)) := (Below.refl _ w).alloc (Nat.le_refl _) _
 have hz := heap_alloc_new w (.cells #[.string ⟨#[]⟩, .string ⟨#[]⟩, .string ⟨#[]⟩, .string ⟨#[]⟩, .string ⟨#[]⟩, .string ⟨#[]⟩, .string ⟨#[]⟩, .int .i64 0, .string ⟨#[]⟩, .string ⟨#[]⟩, .string ⟨#[]⟩, .int .i64 0] 72)
 have hks := skey_size c
 have hval := fun w1 (hb : Below w.heap.size w w1) => rval_says A0 c0 r (skey c) w1 (Kd.C_below h0 hb) hc0 hl
 have q1 : ((1 : Nat) + c.size ≤ 9223372036854775807) = True := eq_true (by omega)
 have q2 : (9223372036854775807 < (1 : Nat) + c.size) = False := eq_false (by omega)
 have hu : (⟨#[115]⟩ : ByteArray) ++ c = skey c := rfl
 have f0 := @findS_none r c now
 have f1 := @findS_bad r c
 have f2 := @findS_over r c
 have f3 := @findS_there r c
 obtain ⟨R, hR⟩ : ∃ R, R = findS r c now := ⟨_, rfl⟩
 have f1 := fun v => @f1 v now
 have f2 := fun v x => @f2 v x now
 have f3 := fun v x => @f3 v x now
 rw [← hR] at f0 ⊢
 simp only [← hR] at f1 f2 f3
 clear hR
 cases hg : getR r (skey c) with
 | none =>
  have hf := f0 hg
  subst hf
  clear f0 f1 f2 f3
  have hval := hval _ hB0
  rw [hg] at hval
  rw [← hu] at hval
  clear hu
  go_enter Tryz.func48, Tryz.ntmps48
  go_wp2_with fail
  refine hval.mono ?_
  rintro e w1 ⟨rfl, hb1⟩
  have hB1 := below_then hB0 hB0.size hb1
  have hz1 := blk_below hz hb1
  simp only [Option.getD_none, Option.getD_some, Option.isSome_none, Option.isSome_some]
  have c0 : w1.cell? ⟨w.heap.size, 0, none⟩ = some (.string ⟨#[]⟩) := (blk_cell hz1 0).trans rfl
  have f0 := blk_frozen hz1 0
  have c1 : w1.cell? ⟨w.heap.size, 1, none⟩ = some (.string ⟨#[]⟩) := (blk_cell hz1 1).trans rfl
  have f1 := blk_frozen hz1 1
  have c2 : w1.cell? ⟨w.heap.size, 2, none⟩ = some (.string ⟨#[]⟩) := (blk_cell hz1 2).trans rfl
  have f2 := blk_frozen hz1 2
  have c3 : w1.cell? ⟨w.heap.size, 3, none⟩ = some (.string ⟨#[]⟩) := (blk_cell hz1 3).trans rfl
  have f3 := blk_frozen hz1 3
  have c4 : w1.cell? ⟨w.heap.size, 4, none⟩ = some (.string ⟨#[]⟩) := (blk_cell hz1 4).trans rfl
  have f4 := blk_frozen hz1 4
  have c5 : w1.cell? ⟨w.heap.size, 5, none⟩ = some (.string ⟨#[]⟩) := (blk_cell hz1 5).trans rfl
  have f5 := blk_frozen hz1 5
  have c6 : w1.cell? ⟨w.heap.size, 6, none⟩ = some (.string ⟨#[]⟩) := (blk_cell hz1 6).trans rfl
  have f6 := blk_frozen hz1 6
  have c7 : w1.cell? ⟨w.heap.size, 7, none⟩ = some (.int .i64 0) := (blk_cell hz1 7).trans rfl
  have f7 := blk_frozen hz1 7
  have c8 : w1.cell? ⟨w.heap.size, 8, none⟩ = some (.string ⟨#[]⟩) := (blk_cell hz1 8).trans rfl
  have f8 := blk_frozen hz1 8
  have c9 : w1.cell? ⟨w.heap.size, 9, none⟩ = some (.string ⟨#[]⟩) := (blk_cell hz1 9).trans rfl
  have f9 := blk_frozen hz1 9
  have c10 : w1.cell? ⟨w.heap.size, 10, none⟩ = some (.string ⟨#[]⟩) := (blk_cell hz1 10).trans rfl
  have f10 := blk_frozen hz1 10
  have c11 : w1.cell? ⟨w.heap.size, 11, none⟩ = some (.int .i64 0) := (blk_cell hz1 11).trans rfl
  have f11 := blk_frozen hz1 11
  clear hg
  go_wp2_with fail
  refine bodyPost_ret (results_ct rfl _ _ w.heap.size 72 #[.string ⟨#[]⟩, .string ⟨#[]⟩, .string ⟨#[]⟩, .string ⟨#[]⟩, .string ⟨#[]⟩, .string ⟨#[]⟩, .string ⟨#[]⟩, .int .i64 0, .string ⟨#[]⟩, .string ⟨#[]⟩, .string ⟨#[]⟩, .int .i64 0] (0, 0) _ rfl (by
   refine blk_put (cs := #[.string ⟨#[]⟩, .string ⟨#[]⟩, .string ⟨#[]⟩, .string ⟨#[]⟩, .string ⟨#[]⟩, .string ⟨#[]⟩, .string ⟨#[]⟩, .int .i64 0, .string ⟨#[]⟩, .string ⟨#[]⟩, .string ⟨#[]⟩, .int .i64 0]) ?_ 11 _ rfl
   refine blk_put (cs := #[.string ⟨#[]⟩, .string ⟨#[]⟩, .string ⟨#[]⟩, .string ⟨#[]⟩, .string ⟨#[]⟩, .string ⟨#[]⟩, .string ⟨#[]⟩, .int .i64 0, .string ⟨#[]⟩, .string ⟨#[]⟩, .string ⟨#[]⟩, .int .i64 0]) ?_ 10 _ rfl
   refine blk_put (cs := #[.string ⟨#[]⟩, .string ⟨#[]⟩, .string ⟨#[]⟩, .string ⟨#[]⟩, .string ⟨#[]⟩, .string ⟨#[]⟩, .string ⟨#[]⟩, .int .i64 0, .string ⟨#[]⟩, .string ⟨#[]⟩, .string ⟨#[]⟩, .int .i64 0]) ?_ 9 _ rfl
   refine blk_put (cs := #[.string ⟨#[]⟩, .string ⟨#[]⟩, .string ⟨#[]⟩, .string ⟨#[]⟩, .string ⟨#[]⟩, .string ⟨#[]⟩, .string ⟨#[]⟩, .int .i64 0, .string ⟨#[]⟩, .string ⟨#[]⟩, .string ⟨#[]⟩, .int .i64 0]) ?_ 8 _ rfl
   refine blk_put (cs := #[.string ⟨#[]⟩, .string ⟨#[]⟩, .string ⟨#[]⟩, .string ⟨#[]⟩, .string ⟨#[]⟩, .string ⟨#[]⟩, .string ⟨#[]⟩, .int .i64 0, .string ⟨#[]⟩, .string ⟨#[]⟩, .string ⟨#[]⟩, .int .i64 0]) ?_ 7 _ rfl
   refine blk_put (cs := #[.string ⟨#[]⟩, .string ⟨#[]⟩, .string ⟨#[]⟩, .string ⟨#[]⟩, .string ⟨#[]⟩, .string ⟨#[]⟩, .string ⟨#[]⟩, .int .i64 0, .string ⟨#[]⟩, .string ⟨#[]⟩, .string ⟨#[]⟩, .int .i64 0]) ?_ 6 _ rfl
   refine blk_put (cs := #[.string ⟨#[]⟩, .string ⟨#[]⟩, .string ⟨#[]⟩, .string ⟨#[]⟩, .string ⟨#[]⟩, .string ⟨#[]⟩, .string ⟨#[]⟩, .int .i64 0, .string ⟨#[]⟩, .string ⟨#[]⟩, .string ⟨#[]⟩, .int .i64 0]) ?_ 5 _ rfl
   refine blk_put (cs := #[.string ⟨#[]⟩, .string ⟨#[]⟩, .string ⟨#[]⟩, .string ⟨#[]⟩, .string ⟨#[]⟩, .string ⟨#[]⟩, .string ⟨#[]⟩, .int .i64 0, .string ⟨#[]⟩, .string ⟨#[]⟩, .string ⟨#[]⟩, .int .i64 0]) ?_ 4 _ rfl
   refine blk_put (cs := #[.string ⟨#[]⟩, .string ⟨#[]⟩, .string ⟨#[]⟩, .string ⟨#[]⟩, .string ⟨#[]⟩, .string ⟨#[]⟩, .string ⟨#[]⟩, .int .i64 0, .string ⟨#[]⟩, .string ⟨#[]⟩, .string ⟨#[]⟩, .int .i64 0]) ?_ 3 _ rfl
   refine blk_put (cs := #[.string ⟨#[]⟩, .string ⟨#[]⟩, .string ⟨#[]⟩, .string ⟨#[]⟩, .string ⟨#[]⟩, .string ⟨#[]⟩, .string ⟨#[]⟩, .int .i64 0, .string ⟨#[]⟩, .string ⟨#[]⟩, .string ⟨#[]⟩, .int .i64 0]) ?_ 2 _ rfl
   refine blk_put (cs := #[.string ⟨#[]⟩, .string ⟨#[]⟩, .string ⟨#[]⟩, .string ⟨#[]⟩, .string ⟨#[]⟩, .string ⟨#[]⟩, .string ⟨#[]⟩, .int .i64 0, .string ⟨#[]⟩, .string ⟨#[]⟩, .string ⟨#[]⟩, .int .i64 0]) ?_ 1 _ rfl
   refine blk_put (cs := #[.string ⟨#[]⟩, .string ⟨#[]⟩, .string ⟨#[]⟩, .string ⟨#[]⟩, .string ⟨#[]⟩, .string ⟨#[]⟩, .string ⟨#[]⟩, .int .i64 0, .string ⟨#[]⟩, .string ⟨#[]⟩, .string ⟨#[]⟩, .int .i64 0]) ?_ 0 _ rfl
   exact hz1) Tryz.underlying72 rfl (by kernel_rfl)) rfl ?_
  refine ⟨rfl, ?_⟩
  iterate 12 (with_reducible refine below_set ?_ (Nat.le_refl _))
  with_reducible exact hB1
 | some v =>
  have hvv := hv v hg
  have f1 := f1 v hg
  have f2 := fun x => f2 v x hg
  have f3 := fun x => f3 v x hg
  clear hv f0
  obtain ⟨x, b, hx1, hx2, hread⟩ := rfses_says v hvv
  have hval := hval _ hB0
  rw [hg] at hval
  rw [← hu] at hval
  clear hu
  go_enter Tryz.func48, Tryz.ntmps48
  go_wp2_with fail
  refine hval.mono ?_
  rintro e w1 ⟨rfl, hb1⟩
  have hB1 := below_then hB0 hB0.size hb1
  have hz1 := blk_below hz hb1
  simp only [Option.getD_none, Option.getD_some, Option.isSome_none, Option.isSome_some]
  clear hg
  have hread := hread w1
  cases b with
  | false =>
   have hf := f1 (hx2 rfl)
   subst hf
   clear f1 f2 f3 hx1 hx2
   simp only [sesV] at hread
   go_wp2_with fail
   refine hread.mono ?_
   rintro e w2 ⟨rfl, hb2⟩
   have hz2 := blk_below hz1 hb2
   have hB2 := below_then hB1 hB1.size hb2
   clear hread
   have hz3 := blk_below hz2 (below_alloc (Below.refl _ w2) (.cells #[.string x.cookie, .string x.client, .string x.redirect, .string x.state, .string x.nonce, .string x.scope, .string x.challenge, .int .i64 x.stage, .string x.conn, .string x.upState, .string x.upNonce, .int .i64 x.ends] 72))
   have hx3 := heap_alloc_new w2 (.cells #[.string x.cookie, .string x.client, .string x.redirect, .string x.state, .string x.nonce, .string x.scope, .string x.challenge, .int .i64 x.stage, .string x.conn, .string x.upState, .string x.upNonce, .int .i64 x.ends] 72)
   have hB3 := below_alloc hB2 (.cells #[.string x.cookie, .string x.client, .string x.redirect, .string x.state, .string x.nonce, .string x.scope, .string x.challenge, .int .i64 x.stage, .string x.conn, .string x.upState, .string x.upNonce, .int .i64 x.ends] 72)
   have c0 : (w2.alloc (.cells #[.string x.cookie, .string x.client, .string x.redirect, .string x.state, .string x.nonce, .string x.scope, .string x.challenge, .int .i64 x.stage, .string x.conn, .string x.upState, .string x.upNonce, .int .i64 x.ends] 72)).cell? ⟨w.heap.size, 0, none⟩ = some (.string ⟨#[]⟩) := (blk_cell hz3 0).trans rfl
   have f0 := blk_frozen hz3 0
   have c1 : (w2.alloc (.cells #[.string x.cookie, .string x.client, .string x.redirect, .string x.state, .string x.nonce, .string x.scope, .string x.challenge, .int .i64 x.stage, .string x.conn, .string x.upState, .string x.upNonce, .int .i64 x.ends] 72)).cell? ⟨w.heap.size, 1, none⟩ = some (.string ⟨#[]⟩) := (blk_cell hz3 1).trans rfl
   have f1 := blk_frozen hz3 1
   have c2 : (w2.alloc (.cells #[.string x.cookie, .string x.client, .string x.redirect, .string x.state, .string x.nonce, .string x.scope, .string x.challenge, .int .i64 x.stage, .string x.conn, .string x.upState, .string x.upNonce, .int .i64 x.ends] 72)).cell? ⟨w.heap.size, 2, none⟩ = some (.string ⟨#[]⟩) := (blk_cell hz3 2).trans rfl
   have f2 := blk_frozen hz3 2
   have c3 : (w2.alloc (.cells #[.string x.cookie, .string x.client, .string x.redirect, .string x.state, .string x.nonce, .string x.scope, .string x.challenge, .int .i64 x.stage, .string x.conn, .string x.upState, .string x.upNonce, .int .i64 x.ends] 72)).cell? ⟨w.heap.size, 3, none⟩ = some (.string ⟨#[]⟩) := (blk_cell hz3 3).trans rfl
   have f3 := blk_frozen hz3 3
   have c4 : (w2.alloc (.cells #[.string x.cookie, .string x.client, .string x.redirect, .string x.state, .string x.nonce, .string x.scope, .string x.challenge, .int .i64 x.stage, .string x.conn, .string x.upState, .string x.upNonce, .int .i64 x.ends] 72)).cell? ⟨w.heap.size, 4, none⟩ = some (.string ⟨#[]⟩) := (blk_cell hz3 4).trans rfl
   have f4 := blk_frozen hz3 4
   have c5 : (w2.alloc (.cells #[.string x.cookie, .string x.client, .string x.redirect, .string x.state, .string x.nonce, .string x.scope, .string x.challenge, .int .i64 x.stage, .string x.conn, .string x.upState, .string x.upNonce, .int .i64 x.ends] 72)).cell? ⟨w.heap.size, 5, none⟩ = some (.string ⟨#[]⟩) := (blk_cell hz3 5).trans rfl
   have f5 := blk_frozen hz3 5
   have c6 : (w2.alloc (.cells #[.string x.cookie, .string x.client, .string x.redirect, .string x.state, .string x.nonce, .string x.scope, .string x.challenge, .int .i64 x.stage, .string x.conn, .string x.upState, .string x.upNonce, .int .i64 x.ends] 72)).cell? ⟨w.heap.size, 6, none⟩ = some (.string ⟨#[]⟩) := (blk_cell hz3 6).trans rfl
   have f6 := blk_frozen hz3 6
   have c7 : (w2.alloc (.cells #[.string x.cookie, .string x.client, .string x.redirect, .string x.state, .string x.nonce, .string x.scope, .string x.challenge, .int .i64 x.stage, .string x.conn, .string x.upState, .string x.upNonce, .int .i64 x.ends] 72)).cell? ⟨w.heap.size, 7, none⟩ = some (.int .i64 0) := (blk_cell hz3 7).trans rfl
   have f7 := blk_frozen hz3 7
   have c8 : (w2.alloc (.cells #[.string x.cookie, .string x.client, .string x.redirect, .string x.state, .string x.nonce, .string x.scope, .string x.challenge, .int .i64 x.stage, .string x.conn, .string x.upState, .string x.upNonce, .int .i64 x.ends] 72)).cell? ⟨w.heap.size, 8, none⟩ = some (.string ⟨#[]⟩) := (blk_cell hz3 8).trans rfl
   have f8 := blk_frozen hz3 8
   have c9 : (w2.alloc (.cells #[.string x.cookie, .string x.client, .string x.redirect, .string x.state, .string x.nonce, .string x.scope, .string x.challenge, .int .i64 x.stage, .string x.conn, .string x.upState, .string x.upNonce, .int .i64 x.ends] 72)).cell? ⟨w.heap.size, 9, none⟩ = some (.string ⟨#[]⟩) := (blk_cell hz3 9).trans rfl
   have f9 := blk_frozen hz3 9
   have c10 : (w2.alloc (.cells #[.string x.cookie, .string x.client, .string x.redirect, .string x.state, .string x.nonce, .string x.scope, .string x.challenge, .int .i64 x.stage, .string x.conn, .string x.upState, .string x.upNonce, .int .i64 x.ends] 72)).cell? ⟨w.heap.size, 10, none⟩ = some (.string ⟨#[]⟩) := (blk_cell hz3 10).trans rfl
   have f10 := blk_frozen hz3 10
   have c11 : (w2.alloc (.cells #[.string x.cookie, .string x.client, .string x.redirect, .string x.state, .string x.nonce, .string x.scope, .string x.challenge, .int .i64 x.stage, .string x.conn, .string x.upState, .string x.upNonce, .int .i64 x.ends] 72)).cell? ⟨w.heap.size, 11, none⟩ = some (.int .i64 0) := (blk_cell hz3 11).trans rfl
   have f11 := blk_frozen hz3 11
   have d0 : (w2.alloc (.cells #[.string x.cookie, .string x.client, .string x.redirect, .string x.state, .string x.nonce, .string x.scope, .string x.challenge, .int .i64 x.stage, .string x.conn, .string x.upState, .string x.upNonce, .int .i64 x.ends] 72)).cell? ⟨w2.heap.size, 0, none⟩ = some (.string x.cookie) := (blk_cell hx3 0).trans rfl
   have d1 : (w2.alloc (.cells #[.string x.cookie, .string x.client, .string x.redirect, .string x.state, .string x.nonce, .string x.scope, .string x.challenge, .int .i64 x.stage, .string x.conn, .string x.upState, .string x.upNonce, .int .i64 x.ends] 72)).cell? ⟨w2.heap.size, 1, none⟩ = some (.string x.client) := (blk_cell hx3 1).trans rfl
   have d2 : (w2.alloc (.cells #[.string x.cookie, .string x.client, .string x.redirect, .string x.state, .string x.nonce, .string x.scope, .string x.challenge, .int .i64 x.stage, .string x.conn, .string x.upState, .string x.upNonce, .int .i64 x.ends] 72)).cell? ⟨w2.heap.size, 2, none⟩ = some (.string x.redirect) := (blk_cell hx3 2).trans rfl
   have d3 : (w2.alloc (.cells #[.string x.cookie, .string x.client, .string x.redirect, .string x.state, .string x.nonce, .string x.scope, .string x.challenge, .int .i64 x.stage, .string x.conn, .string x.upState, .string x.upNonce, .int .i64 x.ends] 72)).cell? ⟨w2.heap.size, 3, none⟩ = some (.string x.state) := (blk_cell hx3 3).trans rfl
   have d4 : (w2.alloc (.cells #[.string x.cookie, .string x.client, .string x.redirect, .string x.state, .string x.nonce, .string x.scope, .string x.challenge, .int .i64 x.stage, .string x.conn, .string x.upState, .string x.upNonce, .int .i64 x.ends] 72)).cell? ⟨w2.heap.size, 4, none⟩ = some (.string x.nonce) := (blk_cell hx3 4).trans rfl
   have d5 : (w2.alloc (.cells #[.string x.cookie, .string x.client, .string x.redirect, .string x.state, .string x.nonce, .string x.scope, .string x.challenge, .int .i64 x.stage, .string x.conn, .string x.upState, .string x.upNonce, .int .i64 x.ends] 72)).cell? ⟨w2.heap.size, 5, none⟩ = some (.string x.scope) := (blk_cell hx3 5).trans rfl
   have d6 : (w2.alloc (.cells #[.string x.cookie, .string x.client, .string x.redirect, .string x.state, .string x.nonce, .string x.scope, .string x.challenge, .int .i64 x.stage, .string x.conn, .string x.upState, .string x.upNonce, .int .i64 x.ends] 72)).cell? ⟨w2.heap.size, 6, none⟩ = some (.string x.challenge) := (blk_cell hx3 6).trans rfl
   have d7 : (w2.alloc (.cells #[.string x.cookie, .string x.client, .string x.redirect, .string x.state, .string x.nonce, .string x.scope, .string x.challenge, .int .i64 x.stage, .string x.conn, .string x.upState, .string x.upNonce, .int .i64 x.ends] 72)).cell? ⟨w2.heap.size, 7, none⟩ = some (.int .i64 x.stage) := (blk_cell hx3 7).trans rfl
   have d8 : (w2.alloc (.cells #[.string x.cookie, .string x.client, .string x.redirect, .string x.state, .string x.nonce, .string x.scope, .string x.challenge, .int .i64 x.stage, .string x.conn, .string x.upState, .string x.upNonce, .int .i64 x.ends] 72)).cell? ⟨w2.heap.size, 8, none⟩ = some (.string x.conn) := (blk_cell hx3 8).trans rfl
   have d9 : (w2.alloc (.cells #[.string x.cookie, .string x.client, .string x.redirect, .string x.state, .string x.nonce, .string x.scope, .string x.challenge, .int .i64 x.stage, .string x.conn, .string x.upState, .string x.upNonce, .int .i64 x.ends] 72)).cell? ⟨w2.heap.size, 9, none⟩ = some (.string x.upState) := (blk_cell hx3 9).trans rfl
   have d10 : (w2.alloc (.cells #[.string x.cookie, .string x.client, .string x.redirect, .string x.state, .string x.nonce, .string x.scope, .string x.challenge, .int .i64 x.stage, .string x.conn, .string x.upState, .string x.upNonce, .int .i64 x.ends] 72)).cell? ⟨w2.heap.size, 10, none⟩ = some (.string x.upNonce) := (blk_cell hx3 10).trans rfl
   have d11 : (w2.alloc (.cells #[.string x.cookie, .string x.client, .string x.redirect, .string x.state, .string x.nonce, .string x.scope, .string x.challenge, .int .i64 x.stage, .string x.conn, .string x.upState, .string x.upNonce, .int .i64 x.ends] 72)).cell? ⟨w2.heap.size, 11, none⟩ = some (.int .i64 x.ends) := (blk_cell hx3 11).trans rfl
   go_wp2_with fail
   refine bodyPost_ret (results_ct rfl _ _ w.heap.size 72 #[.string ⟨#[]⟩, .string ⟨#[]⟩, .string ⟨#[]⟩, .string ⟨#[]⟩, .string ⟨#[]⟩, .string ⟨#[]⟩, .string ⟨#[]⟩, .int .i64 0, .string ⟨#[]⟩, .string ⟨#[]⟩, .string ⟨#[]⟩, .int .i64 0] (0, 0) _ rfl (by
    refine blk_put (cs := #[.string ⟨#[]⟩, .string ⟨#[]⟩, .string ⟨#[]⟩, .string ⟨#[]⟩, .string ⟨#[]⟩, .string ⟨#[]⟩, .string ⟨#[]⟩, .int .i64 0, .string ⟨#[]⟩, .string ⟨#[]⟩, .string ⟨#[]⟩, .int .i64 0]) ?_ 11 _ rfl
    refine blk_put (cs := #[.string ⟨#[]⟩, .string ⟨#[]⟩, .string ⟨#[]⟩, .string ⟨#[]⟩, .string ⟨#[]⟩, .string ⟨#[]⟩, .string ⟨#[]⟩, .int .i64 0, .string ⟨#[]⟩, .string ⟨#[]⟩, .string ⟨#[]⟩, .int .i64 0]) ?_ 10 _ rfl
    refine blk_put (cs := #[.string ⟨#[]⟩, .string ⟨#[]⟩, .string ⟨#[]⟩, .string ⟨#[]⟩, .string ⟨#[]⟩, .string ⟨#[]⟩, .string ⟨#[]⟩, .int .i64 0, .string ⟨#[]⟩, .string ⟨#[]⟩, .string ⟨#[]⟩, .int .i64 0]) ?_ 9 _ rfl
    refine blk_put (cs := #[.string ⟨#[]⟩, .string ⟨#[]⟩, .string ⟨#[]⟩, .string ⟨#[]⟩, .string ⟨#[]⟩, .string ⟨#[]⟩, .string ⟨#[]⟩, .int .i64 0, .string ⟨#[]⟩, .string ⟨#[]⟩, .string ⟨#[]⟩, .int .i64 0]) ?_ 8 _ rfl
    refine blk_put (cs := #[.string ⟨#[]⟩, .string ⟨#[]⟩, .string ⟨#[]⟩, .string ⟨#[]⟩, .string ⟨#[]⟩, .string ⟨#[]⟩, .string ⟨#[]⟩, .int .i64 0, .string ⟨#[]⟩, .string ⟨#[]⟩, .string ⟨#[]⟩, .int .i64 0]) ?_ 7 _ rfl
    refine blk_put (cs := #[.string ⟨#[]⟩, .string ⟨#[]⟩, .string ⟨#[]⟩, .string ⟨#[]⟩, .string ⟨#[]⟩, .string ⟨#[]⟩, .string ⟨#[]⟩, .int .i64 0, .string ⟨#[]⟩, .string ⟨#[]⟩, .string ⟨#[]⟩, .int .i64 0]) ?_ 6 _ rfl
    refine blk_put (cs := #[.string ⟨#[]⟩, .string ⟨#[]⟩, .string ⟨#[]⟩, .string ⟨#[]⟩, .string ⟨#[]⟩, .string ⟨#[]⟩, .string ⟨#[]⟩, .int .i64 0, .string ⟨#[]⟩, .string ⟨#[]⟩, .string ⟨#[]⟩, .int .i64 0]) ?_ 5 _ rfl
    refine blk_put (cs := #[.string ⟨#[]⟩, .string ⟨#[]⟩, .string ⟨#[]⟩, .string ⟨#[]⟩, .string ⟨#[]⟩, .string ⟨#[]⟩, .string ⟨#[]⟩, .int .i64 0, .string ⟨#[]⟩, .string ⟨#[]⟩, .string ⟨#[]⟩, .int .i64 0]) ?_ 4 _ rfl
    refine blk_put (cs := #[.string ⟨#[]⟩, .string ⟨#[]⟩, .string ⟨#[]⟩, .string ⟨#[]⟩, .string ⟨#[]⟩, .string ⟨#[]⟩, .string ⟨#[]⟩, .int .i64 0, .string ⟨#[]⟩, .string ⟨#[]⟩, .string ⟨#[]⟩, .int .i64 0]) ?_ 3 _ rfl
    refine blk_put (cs := #[.string ⟨#[]⟩, .string ⟨#[]⟩, .string ⟨#[]⟩, .string ⟨#[]⟩, .string ⟨#[]⟩, .string ⟨#[]⟩, .string ⟨#[]⟩, .int .i64 0, .string ⟨#[]⟩, .string ⟨#[]⟩, .string ⟨#[]⟩, .int .i64 0]) ?_ 2 _ rfl
    refine blk_put (cs := #[.string ⟨#[]⟩, .string ⟨#[]⟩, .string ⟨#[]⟩, .string ⟨#[]⟩, .string ⟨#[]⟩, .string ⟨#[]⟩, .string ⟨#[]⟩, .int .i64 0, .string ⟨#[]⟩, .string ⟨#[]⟩, .string ⟨#[]⟩, .int .i64 0]) ?_ 1 _ rfl
    refine blk_put (cs := #[.string ⟨#[]⟩, .string ⟨#[]⟩, .string ⟨#[]⟩, .string ⟨#[]⟩, .string ⟨#[]⟩, .string ⟨#[]⟩, .string ⟨#[]⟩, .int .i64 0, .string ⟨#[]⟩, .string ⟨#[]⟩, .string ⟨#[]⟩, .int .i64 0]) ?_ 0 _ rfl
    exact hz3) Tryz.underlying72 rfl (by kernel_rfl)) rfl ?_
   refine ⟨rfl, ?_⟩
   iterate 12 (with_reducible refine below_set ?_ (Nat.le_refl _))
   with_reducible exact hB3
  | true =>
   have f2 := f2 x (hx1 rfl)
   have f3 := f3 x (hx1 rfl)
   clear f1 hx1 hx2
   simp only [sesV] at hread
   by_cases hov : x.ends ≤ now
   ·
    have hf := f2 hov
    subst hf
    have q3 : decide (x.ends ≤ now) = true := decide_eq_true hov
    clear f2 f3 hov
    go_wp2_with fail
    refine hread.mono ?_
    rintro e w2 ⟨rfl, hb2⟩
    have hz2 := blk_below hz1 hb2
    have hB2 := below_then hB1 hB1.size hb2
    clear hread
    have hz3 := blk_below hz2 (below_alloc (Below.refl _ w2) (.cells #[.string x.cookie, .string x.client, .string x.redirect, .string x.state, .string x.nonce, .string x.scope, .string x.challenge, .int .i64 x.stage, .string x.conn, .string x.upState, .string x.upNonce, .int .i64 x.ends] 72))
    have hx3 := heap_alloc_new w2 (.cells #[.string x.cookie, .string x.client, .string x.redirect, .string x.state, .string x.nonce, .string x.scope, .string x.challenge, .int .i64 x.stage, .string x.conn, .string x.upState, .string x.upNonce, .int .i64 x.ends] 72)
    have hB3 := below_alloc hB2 (.cells #[.string x.cookie, .string x.client, .string x.redirect, .string x.state, .string x.nonce, .string x.scope, .string x.challenge, .int .i64 x.stage, .string x.conn, .string x.upState, .string x.upNonce, .int .i64 x.ends] 72)
    have c0 : (w2.alloc (.cells #[.string x.cookie, .string x.client, .string x.redirect, .string x.state, .string x.nonce, .string x.scope, .string x.challenge, .int .i64 x.stage, .string x.conn, .string x.upState, .string x.upNonce, .int .i64 x.ends] 72)).cell? ⟨w.heap.size, 0, none⟩ = some (.string ⟨#[]⟩) := (blk_cell hz3 0).trans rfl
    have f0 := blk_frozen hz3 0
    have c1 : (w2.alloc (.cells #[.string x.cookie, .string x.client, .string x.redirect, .string x.state, .string x.nonce, .string x.scope, .string x.challenge, .int .i64 x.stage, .string x.conn, .string x.upState, .string x.upNonce, .int .i64 x.ends] 72)).cell? ⟨w.heap.size, 1, none⟩ = some (.string ⟨#[]⟩) := (blk_cell hz3 1).trans rfl
    have f1 := blk_frozen hz3 1
    have c2 : (w2.alloc (.cells #[.string x.cookie, .string x.client, .string x.redirect, .string x.state, .string x.nonce, .string x.scope, .string x.challenge, .int .i64 x.stage, .string x.conn, .string x.upState, .string x.upNonce, .int .i64 x.ends] 72)).cell? ⟨w.heap.size, 2, none⟩ = some (.string ⟨#[]⟩) := (blk_cell hz3 2).trans rfl
    have f2 := blk_frozen hz3 2
    have c3 : (w2.alloc (.cells #[.string x.cookie, .string x.client, .string x.redirect, .string x.state, .string x.nonce, .string x.scope, .string x.challenge, .int .i64 x.stage, .string x.conn, .string x.upState, .string x.upNonce, .int .i64 x.ends] 72)).cell? ⟨w.heap.size, 3, none⟩ = some (.string ⟨#[]⟩) := (blk_cell hz3 3).trans rfl
    have f3 := blk_frozen hz3 3
    have c4 : (w2.alloc (.cells #[.string x.cookie, .string x.client, .string x.redirect, .string x.state, .string x.nonce, .string x.scope, .string x.challenge, .int .i64 x.stage, .string x.conn, .string x.upState, .string x.upNonce, .int .i64 x.ends] 72)).cell? ⟨w.heap.size, 4, none⟩ = some (.string ⟨#[]⟩) := (blk_cell hz3 4).trans rfl
    have f4 := blk_frozen hz3 4
    have c5 : (w2.alloc (.cells #[.string x.cookie, .string x.client, .string x.redirect, .string x.state, .string x.nonce, .string x.scope, .string x.challenge, .int .i64 x.stage, .string x.conn, .string x.upState, .string x.upNonce, .int .i64 x.ends] 72)).cell? ⟨w.heap.size, 5, none⟩ = some (.string ⟨#[]⟩) := (blk_cell hz3 5).trans rfl
    have f5 := blk_frozen hz3 5
    have c6 : (w2.alloc (.cells #[.string x.cookie, .string x.client, .string x.redirect, .string x.state, .string x.nonce, .string x.scope, .string x.challenge, .int .i64 x.stage, .string x.conn, .string x.upState, .string x.upNonce, .int .i64 x.ends] 72)).cell? ⟨w.heap.size, 6, none⟩ = some (.string ⟨#[]⟩) := (blk_cell hz3 6).trans rfl
    have f6 := blk_frozen hz3 6
    have c7 : (w2.alloc (.cells #[.string x.cookie, .string x.client, .string x.redirect, .string x.state, .string x.nonce, .string x.scope, .string x.challenge, .int .i64 x.stage, .string x.conn, .string x.upState, .string x.upNonce, .int .i64 x.ends] 72)).cell? ⟨w.heap.size, 7, none⟩ = some (.int .i64 0) := (blk_cell hz3 7).trans rfl
    have f7 := blk_frozen hz3 7
    have c8 : (w2.alloc (.cells #[.string x.cookie, .string x.client, .string x.redirect, .string x.state, .string x.nonce, .string x.scope, .string x.challenge, .int .i64 x.stage, .string x.conn, .string x.upState, .string x.upNonce, .int .i64 x.ends] 72)).cell? ⟨w.heap.size, 8, none⟩ = some (.string ⟨#[]⟩) := (blk_cell hz3 8).trans rfl
    have f8 := blk_frozen hz3 8
    have c9 : (w2.alloc (.cells #[.string x.cookie, .string x.client, .string x.redirect, .string x.state, .string x.nonce, .string x.scope, .string x.challenge, .int .i64 x.stage, .string x.conn, .string x.upState, .string x.upNonce, .int .i64 x.ends] 72)).cell? ⟨w.heap.size, 9, none⟩ = some (.string ⟨#[]⟩) := (blk_cell hz3 9).trans rfl
    have f9 := blk_frozen hz3 9
    have c10 : (w2.alloc (.cells #[.string x.cookie, .string x.client, .string x.redirect, .string x.state, .string x.nonce, .string x.scope, .string x.challenge, .int .i64 x.stage, .string x.conn, .string x.upState, .string x.upNonce, .int .i64 x.ends] 72)).cell? ⟨w.heap.size, 10, none⟩ = some (.string ⟨#[]⟩) := (blk_cell hz3 10).trans rfl
    have f10 := blk_frozen hz3 10
    have c11 : (w2.alloc (.cells #[.string x.cookie, .string x.client, .string x.redirect, .string x.state, .string x.nonce, .string x.scope, .string x.challenge, .int .i64 x.stage, .string x.conn, .string x.upState, .string x.upNonce, .int .i64 x.ends] 72)).cell? ⟨w.heap.size, 11, none⟩ = some (.int .i64 0) := (blk_cell hz3 11).trans rfl
    have f11 := blk_frozen hz3 11
    have d0 : (w2.alloc (.cells #[.string x.cookie, .string x.client, .string x.redirect, .string x.state, .string x.nonce, .string x.scope, .string x.challenge, .int .i64 x.stage, .string x.conn, .string x.upState, .string x.upNonce, .int .i64 x.ends] 72)).cell? ⟨w2.heap.size, 0, none⟩ = some (.string x.cookie) := (blk_cell hx3 0).trans rfl
    have d1 : (w2.alloc (.cells #[.string x.cookie, .string x.client, .string x.redirect, .string x.state, .string x.nonce, .string x.scope, .string x.challenge, .int .i64 x.stage, .string x.conn, .string x.upState, .string x.upNonce, .int .i64 x.ends] 72)).cell? ⟨w2.heap.size, 1, none⟩ = some (.string x.client) := (blk_cell hx3 1).trans rfl
    have d2 : (w2.alloc (.cells #[.string x.cookie, .string x.client, .string x.redirect, .string x.state, .string x.nonce, .string x.scope, .string x.challenge, .int .i64 x.stage, .string x.conn, .string x.upState, .string x.upNonce, .int .i64 x.ends] 72)).cell? ⟨w2.heap.size, 2, none⟩ = some (.string x.redirect) := (blk_cell hx3 2).trans rfl
    have d3 : (w2.alloc (.cells #[.string x.cookie, .string x.client, .string x.redirect, .string x.state, .string x.nonce, .string x.scope, .string x.challenge, .int .i64 x.stage, .string x.conn, .string x.upState, .string x.upNonce, .int .i64 x.ends] 72)).cell? ⟨w2.heap.size, 3, none⟩ = some (.string x.state) := (blk_cell hx3 3).trans rfl
    have d4 : (w2.alloc (.cells #[.string x.cookie, .string x.client, .string x.redirect, .string x.state, .string x.nonce, .string x.scope, .string x.challenge, .int .i64 x.stage, .string x.conn, .string x.upState, .string x.upNonce, .int .i64 x.ends] 72)).cell? ⟨w2.heap.size, 4, none⟩ = some (.string x.nonce) := (blk_cell hx3 4).trans rfl
    have d5 : (w2.alloc (.cells #[.string x.cookie, .string x.client, .string x.redirect, .string x.state, .string x.nonce, .string x.scope, .string x.challenge, .int .i64 x.stage, .string x.conn, .string x.upState, .string x.upNonce, .int .i64 x.ends] 72)).cell? ⟨w2.heap.size, 5, none⟩ = some (.string x.scope) := (blk_cell hx3 5).trans rfl
    have d6 : (w2.alloc (.cells #[.string x.cookie, .string x.client, .string x.redirect, .string x.state, .string x.nonce, .string x.scope, .string x.challenge, .int .i64 x.stage, .string x.conn, .string x.upState, .string x.upNonce, .int .i64 x.ends] 72)).cell? ⟨w2.heap.size, 6, none⟩ = some (.string x.challenge) := (blk_cell hx3 6).trans rfl
    have d7 : (w2.alloc (.cells #[.string x.cookie, .string x.client, .string x.redirect, .string x.state, .string x.nonce, .string x.scope, .string x.challenge, .int .i64 x.stage, .string x.conn, .string x.upState, .string x.upNonce, .int .i64 x.ends] 72)).cell? ⟨w2.heap.size, 7, none⟩ = some (.int .i64 x.stage) := (blk_cell hx3 7).trans rfl
    have d8 : (w2.alloc (.cells #[.string x.cookie, .string x.client, .string x.redirect, .string x.state, .string x.nonce, .string x.scope, .string x.challenge, .int .i64 x.stage, .string x.conn, .string x.upState, .string x.upNonce, .int .i64 x.ends] 72)).cell? ⟨w2.heap.size, 8, none⟩ = some (.string x.conn) := (blk_cell hx3 8).trans rfl
    have d9 : (w2.alloc (.cells #[.string x.cookie, .string x.client, .string x.redirect, .string x.state, .string x.nonce, .string x.scope, .string x.challenge, .int .i64 x.stage, .string x.conn, .string x.upState, .string x.upNonce, .int .i64 x.ends] 72)).cell? ⟨w2.heap.size, 9, none⟩ = some (.string x.upState) := (blk_cell hx3 9).trans rfl
    have d10 : (w2.alloc (.cells #[.string x.cookie, .string x.client, .string x.redirect, .string x.state, .string x.nonce, .string x.scope, .string x.challenge, .int .i64 x.stage, .string x.conn, .string x.upState, .string x.upNonce, .int .i64 x.ends] 72)).cell? ⟨w2.heap.size, 10, none⟩ = some (.string x.upNonce) := (blk_cell hx3 10).trans rfl
    have d11 : (w2.alloc (.cells #[.string x.cookie, .string x.client, .string x.redirect, .string x.state, .string x.nonce, .string x.scope, .string x.challenge, .int .i64 x.stage, .string x.conn, .string x.upState, .string x.upNonce, .int .i64 x.ends] 72)).cell? ⟨w2.heap.size, 11, none⟩ = some (.int .i64 x.ends) := (blk_cell hx3 11).trans rfl
    go_wp2_with fail
    refine bodyPost_ret (results_ct rfl _ _ w.heap.size 72 #[.string ⟨#[]⟩, .string ⟨#[]⟩, .string ⟨#[]⟩, .string ⟨#[]⟩, .string ⟨#[]⟩, .string ⟨#[]⟩, .string ⟨#[]⟩, .int .i64 0, .string ⟨#[]⟩, .string ⟨#[]⟩, .string ⟨#[]⟩, .int .i64 0] (0, 0) _ rfl (by
     refine blk_put (cs := #[.string ⟨#[]⟩, .string ⟨#[]⟩, .string ⟨#[]⟩, .string ⟨#[]⟩, .string ⟨#[]⟩, .string ⟨#[]⟩, .string ⟨#[]⟩, .int .i64 0, .string ⟨#[]⟩, .string ⟨#[]⟩, .string ⟨#[]⟩, .int .i64 0]) ?_ 11 _ rfl
     refine blk_put (cs := #[.string ⟨#[]⟩, .string ⟨#[]⟩, .string ⟨#[]⟩, .string ⟨#[]⟩, .string ⟨#[]⟩, .string ⟨#[]⟩, .string ⟨#[]⟩, .int .i64 0, .string ⟨#[]⟩, .string ⟨#[]⟩, .string ⟨#[]⟩, .int .i64 0]) ?_ 10 _ rfl
     refine blk_put (cs := #[.string ⟨#[]⟩, .string ⟨#[]⟩, .string ⟨#[]⟩, .string ⟨#[]⟩, .string ⟨#[]⟩, .string ⟨#[]⟩, .string ⟨#[]⟩, .int .i64 0, .string ⟨#[]⟩, .string ⟨#[]⟩, .string ⟨#[]⟩, .int .i64 0]) ?_ 9 _ rfl
     refine blk_put (cs := #[.string ⟨#[]⟩, .string ⟨#[]⟩, .string ⟨#[]⟩, .string ⟨#[]⟩, .string ⟨#[]⟩, .string ⟨#[]⟩, .string ⟨#[]⟩, .int .i64 0, .string ⟨#[]⟩, .string ⟨#[]⟩, .string ⟨#[]⟩, .int .i64 0]) ?_ 8 _ rfl
     refine blk_put (cs := #[.string ⟨#[]⟩, .string ⟨#[]⟩, .string ⟨#[]⟩, .string ⟨#[]⟩, .string ⟨#[]⟩, .string ⟨#[]⟩, .string ⟨#[]⟩, .int .i64 0, .string ⟨#[]⟩, .string ⟨#[]⟩, .string ⟨#[]⟩, .int .i64 0]) ?_ 7 _ rfl
     refine blk_put (cs := #[.string ⟨#[]⟩, .string ⟨#[]⟩, .string ⟨#[]⟩, .string ⟨#[]⟩, .string ⟨#[]⟩, .string ⟨#[]⟩, .string ⟨#[]⟩, .int .i64 0, .string ⟨#[]⟩, .string ⟨#[]⟩, .string ⟨#[]⟩, .int .i64 0]) ?_ 6 _ rfl
     refine blk_put (cs := #[.string ⟨#[]⟩, .string ⟨#[]⟩, .string ⟨#[]⟩, .string ⟨#[]⟩, .string ⟨#[]⟩, .string ⟨#[]⟩, .string ⟨#[]⟩, .int .i64 0, .string ⟨#[]⟩, .string ⟨#[]⟩, .string ⟨#[]⟩, .int .i64 0]) ?_ 5 _ rfl
     refine blk_put (cs := #[.string ⟨#[]⟩, .string ⟨#[]⟩, .string ⟨#[]⟩, .string ⟨#[]⟩, .string ⟨#[]⟩, .string ⟨#[]⟩, .string ⟨#[]⟩, .int .i64 0, .string ⟨#[]⟩, .string ⟨#[]⟩, .string ⟨#[]⟩, .int .i64 0]) ?_ 4 _ rfl
     refine blk_put (cs := #[.string ⟨#[]⟩, .string ⟨#[]⟩, .string ⟨#[]⟩, .string ⟨#[]⟩, .string ⟨#[]⟩, .string ⟨#[]⟩, .string ⟨#[]⟩, .int .i64 0, .string ⟨#[]⟩, .string ⟨#[]⟩, .string ⟨#[]⟩, .int .i64 0]) ?_ 3 _ rfl
     refine blk_put (cs := #[.string ⟨#[]⟩, .string ⟨#[]⟩, .string ⟨#[]⟩, .string ⟨#[]⟩, .string ⟨#[]⟩, .string ⟨#[]⟩, .string ⟨#[]⟩, .int .i64 0, .string ⟨#[]⟩, .string ⟨#[]⟩, .string ⟨#[]⟩, .int .i64 0]) ?_ 2 _ rfl
     refine blk_put (cs := #[.string ⟨#[]⟩, .string ⟨#[]⟩, .string ⟨#[]⟩, .string ⟨#[]⟩, .string ⟨#[]⟩, .string ⟨#[]⟩, .string ⟨#[]⟩, .int .i64 0, .string ⟨#[]⟩, .string ⟨#[]⟩, .string ⟨#[]⟩, .int .i64 0]) ?_ 1 _ rfl
     refine blk_put (cs := #[.string ⟨#[]⟩, .string ⟨#[]⟩, .string ⟨#[]⟩, .string ⟨#[]⟩, .string ⟨#[]⟩, .string ⟨#[]⟩, .string ⟨#[]⟩, .int .i64 0, .string ⟨#[]⟩, .string ⟨#[]⟩, .string ⟨#[]⟩, .int .i64 0]) ?_ 0 _ rfl
     exact hz3) Tryz.underlying72 rfl (by kernel_rfl)) rfl ?_
    refine ⟨rfl, ?_⟩
    iterate 12 (with_reducible refine below_set ?_ (Nat.le_refl _))
    with_reducible exact hB3
   ·
    have hf := f3 (Int.not_le.1 hov)
    subst hf
    have q3 : decide (x.ends ≤ now) = false := decide_eq_false hov
    clear f2 f3 hov
    go_wp2_with fail
    refine hread.mono ?_
    rintro e w2 ⟨rfl, hb2⟩
    have hz2 := blk_below hz1 hb2
    have hB2 := below_then hB1 hB1.size hb2
    clear hread
    have hz3 := blk_below hz2 (below_alloc (Below.refl _ w2) (.cells #[.string x.cookie, .string x.client, .string x.redirect, .string x.state, .string x.nonce, .string x.scope, .string x.challenge, .int .i64 x.stage, .string x.conn, .string x.upState, .string x.upNonce, .int .i64 x.ends] 72))
    have hx3 := heap_alloc_new w2 (.cells #[.string x.cookie, .string x.client, .string x.redirect, .string x.state, .string x.nonce, .string x.scope, .string x.challenge, .int .i64 x.stage, .string x.conn, .string x.upState, .string x.upNonce, .int .i64 x.ends] 72)
    have hB3 := below_alloc hB2 (.cells #[.string x.cookie, .string x.client, .string x.redirect, .string x.state, .string x.nonce, .string x.scope, .string x.challenge, .int .i64 x.stage, .string x.conn, .string x.upState, .string x.upNonce, .int .i64 x.ends] 72)
    have c0 : (w2.alloc (.cells #[.string x.cookie, .string x.client, .string x.redirect, .string x.state, .string x.nonce, .string x.scope, .string x.challenge, .int .i64 x.stage, .string x.conn, .string x.upState, .string x.upNonce, .int .i64 x.ends] 72)).cell? ⟨w.heap.size, 0, none⟩ = some (.string ⟨#[]⟩) := (blk_cell hz3 0).trans rfl
    have f0 := blk_frozen hz3 0
    have c1 : (w2.alloc (.cells #[.string x.cookie, .string x.client, .string x.redirect, .string x.state, .string x.nonce, .string x.scope, .string x.challenge, .int .i64 x.stage, .string x.conn, .string x.upState, .string x.upNonce, .int .i64 x.ends] 72)).cell? ⟨w.heap.size, 1, none⟩ = some (.string ⟨#[]⟩) := (blk_cell hz3 1).trans rfl
    have f1 := blk_frozen hz3 1
    have c2 : (w2.alloc (.cells #[.string x.cookie, .string x.client, .string x.redirect, .string x.state, .string x.nonce, .string x.scope, .string x.challenge, .int .i64 x.stage, .string x.conn, .string x.upState, .string x.upNonce, .int .i64 x.ends] 72)).cell? ⟨w.heap.size, 2, none⟩ = some (.string ⟨#[]⟩) := (blk_cell hz3 2).trans rfl
    have f2 := blk_frozen hz3 2
    have c3 : (w2.alloc (.cells #[.string x.cookie, .string x.client, .string x.redirect, .string x.state, .string x.nonce, .string x.scope, .string x.challenge, .int .i64 x.stage, .string x.conn, .string x.upState, .string x.upNonce, .int .i64 x.ends] 72)).cell? ⟨w.heap.size, 3, none⟩ = some (.string ⟨#[]⟩) := (blk_cell hz3 3).trans rfl
    have f3 := blk_frozen hz3 3
    have c4 : (w2.alloc (.cells #[.string x.cookie, .string x.client, .string x.redirect, .string x.state, .string x.nonce, .string x.scope, .string x.challenge, .int .i64 x.stage, .string x.conn, .string x.upState, .string x.upNonce, .int .i64 x.ends] 72)).cell? ⟨w.heap.size, 4, none⟩ = some (.string ⟨#[]⟩) := (blk_cell hz3 4).trans rfl
    have f4 := blk_frozen hz3 4
    have c5 : (w2.alloc (.cells #[.string x.cookie, .string x.client, .string x.redirect, .string x.state, .string x.nonce, .string x.scope, .string x.challenge, .int .i64 x.stage, .string x.conn, .string x.upState, .string x.upNonce, .int .i64 x.ends] 72)).cell? ⟨w.heap.size, 5, none⟩ = some (.string ⟨#[]⟩) := (blk_cell hz3 5).trans rfl
    have f5 := blk_frozen hz3 5
    have c6 : (w2.alloc (.cells #[.string x.cookie, .string x.client, .string x.redirect, .string x.state, .string x.nonce, .string x.scope, .string x.challenge, .int .i64 x.stage, .string x.conn, .string x.upState, .string x.upNonce, .int .i64 x.ends] 72)).cell? ⟨w.heap.size, 6, none⟩ = some (.string ⟨#[]⟩) := (blk_cell hz3 6).trans rfl
    have f6 := blk_frozen hz3 6
    have c7 : (w2.alloc (.cells #[.string x.cookie, .string x.client, .string x.redirect, .string x.state, .string x.nonce, .string x.scope, .string x.challenge, .int .i64 x.stage, .string x.conn, .string x.upState, .string x.upNonce, .int .i64 x.ends] 72)).cell? ⟨w.heap.size, 7, none⟩ = some (.int .i64 0) := (blk_cell hz3 7).trans rfl
    have f7 := blk_frozen hz3 7
    have c8 : (w2.alloc (.cells #[.string x.cookie, .string x.client, .string x.redirect, .string x.state, .string x.nonce, .string x.scope, .string x.challenge, .int .i64 x.stage, .string x.conn, .string x.upState, .string x.upNonce, .int .i64 x.ends] 72)).cell? ⟨w.heap.size, 8, none⟩ = some (.string ⟨#[]⟩) := (blk_cell hz3 8).trans rfl
    have f8 := blk_frozen hz3 8
    have c9 : (w2.alloc (.cells #[.string x.cookie, .string x.client, .string x.redirect, .string x.state, .string x.nonce, .string x.scope, .string x.challenge, .int .i64 x.stage, .string x.conn, .string x.upState, .string x.upNonce, .int .i64 x.ends] 72)).cell? ⟨w.heap.size, 9, none⟩ = some (.string ⟨#[]⟩) := (blk_cell hz3 9).trans rfl
    have f9 := blk_frozen hz3 9
    have c10 : (w2.alloc (.cells #[.string x.cookie, .string x.client, .string x.redirect, .string x.state, .string x.nonce, .string x.scope, .string x.challenge, .int .i64 x.stage, .string x.conn, .string x.upState, .string x.upNonce, .int .i64 x.ends] 72)).cell? ⟨w.heap.size, 10, none⟩ = some (.string ⟨#[]⟩) := (blk_cell hz3 10).trans rfl
    have f10 := blk_frozen hz3 10
    have c11 : (w2.alloc (.cells #[.string x.cookie, .string x.client, .string x.redirect, .string x.state, .string x.nonce, .string x.scope, .string x.challenge, .int .i64 x.stage, .string x.conn, .string x.upState, .string x.upNonce, .int .i64 x.ends] 72)).cell? ⟨w.heap.size, 11, none⟩ = some (.int .i64 0) := (blk_cell hz3 11).trans rfl
    have f11 := blk_frozen hz3 11
    have d0 : (w2.alloc (.cells #[.string x.cookie, .string x.client, .string x.redirect, .string x.state, .string x.nonce, .string x.scope, .string x.challenge, .int .i64 x.stage, .string x.conn, .string x.upState, .string x.upNonce, .int .i64 x.ends] 72)).cell? ⟨w2.heap.size, 0, none⟩ = some (.string x.cookie) := (blk_cell hx3 0).trans rfl
    have d1 : (w2.alloc (.cells #[.string x.cookie, .string x.client, .string x.redirect, .string x.state, .string x.nonce, .string x.scope, .string x.challenge, .int .i64 x.stage, .string x.conn, .string x.upState, .string x.upNonce, .int .i64 x.ends] 72)).cell? ⟨w2.heap.size, 1, none⟩ = some (.string x.client) := (blk_cell hx3 1).trans rfl
    have d2 : (w2.alloc (.cells #[.string x.cookie, .string x.client, .string x.redirect, .string x.state, .string x.nonce, .string x.scope, .string x.challenge, .int .i64 x.stage, .string x.conn, .string x.upState, .string x.upNonce, .int .i64 x.ends] 72)).cell? ⟨w2.heap.size, 2, none⟩ = some (.string x.redirect) := (blk_cell hx3 2).trans rfl
    have d3 : (w2.alloc (.cells #[.string x.cookie, .string x.client, .string x.redirect, .string x.state, .string x.nonce, .string x.scope, .string x.challenge, .int .i64 x.stage, .string x.conn, .string x.upState, .string x.upNonce, .int .i64 x.ends] 72)).cell? ⟨w2.heap.size, 3, none⟩ = some (.string x.state) := (blk_cell hx3 3).trans rfl
    have d4 : (w2.alloc (.cells #[.string x.cookie, .string x.client, .string x.redirect, .string x.state, .string x.nonce, .string x.scope, .string x.challenge, .int .i64 x.stage, .string x.conn, .string x.upState, .string x.upNonce, .int .i64 x.ends] 72)).cell? ⟨w2.heap.size, 4, none⟩ = some (.string x.nonce) := (blk_cell hx3 4).trans rfl
    have d5 : (w2.alloc (.cells #[.string x.cookie, .string x.client, .string x.redirect, .string x.state, .string x.nonce, .string x.scope, .string x.challenge, .int .i64 x.stage, .string x.conn, .string x.upState, .string x.upNonce, .int .i64 x.ends] 72)).cell? ⟨w2.heap.size, 5, none⟩ = some (.string x.scope) := (blk_cell hx3 5).trans rfl
    have d6 : (w2.alloc (.cells #[.string x.cookie, .string x.client, .string x.redirect, .string x.state, .string x.nonce, .string x.scope, .string x.challenge, .int .i64 x.stage, .string x.conn, .string x.upState, .string x.upNonce, .int .i64 x.ends] 72)).cell? ⟨w2.heap.size, 6, none⟩ = some (.string x.challenge) := (blk_cell hx3 6).trans rfl
    have d7 : (w2.alloc (.cells #[.string x.cookie, .string x.client, .string x.redirect, .string x.state, .string x.nonce, .string x.scope, .string x.challenge, .int .i64 x.stage, .string x.conn, .string x.upState, .string x.upNonce, .int .i64 x.ends] 72)).cell? ⟨w2.heap.size, 7, none⟩ = some (.int .i64 x.stage) := (blk_cell hx3 7).trans rfl
    have d8 : (w2.alloc (.cells #[.string x.cookie, .string x.client, .string x.redirect, .string x.state, .string x.nonce, .string x.scope, .string x.challenge, .int .i64 x.stage, .string x.conn, .string x.upState, .string x.upNonce, .int .i64 x.ends] 72)).cell? ⟨w2.heap.size, 8, none⟩ = some (.string x.conn) := (blk_cell hx3 8).trans rfl
    have d9 : (w2.alloc (.cells #[.string x.cookie, .string x.client, .string x.redirect, .string x.state, .string x.nonce, .string x.scope, .string x.challenge, .int .i64 x.stage, .string x.conn, .string x.upState, .string x.upNonce, .int .i64 x.ends] 72)).cell? ⟨w2.heap.size, 9, none⟩ = some (.string x.upState) := (blk_cell hx3 9).trans rfl
    have d10 : (w2.alloc (.cells #[.string x.cookie, .string x.client, .string x.redirect, .string x.state, .string x.nonce, .string x.scope, .string x.challenge, .int .i64 x.stage, .string x.conn, .string x.upState, .string x.upNonce, .int .i64 x.ends] 72)).cell? ⟨w2.heap.size, 10, none⟩ = some (.string x.upNonce) := (blk_cell hx3 10).trans rfl
    have d11 : (w2.alloc (.cells #[.string x.cookie, .string x.client, .string x.redirect, .string x.state, .string x.nonce, .string x.scope, .string x.challenge, .int .i64 x.stage, .string x.conn, .string x.upState, .string x.upNonce, .int .i64 x.ends] 72)).cell? ⟨w2.heap.size, 11, none⟩ = some (.int .i64 x.ends) := (blk_cell hx3 11).trans rfl
    go_wp2_with fail
    refine bodyPost_ret (results_ct rfl _ _ w.heap.size 72 #[.string x.cookie, .string x.client, .string x.redirect, .string x.state, .string x.nonce, .string x.scope, .string x.challenge, .int .i64 x.stage, .string x.conn, .string x.upState, .string x.upNonce, .int .i64 x.ends] (0, 0) _ rfl (by
     refine blk_put (cs := #[.string x.cookie, .string x.client, .string x.redirect, .string x.state, .string x.nonce, .string x.scope, .string x.challenge, .int .i64 x.stage, .string x.conn, .string x.upState, .string x.upNonce, .int .i64 0]) ?_ 11 _ rfl
     refine blk_put (cs := #[.string x.cookie, .string x.client, .string x.redirect, .string x.state, .string x.nonce, .string x.scope, .string x.challenge, .int .i64 x.stage, .string x.conn, .string x.upState, .string ⟨#[]⟩, .int .i64 0]) ?_ 10 _ rfl
     refine blk_put (cs := #[.string x.cookie, .string x.client, .string x.redirect, .string x.state, .string x.nonce, .string x.scope, .string x.challenge, .int .i64 x.stage, .string x.conn, .string ⟨#[]⟩, .string ⟨#[]⟩, .int .i64 0]) ?_ 9 _ rfl
     refine blk_put (cs := #[.string x.cookie, .string x.client, .string x.redirect, .string x.state, .string x.nonce, .string x.scope, .string x.challenge, .int .i64 x.stage, .string ⟨#[]⟩, .string ⟨#[]⟩, .string ⟨#[]⟩, .int .i64 0]) ?_ 8 _ rfl
     refine blk_put (cs := #[.string x.cookie, .string x.client, .string x.redirect, .string x.state, .string x.nonce, .string x.scope, .string x.challenge, .int .i64 0, .string ⟨#[]⟩, .string ⟨#[]⟩, .string ⟨#[]⟩, .int .i64 0]) ?_ 7 _ rfl
     refine blk_put (cs := #[.string x.cookie, .string x.client, .string x.redirect, .string x.state, .string x.nonce, .string x.scope, .string ⟨#[]⟩, .int .i64 0, .string ⟨#[]⟩, .string ⟨#[]⟩, .string ⟨#[]⟩, .int .i64 0]) ?_ 6 _ rfl
     refine blk_put (cs := #[.string x.cookie, .string x.client, .string x.redirect, .string x.state, .string x.nonce, .string ⟨#[]⟩, .string ⟨#[]⟩, .int .i64 0, .string ⟨#[]⟩, .string ⟨#[]⟩, .string ⟨#[]⟩, .int .i64 0]) ?_ 5 _ rfl
     refine blk_put (cs := #[.string x.cookie, .string x.client, .string x.redirect, .string x.state, .string ⟨#[]⟩, .string ⟨#[]⟩, .string ⟨#[]⟩, .int .i64 0, .string ⟨#[]⟩, .string ⟨#[]⟩, .string ⟨#[]⟩, .int .i64 0]) ?_ 4 _ rfl
     refine blk_put (cs := #[.string x.cookie, .string x.client, .string x.redirect, .string ⟨#[]⟩, .string ⟨#[]⟩, .string ⟨#[]⟩, .string ⟨#[]⟩, .int .i64 0, .string ⟨#[]⟩, .string ⟨#[]⟩, .string ⟨#[]⟩, .int .i64 0]) ?_ 3 _ rfl
     refine blk_put (cs := #[.string x.cookie, .string x.client, .string ⟨#[]⟩, .string ⟨#[]⟩, .string ⟨#[]⟩, .string ⟨#[]⟩, .string ⟨#[]⟩, .int .i64 0, .string ⟨#[]⟩, .string ⟨#[]⟩, .string ⟨#[]⟩, .int .i64 0]) ?_ 2 _ rfl
     refine blk_put (cs := #[.string x.cookie, .string ⟨#[]⟩, .string ⟨#[]⟩, .string ⟨#[]⟩, .string ⟨#[]⟩, .string ⟨#[]⟩, .string ⟨#[]⟩, .int .i64 0, .string ⟨#[]⟩, .string ⟨#[]⟩, .string ⟨#[]⟩, .int .i64 0]) ?_ 1 _ rfl
     refine blk_put (cs := #[.string ⟨#[]⟩, .string ⟨#[]⟩, .string ⟨#[]⟩, .string ⟨#[]⟩, .string ⟨#[]⟩, .string ⟨#[]⟩, .string ⟨#[]⟩, .int .i64 0, .string ⟨#[]⟩, .string ⟨#[]⟩, .string ⟨#[]⟩, .int .i64 0]) ?_ 0 _ rfl
     exact hz3) Tryz.underlying72 rfl (by kernel_rfl)) rfl ?_
    refine ⟨rfl, ?_⟩
    iterate 12 (with_reducible refine below_set ?_ (Nat.le_refl _))
    with_reducible exact hB3
end Go.Proofs.YtpoblffgclmmlaaGreatDoor.X
end
section
set_option linter.unusedVariables false
set_option linter.unusedSimpArgs false
namespace Go.Proofs.YtpoblffgclmmlaaGreatDoor.X
open Go.RowKit Go.WideMaps Go.Maps Go.Proofs.YtpoblffgclmmlaaGreatDoorW.PrintWords Go.Proofs.YtpoblffgclmmlaaGreatDoorW.PrintLast Go.Proofs.YtpoblffgclmmlaaGreatDoorW.PrintMore Go.Proofs.YtpoblffgclmmlaaGreatDoor.Q

def tlB (k : ByteArray) : ByteArray := k.extract 1 k.size
theorem tlB_size (k : ByteArray) : (tlB k).size = k.size - 1 := by
 unfold tlB; rw [ByteArray.size_extract]; omega
theorem skey_tl {k : ByteArray} (h : preB k ⟨#[115]⟩ = true) : skey (tlB k) = k ∧ 1 ≤ k.size := by
 rw [preB_iff, Bool.and_eq_true, decide_eq_true_eq, decide_eq_true_eq] at h
 obtain ⟨h1, h2⟩ := h
 have hs : 1 ≤ k.size := h1
 have h3 := bytes_list.1 h2
 refine ⟨?_, hs⟩
 have hk : k.data.toList.length = k.size := by simp
 apply ByteArray.ext
 apply Array.toList_inj.1
 have e1 : (k.extract 0 1).data.toList = k.data.toList.take 1 := by simp
 have e2 : (k.extract 1 k.size).data.toList = k.data.toList.drop 1 := by
  simp
  rw [List.take_of_length_le]
  simp
 have e3 : (skey (tlB k)).data.toList = [115] ++ k.data.toList.drop 1 := by
  unfold skey tlB
  rw [ByteArray.data_append, Array.toList_append, e2]
 rw [e3]
 have h4 : k.data.toList.take 1 = [115] := by rw [← e1]; exact h3
 rw [← h4, List.take_append_drop]
theorem tl_skey (c : ByteArray) : tlB (skey c) = c := by
 apply ByteArray.ext
 apply Array.toList_inj.1
 unfold tlB skey
 simp [ByteArray.data_append]
 rw [List.take_of_length_le]
 have : (⟨#[115]⟩ : ByteArray).size = 1 := rfl
 simp [this]
/-- The changes that sweep keys. -/
def swp (g : ByteArray → Bool) (ks : List ByteArray) : List S69 := (ks.filter fun k => !g (tlB k)).map fun k => (⟨k, ⟨#[]⟩, true⟩ : S69)
theorem swp_snoc (g : ByteArray → Bool) (ks : List ByteArray) (x : ByteArray) : swp g (ks ++ [x]) = swp g ks ++ (if g (tlB x) = true then [] else [(⟨x, ⟨#[]⟩, true⟩ : S69)]) := by
 unfold swp
 rw [List.filter_append, List.map_append]
 cases h : g (tlB x) <;> simp [h]
theorem swp_len (g : ByteArray → Bool) (ks : List ByteArray) : (swp g ks).length ≤ ks.length := by
 unfold swp; rw [List.length_map]; exact List.length_filter_le _ _
theorem drop_says (c : ByteArray) (hc : c.size ≤ 1000000) (w : World) : Calls Tryz.prog 45 #[.string c] w fun e w' => e = .returned (.agg #[.string (skey c), .string ⟨#[]⟩, .bool true]) ∧ Below w.heap.size w w' :=
 seat_Drop.calls c (skey c) _ _ w (by unfold seat_Drop.f seat_Key.f; rw [if_pos (by omega)]; rfl)
set_option maxHeartbeats 4000000 in
set_option maxRecDepth 100000 in
theorem sweep_core (base s N : Nat) (r : List S82) (now : Int) (ks : List ByteArray) (hks : ((r.map fun x => x.f0).filter fun k => preB k ⟨#[115]⟩) = ks) (hpre : ∀ k ∈ ks, preB k ⟨#[115]⟩ = true) (hsm : ∀ k ∈ ks, k.size ≤ 1000000) (hlen : ks.length ≤ 1000000)
  (hv : ∀ c v, getR r (skey c) = some v → v.size ≤ 4294967280) (w : World) (hS : StW base w s r N) (hN : N ≤ 3400000000000) (hGP : GP w) (hGE : GE w) :
  Calls Tryz.prog 50 #[.pointer (some ⟨s, 0, none⟩), .int .i64 now] w fun e w' => ∃ v, e = .returned v ∧ Kd.R k69 69 w' w.heap.size (fun _ => True) v (swp (fun c => (findS r c now).isSome) ks) ∧ Below w.heap.size w w' := by
 have hkeys := wkeys_says base s N r ⟨#[115]⟩ w hS hN
 rw [hks] at hkeys
 have hfind := fun (c : ByteArray) (hc : c.size ≤ 1000000) w1 (hb : Below w.heap.size w w1) => find_says base s N r c now hc (hv c) w1 (hS.below hb) (hGP.below hb) (hGE.below hb)
 simp only [sesV] at hfind
 obtain ⟨fs, hfs⟩ : ∃ fs : ByteArray → Option Ses, fs = fun c => findS r c now := ⟨_, rfl⟩
 have hfs2 : ∀ c, findS r c now = fs c := fun c => by rw [hfs]
 simp only [hfs2] at hfind ⊢
 clear hks hfs hfs2 hv
 go_enter Tryz.func50, Tryz.ntmps50
 go_wp2_with fail
 refine hkeys.mono ?_
 rintro e w1 ⟨v1, rfl, hr1, hb1⟩
 obtain ⟨A1, c1, e1⟩ := Kd.R_slice hr1
 subst e1
 have hrd := (Kd.R_reads' hr1).2.2
 clear hr1 hkeys
 go_wp2_with fail
 go_loopw [5, 13] (fun v5 v13 wr => ∃ i : Nat, v13 = .int .i64 i ∧ i ≤ ks.length ∧ Kd.R k69 69 wr w1.heap.size (fun _ => True) v5 (swp (fun c => (fs c).isSome) (ks.take i)) ∧ Below w1.heap.size w1 wr) (fun _ v13 _ => ks.length - (intOf v13).toNat)
 case atStart => exact ⟨0, rfl, Nat.zero_le _, Kd.R_nil _ _ _ _ _, Below.refl _ w1⟩
 case round =>
  obtain ⟨i, rfl, hi, hr, hb⟩ := hrel
  have hb0 := below_then hb1 hb1.size hb
  have hC := Kd.C_below hrd hb
  by_cases hlt : i < ks.length
  ·
   have d1 : decide ((i : Int) < (ks.length : Int)) = true := decide_eq_true (by omega)
   obtain ⟨ad, rfl, hx⟩ := Kd.at_string hC (i : Int) (by omega) (by omega)
   have i3 : ((i : Int) < (ks.length : Int)) = True := eq_true (by omega)
   have i0 : (0 ≤ (i : Int)) = True := eq_true (by omega)
   have e1 : IntKind.i64.wrap ((i : Int) + 1) = (i : Int) + 1 := IntWalk.i64_in _ (by omega)
   simp only [Int.toNat_natCast] at hx
   have hxg : rdOf ByteArray.empty ks (i : Int) = ks.getD i ByteArray.empty := by unfold rdOf; rw [Int.toNat_natCast]
   have hmem : ks.getD i ByteArray.empty ∈ ks := by simp [List.getD_eq_getElem?_getD, List.getElem?_eq_getElem hlt]
   have htk : ks.take (i + 1) = ks.take i ++ [ks.getD i ByteArray.empty] := by
    rw [List.take_add_one]; simp [List.getD_eq_getElem?_getD, List.getElem?_eq_getElem hlt]
   have hxs := hsm _ hmem
   have hxp := skey_tl (hpre _ hmem)
   rw [hxg] at hx
   clear hxg hmem
   generalize ks.getD i ByteArray.empty = x at hx htk hxs hxp
   obtain ⟨hxk, hx1⟩ := hxp
   have hts := tlB_size x
   have hfd := hfind (tlB x) (by omega)
   have hdr := fun w2 => drop_says (tlB x) (by omega) w2
   rw [hxk] at hdr
   have hext : x.extract 1 x.size = tlB x := rfl
   have q1 : (1 ≤ x.size) = True := eq_true hx1
   have q2 : ((1 : Int) ≤ (x.size : Int)) = True := eq_true (by omega)
   have LB := Lib.hid (show ((swp (fun c => (fs c).isSome) (ks.take i)).length + 1) * 40 ≤ 140737488355328 by have := swp_len (fun c => (fs c).isSome) (ks.take i); rw [List.length_take] at this; omega)
   have Htk := Lib.hid htk
   have Hsn := Lib.hid (swp_snoc (fun c => (fs c).isSome) (ks.take i) x)
   have Hi := Lib.hid (show i + 1 ≤ ks.length by omega)
   clear htk hsm hpre hfind hxk hts hxs hx1
   obtain ⟨out, hout⟩ : ∃ out, out = swp (fun c => (fs c).isSome) (ks.take i) := ⟨_, rfl⟩
   rw [← hout] at hr LB Hsn
   clear hout
   obtain ⟨t, ht⟩ : ∃ t, t = tlB x := ⟨_, rfl⟩
   rw [← ht] at hfd hdr hext Hsn
   clear ht
   obtain ⟨fx, hfx⟩ : ∃ fx, fx = fs t := ⟨_, rfl⟩
   simp only [← hfx] at hfd Hsn
   clear hfx
   have hfd := hfd _ hb0
   go_wp2_with fail
   refine hfd.mono ?_
   rintro e w2 ⟨rfl, hb2⟩
   have hB2 := below_then hb0 hb0.size hb2
   have hB2' := below_then hb hb.size hb2
   have hr2 := Kd.R_below hr hb2
   clear hfd hr
   cases fx with
   | some y =>
    have e0 : swp (fun c => (fs c).isSome) (ks.take (i + 1)) = out := by rw [(show ks.take (i + 1) = ks.take i ++ [x] from Htk), Hsn.out]; simp
    have E0 := Lib.hid e0
    simp only [Option.getD_some, Option.isSome_some]
    clear e0
    go_wp2_with fail
    refine ⟨⟨i + 1, rfl, Hi.out, ?_, below_alloc hB2' _⟩, ?_⟩
    ·
     rw [E0.out]; exact Kd.R_alloc hr2 _
    ·
     have := Hi.out; simp only [intOf]; omega
   | none =>
    have e0 : swp (fun c => (fs c).isSome) (ks.take (i + 1)) = out ++ [⟨x, ⟨#[]⟩, true⟩] := by rw [(show ks.take (i + 1) = ks.take i ++ [x] from Htk), Hsn.out]; simp
    have E0 := Lib.hid e0
    simp only [Option.getD_none, Option.isSome_none, sesZ]
    clear e0
    go_wp2_with fail
    refine (hdr _).mono ?_
    rintro e w3 ⟨rfl, hb3⟩
    have hr3 := Kd.R_below (Kd.R_alloc hr2 _) hb3
    have hB3 := below_then (below_alloc hB2 _) (below_alloc hB2 _).size hb3
    have hB3' := below_then (below_alloc hB2' _) (below_alloc hB2' _).size hb3
    clear hdr hr2 hb2 hb3
    have LB := LB.out
    go_wp2_with ((with_reducible refine gate_builtin (b := .append) (xs := #[.tmp 27, .tmp 31]) rfl ?_); at_builtin; refine Kd.R_append k69 (w0 := w1) w1.heap.size rfl (.tmp 27) (.tmp 31) 35 69 (.agg #[.string ⟨#[]⟩, .string ⟨#[]⟩, .bool false]) 40 rfl Tryz.underlying35 (by kernel_rfl) rfl (by decide) (by decide) u5 out ⟨x, ⟨#[]⟩, true⟩ [.string x, .string ⟨#[]⟩, .bool true] (fun _ => True) (fun _ => False) rfl rfl (k69_mkM _ _ _ ⟨x, ⟨#[]⟩, true⟩) (fun _ h => h.elim) (fun _ _ => trivial) (Kd.R_mono hr3 (fun _ _ => trivial)) hB3' hB3'.size LB ?_; intro v5 w5 ho5 hb5 hg5 hat5)
    refine ⟨⟨i + 1, rfl, Hi.out, ?_, hb5⟩, ?_⟩
    ·
     rw [E0.out]; exact ho5
    ·
     have := Hi.out; simp only [intOf]; omega
  ·
   have d1 : decide ((i : Int) < (ks.length : Int)) = false := decide_eq_false (by omega)
   have hil : i = ks.length := by omega
   subst hil
   rw [List.take_length] at hr
   go_wp2_with fail
   go_ret
   exact ⟨_, rfl, Kd.R_lower hr hb1.size, hb0⟩
end Go.Proofs.YtpoblffgclmmlaaGreatDoor.X
end
section
set_option linter.unusedVariables false
set_option linter.unusedSimpArgs false
namespace Go.Proofs.YtpoblffgclmmlaaGreatDoor.X
open Go.RowKit Go.WideMaps Go.Maps Go.Proofs.YtpoblffgclmmlaaGreatDoorW.PrintWords Go.Proofs.YtpoblffgclmmlaaGreatDoorW.PrintLast Go.Proofs.YtpoblffgclmmlaaGreatDoorW.PrintMore Go.Proofs.YtpoblffgclmmlaaGreatDoor.Q

theorem rsession_says (x : Ses) (h1 : I64 x.stage) (h2 : I64 x.ends) (hl : (txs (sesL x)).length ≤ 9223372036854775807) (w : World) :
  Calls Tryz.prog 40 #[sesV x] w fun e w' => e = .returned (.string (sesT x)) ∧ Below w.heap.size w w' := by
 obtain ⟨k1, hk1⟩ := Dec_ev x.stage h1
 obtain ⟨k2, hk2⟩ := Dec_ev x.ends h2
 refine exequaturref13_Session.calls (k1 + k2) x.cookie x.client x.redirect x.state x.nonce x.scope x.challenge x.stage x.conn x.upState x.upNonce x.ends _ w ?_
 have e1 := hk1 (k1 + k2) (by omega)
 have e2 := hk2 (k1 + k2) (by omega)
 unfold exequaturref13_Session.f
 rw [show exequaturref01_Dec.f (k1 + k2) x.stage = _ from e1, Option.bind_some, show exequaturref01_Dec.f (k1 + k2) x.ends = _ from e2, Option.bind_some]
 unfold exequaturref13_Texts.f
 rw [if_pos (by exact hl)]
 rfl
theorem ssave_says (x : Ses) (h1 : I64 x.stage) (h2 : I64 x.ends) (hc : x.cookie.size ≤ 1000000) (hl : (txs (sesL x)).length ≤ 140737488355328) (w : World) (hGP : GP w) :
  Calls Tryz.prog 43 #[sesV x] w fun e w' => e = .returned (.agg #[.string (skey x.cookie), .string (sesT x), .bool false]) ∧ Below w.heap.size w w' :=
 seat_Save.calls x.cookie x.client x.redirect x.state x.nonce x.scope x.challenge x.stage x.conn x.upState x.upNonce x.ends _ _ _ w (by
  unfold I64 at h1 h2
  unfold seat_Save.f seat_Key.f row_Session.f strconv_Itoa_143.f row_Texts.f
  rw [if_pos (by omega), Option.bind_some, if_pos (by omega), Option.bind_some, if_pos (by omega), Option.bind_some]
  show (Option.bind (Option.bind (if (txs (sesL x)).length ≤ 140737488355328 then some (sesT x) else none) fun t => some t) fun t => some (skey x.cookie, t, false)) = some (skey x.cookie, sesT x, false)
  rw [if_pos hl]
  rfl) hGP
theorem find_one (x : Ses) (h1 : I64 x.stage) (h2 : I64 x.ends) (now : Int) : findS [⟨skey x.cookie, sesT x⟩] x.cookie now = if x.ends ≤ now then none else some x := by
 unfold findS
 rw [show getR [(⟨skey x.cookie, sesT x⟩ : S82)] (skey x.cookie) = some (sesT x) by simp [getR], Option.bind_some, readS_of x h1 h2, Option.bind_some]
theorem one_v {K V : ByteArray} (h : V.size ≤ 4294967280) : ∀ k v, getR [(⟨K, V⟩ : S82)] k = some v → v.size ≤ 4294967280 := by
 intro k v hv
 unfold getR at hv
 rw [List.find?_cons] at hv
 split at hv
 ·
  simp at hv; rw [← hv]; exact h
 ·
  simp at hv
theorem sesT_size (x : Ses) : (sesT x).size = (txs (sesL x)).length := by unfold sesT; exact mkB_size _
def sesA (c : ByteArray) (ends : Int) : Ses := ⟨c, ⟨#[]⟩, ⟨#[]⟩, ⟨#[]⟩, ⟨#[]⟩, ⟨#[]⟩, ⟨#[]⟩, 0, ⟨#[]⟩, ⟨#[]⟩, ⟨#[]⟩, ends⟩
theorem sesA_len (c : ByteArray) (ends : Int) (hc : c.size ≤ 5000) (he : I64 ends) : (txs (sesL (sesA c ends))).length ≤ 6000 := by
 have h := txsLen (sesL (sesA c ends)) (by
  intro y hy
  simp only [sesL, sesA, List.mem_cons, List.not_mem_nil, or_false] at hy
  have h0 := itB_size (v := 0) (by unfold I64; omega)
  have h1 := itB_size he
  rcases hy with e | e | e | e | e | e | e | e | e | e | e | e <;> subst e <;> first | omega | (show (0 : Nat) < _; omega))
 have h0 := itB_size (v := 0) (by unfold I64; omega)
 have h1 := itB_size he
 simp only [sesL, sesA, List.length_cons, List.length_nil, List.map_cons, List.map_nil, List.sum_cons, List.sum_nil] at h
 have hz : (⟨#[]⟩ : ByteArray).size = 0 := rfl
 simp only [hz] at h
 simp only [sesL, sesA]
 omega
theorem storedB_one (K V : ByteArray) (h : K.size + V.size ≤ 19000) (g : Bool) : storedB [(⟨K, V, g⟩ : S69)] = true := by
 unfold storedB
 refine decide_eq_true ?_
 simp [wgtS]; omega
set_option maxHeartbeats 4000000 in
set_option maxRecDepth 100000 in
theorem answers19_says (w : World) (hGL : GL w) (hGP : GP w) (hGE : GE w) : Calls Tryz.prog 41 #[] w fun e w' => e = .returned (.bool true) ∧ Below w.heap.size w w' := by
 have hi0 : I64 (sesA ⟨#[97]⟩ 5).stage := by show I64 0; unfold I64; omega
 have hi5 : I64 (sesA ⟨#[97]⟩ 5).ends := by show I64 5; unfold I64; omega
 have hln := sesA_len ⟨#[97]⟩ 5 (by show 1 ≤ _; omega) hi5
 have hsv := ssave_says (sesA ⟨#[97]⟩ 5) hi0 hi5 (by show 1 ≤ _; omega) (by omega) w hGP
 have hf1 := find_one (sesA ⟨#[97]⟩ 5) hi0 hi5 4
 have hf2 := find_one (sesA ⟨#[97]⟩ 5) hi0 hi5 5
 rw [if_neg (by show ¬ (5 : Int) ≤ 4; omega)] at hf1
 rw [if_pos (by show (5 : Int) ≤ 5; omega)] at hf2
 have hks := skey_size (sesA ⟨#[97]⟩ 5).cookie
 have hVs := sesT_size (sesA ⟨#[97]⟩ 5)
 have hcs : (sesA ⟨#[97]⟩ 5).cookie.size = 1 := rfl
 have hsb := storedB_one (skey (sesA ⟨#[97]⟩ 5).cookie) (sesT (sesA ⟨#[97]⟩ 5)) (by omega) false
 have hov := one_v (K := skey (sesA ⟨#[97]⟩ 5).cookie) (V := sesT (sesA ⟨#[97]⟩ 5)) (by omega)
 have hto : turnR [] [⟨skey (sesA ⟨#[97]⟩ 5).cookie, sesT (sesA ⟨#[97]⟩ 5), false⟩] = [⟨skey (sesA ⟨#[97]⟩ 5).cookie, sesT (sesA ⟨#[97]⟩ 5)⟩] := rfl
 have hfd := fun B s N now w' (hS : StW B w' s [⟨skey (sesA ⟨#[97]⟩ 5).cookie, sesT (sesA ⟨#[97]⟩ 5)⟩] N) (hG : GP w') (hG2 : GE w') => find_says B s N [⟨skey (sesA ⟨#[97]⟩ 5).cookie, sesT (sesA ⟨#[97]⟩ 5)⟩] (sesA ⟨#[97]⟩ 5).cookie now (by show 1 ≤ _; omega) (hov _) w' hS hG hG2
 have hfd1 := fun B s N w' hS hG hG2 => hfd B s N 4 w' hS hG hG2
 have hfd2 := fun B s N w' hS hG hG2 => hfd B s N 5 w' hS hG hG2
 rw [hf1] at hfd1
 rw [hf2] at hfd2
 have hst := fun w1 (hb : Below w.heap.size w w1) A c hC hc => stored19_says w1 A c [⟨skey (sesA ⟨#[97]⟩ 5).cookie, sesT (sesA ⟨#[97]⟩ 5), false⟩] hC hc (by simp) (by intro x hx; simp only [List.mem_singleton] at hx; subst hx; simp only; omega) (hGL.below hb)
 simp only [hsb, hto] at hst
 have hck : (sesA ⟨#[97]⟩ 5).cookie = ⟨#[97]⟩ := rfl
 generalize skey (sesA ⟨#[97]⟩ 5).cookie = K at *
 generalize sesT (sesA ⟨#[97]⟩ 5) = V at *
 rw [hck] at hfd1 hfd2
 simp only [sesV, sesA, Option.getD_some, Option.getD_none, Option.isSome_some, Option.isSome_none, sesZ] at hsv hfd1 hfd2
 clear hfd hf1 hf2 hov hsb hto hln hks hVs hcs hi0 hi5 hck
 go_enter Tryz.func41, Tryz.ntmps41
 go_wp2_with fail
 refine hsv.mono ?_
 rintro e w1 ⟨rfl, hb1⟩
 clear hsv
 have hB2 := below_alloc hb1 (.cells #[.string K, .string V, .bool false] 69)
 have hM := C_made (d := k69) (e := 69) w1 [(⟨K, V, false⟩ : S69)] [.string K, .string V, .bool false] (show (1 : Nat) ≤ maxLen by decide) (Reps.c3 (k69_mkM _ _ _ (⟨K, V, false⟩ : S69)) (Reps.none _ _))
 have hMr := Kd.R_reads' hM
 go_wp2_with fail
 refine (hst _ hB2 _ 1 hMr.2.2 (Nat.le_refl _)).mono ?_
 clear hM hMr hst
 generalize w1.alloc (.cells #[.string K, .string V, .bool false] 69) = w2 at hB2 ⊢
 rintro e w3 ⟨hb3, ⟨hsb, _⟩ | ⟨hsb, s, v, rfl, hS, hR⟩⟩
 ·
  cases hsb
 ·
  obtain ⟨Av, cv, rfl, _⟩ := hR.slice
  have hB3 := below_then hB2 hB2.size hb3
  go_wp2_with fail
  refine (hfd1 _ s _ w3 hS (hGP.below hB3) (hGE.below hB3)).mono ?_
  rintro e w4 ⟨rfl, hb4⟩
  have hB4 := below_then hB3 hB3.size hb4
  have hS4 := (hS.below hb4).below (below_alloc (Below.refl _ w4) (.cells #[.string ⟨#[97]⟩, .string ⟨#[]⟩, .string ⟨#[]⟩, .string ⟨#[]⟩, .string ⟨#[]⟩, .string ⟨#[]⟩, .string ⟨#[]⟩, .int .i64 0, .string ⟨#[]⟩, .string ⟨#[]⟩, .string ⟨#[]⟩, .int .i64 5] 72))
  have hB5 := below_alloc hB4 (.cells #[.string ⟨#[97]⟩, .string ⟨#[]⟩, .string ⟨#[]⟩, .string ⟨#[]⟩, .string ⟨#[]⟩, .string ⟨#[]⟩, .string ⟨#[]⟩, .int .i64 0, .string ⟨#[]⟩, .string ⟨#[]⟩, .string ⟨#[]⟩, .int .i64 5] 72)
  have hz := heap_alloc_new w4 (.cells #[.string ⟨#[97]⟩, .string ⟨#[]⟩, .string ⟨#[]⟩, .string ⟨#[]⟩, .string ⟨#[]⟩, .string ⟨#[]⟩, .string ⟨#[]⟩, .int .i64 0, .string ⟨#[]⟩, .string ⟨#[]⟩, .string ⟨#[]⟩, .int .i64 5] 72)
  go_wp2_with fail
  refine (hfd2 _ s _ _ hS4 (hGP.below hB5) (hGE.below hB5)).mono ?_
  clear hfd1 hfd2
  generalize w4.alloc (.cells #[.string ⟨#[97]⟩, .string ⟨#[]⟩, .string ⟨#[]⟩, .string ⟨#[]⟩, .string ⟨#[]⟩, .string ⟨#[]⟩, .string ⟨#[]⟩, .int .i64 0, .string ⟨#[]⟩, .string ⟨#[]⟩, .string ⟨#[]⟩, .int .i64 5] 72) = w5 at hS4 hB5 hz ⊢
  rintro e w6 ⟨rfl, hb6⟩
  have hB6 := below_then hB5 hB5.size hb6
  have hz6 := blk_below (blk_below hz hb6) (below_alloc (Below.refl _ w6) (.cells #[.string ⟨#[]⟩, .string ⟨#[]⟩, .string ⟨#[]⟩, .string ⟨#[]⟩, .string ⟨#[]⟩, .string ⟨#[]⟩, .string ⟨#[]⟩, .int .i64 0, .string ⟨#[]⟩, .string ⟨#[]⟩, .string ⟨#[]⟩, .int .i64 0] 72))
  have c11 : (w6.alloc (.cells #[.string ⟨#[]⟩, .string ⟨#[]⟩, .string ⟨#[]⟩, .string ⟨#[]⟩, .string ⟨#[]⟩, .string ⟨#[]⟩, .string ⟨#[]⟩, .int .i64 0, .string ⟨#[]⟩, .string ⟨#[]⟩, .string ⟨#[]⟩, .int .i64 0] 72)).cell? ⟨w4.heap.size, 11, none⟩ = some (.int .i64 5) := (blk_cell hz6 11).trans rfl
  go_wp2_with fail
  go_ret
  exact ⟨rfl, below_alloc hB6 _⟩
end Go.Proofs.YtpoblffgclmmlaaGreatDoor.X
end
section
set_option linter.unusedVariables false
set_option linter.unusedSimpArgs false
namespace Go.Proofs.YtpoblffgclmmlaaGreatDoor.X
open Go.RowKit Go.WideMaps Go.Maps Go.Proofs.YtpoblffgclmmlaaGreatDoorW.PrintWords Go.Proofs.YtpoblffgclmmlaaGreatDoorW.PrintLast Go.Proofs.YtpoblffgclmmlaaGreatDoorW.PrintMore Go.Proofs.YtpoblffgclmmlaaGreatDoor.Q

theorem wgt_mem {r : List S82} {x : S82} (h : x ∈ r) : 12 + x.f0.size + x.f1.size ≤ wgt r := by
 unfold wgt
 induction r with
 | nil => cases h
 | cons y r ih =>
  simp only [List.map_cons, List.sum_cons]
  rcases List.mem_cons.1 h with e | e
  ·
   subst e; omega
  ·
   have := ih e; omega
theorem getR_small {r : List S82} {n : Nat} (h : wgt r ≤ n) : ∀ k v, getR r k = some v → v.size ≤ n := by
 intro k v hv
 unfold getR at hv
 obtain ⟨x, hx, e⟩ := Option.map_eq_some_iff.1 hv
 have := wgt_mem (List.mem_of_find?_eq_some hx)
 subst e; omega
theorem keys_facts (r : List S82) {n : Nat} (h : wgt r ≤ n) (p : ByteArray) : (∀ k ∈ ((r.map fun x => x.f0).filter fun k => preB k p), preB k p = true) ∧ (∀ k ∈ ((r.map fun x => x.f0).filter fun k => preB k p), k.size ≤ n) ∧ ((r.map fun x => x.f0).filter fun k => preB k p).length ≤ r.length := by
 refine ⟨fun k hk => (List.mem_filter.1 hk).2, fun k hk => ?_, ?_⟩
 ·
  obtain ⟨x, hx, rfl⟩ := List.mem_map.1 (List.mem_filter.1 hk).1
  have := wgt_mem hx
  omega
 ·
  have := List.length_filter_le (fun k => preB k p) (r.map fun x => x.f0)
  rwa [List.length_map] at this
end Go.Proofs.YtpoblffgclmmlaaGreatDoor.X
end
section
set_option linter.unusedVariables false
set_option linter.unusedSimpArgs false
namespace Go.Proofs.YtpoblffgclmmlaaGreatDoor.X
open Go.RowKit Go.WideMaps Go.Maps Go.Proofs.YtpoblffgclmmlaaGreatDoorW.PrintWords Go.Proofs.YtpoblffgclmmlaaGreatDoorW.PrintLast Go.Proofs.YtpoblffgclmmlaaGreatDoorW.PrintMore Go.Proofs.YtpoblffgclmmlaaGreatDoor.Q

instance memDec (k : ByteArray) (K : List ByteArray) : Decidable (k ∈ K) := decidable_of_iff (K.any (fun y => decide (y = k)) = true) (by simp)
def goneL (K : List ByteArray) : List S69 := K.map fun k => (⟨k, ⟨#[]⟩, true⟩ : S69)
def swK (g : ByteArray → Bool) (ks : List ByteArray) : List ByteArray := ks.filter fun k => !g (tlB k)
theorem swp_gone (g : ByteArray → Bool) (ks : List ByteArray) : swp g ks = goneL (swK g ks) := rfl
theorem turn_goneL (K : List ByteArray) : ∀ r : List S82, turnR r (goneL K) = r.filter fun x => decide (x.f0 ∉ K) := by
 induction K with
 | nil => intro r; symm; exact List.filter_eq_self.2 (fun x _ => by simp)
 | cons k K ih =>
  intro r
  show turnR (turn1 r ⟨k, ⟨#[]⟩, true⟩) (goneL K) = _
  rw [turn1_gone _ _ rfl, ih]
  unfold other
  rw [List.filter_filter]
  apply List.filter_congr
  intro x _
  simp only [List.mem_cons, not_or]
  by_cases h1 : x.f0 = k <;> by_cases h2 : x.f0 ∈ K <;> simp [h1, h2]
theorem getR_filter (K : List ByteArray) (key : ByteArray) : ∀ r : List S82, getR (r.filter fun x => decide (x.f0 ∉ K)) key = if key ∈ K then none else getR r key := by
 intro r
 induction r with
 | nil => unfold getR; simp
 | cons y r ih =>
  unfold getR at ih ⊢
  rw [List.filter_cons]
  by_cases hy : y.f0 ∈ K
  ·
   rw [decide_eq_false (by simpa using hy)]
   simp only [Bool.false_eq_true, if_false]
   rw [ih]
   by_cases hk : key ∈ K
   ·
    rw [if_pos hk, if_pos hk]
   ·
    rw [if_neg hk, if_neg hk, List.find?_cons, decide_eq_false (fun e : y.f0 = key => hk (by rw [← e]; exact hy))]
  ·
   rw [decide_eq_true hy]
   simp only [if_true]
   rw [List.find?_cons, List.find?_cons]
   by_cases he : y.f0 = key
   ·
    rw [decide_eq_true he, if_neg (by rw [← he]; exact hy)]
   ·
    rw [decide_eq_false he]
    exact ih
theorem wgt_filter (p : S82 → Bool) (r : List S82) : wgt (r.filter p) ≤ wgt r := by
 unfold wgt
 induction r with
 | nil => simp
 | cons x r ih =>
  rw [List.filter_cons]
  split
  ·
   simp only [List.map_cons, List.sum_cons]; omega
  ·
   simp only [List.map_cons, List.sum_cons]; omega
theorem swp_wgt (g : ByteArray → Bool) (p : ByteArray → Bool) (r : List S82) : wgtC (swp g ((r.map fun x => x.f0).filter p)) ≤ wgt r := by
 unfold wgtC wgt swp
 induction r with
 | nil => simp
 | cons x r ih =>
  simp only [List.map_cons, List.sum_cons, List.filter_cons]
  split
  ·
   rw [List.filter_cons]
   split
   ·
    simp only [List.map_cons, List.sum_cons]
    have : (⟨#[]⟩ : ByteArray).size = 0 := rfl
    omega
   ·
    omega
  ·
   omega
/-- Behind the sweep. -/
def swept (r : List S82) (now : Int) : List S82 := turnR r (swp (fun c => (findS r c now).isSome) ((r.map fun x => x.f0).filter fun k => preB k ⟨#[115]⟩))
theorem swept_find (r : List S82) (now : Int) (c : ByteArray) : findS (swept r now) c now = findS r c now := by
 unfold swept
 rw [swp_gone, turn_goneL]
 have hg := getR_filter (swK (fun c => (findS r c now).isSome) ((r.map fun x => x.f0).filter fun k => preB k ⟨#[115]⟩)) (skey c) r
 by_cases hk : skey c ∈ swK (fun c => (findS r c now).isSome) ((r.map fun x => x.f0).filter fun k => preB k ⟨#[115]⟩)
 ·
  rw [if_pos hk] at hg
  rw [findS_none hg]
  have := (List.mem_filter.1 hk).2
  cases h : findS r c now with
  | none => rfl
  | some x => simp [tl_skey, h] at this
 ·
  rw [if_neg hk] at hg
  have e : ∀ q : List S82, findS q c now = (getR q (skey c)).bind fun v => (readS v).bind fun x => if x.ends ≤ now then none else some x := fun q => rfl
  rw [e, hg]
  rfl
theorem swept_keys (r : List S82) (now : Int) : (((swept r now).map fun x => x.f0).filter fun k => preB k ⟨#[115]⟩) = ((r.map fun x => x.f0).filter fun k => preB k ⟨#[115]⟩).filter fun k => (findS r (tlB k) now).isSome := by
 unfold swept
 rw [swp_gone, turn_goneL]
 have h1 : ∀ K : List ByteArray, ((r.filter fun x => decide (x.f0 ∉ K)).map fun x => x.f0) = (r.map fun x => x.f0).filter fun k => decide (k ∉ K) := by
  intro K
  rw [List.filter_map]
  rfl
 rw [h1, List.filter_filter, List.filter_filter]
 apply List.filter_congr
 intro k hk
 by_cases hp : preB k ⟨#[115]⟩ = true
 ·
  rw [hp, Bool.true_and, Bool.and_true]
  have hm : k ∈ ((r.map fun x => x.f0).filter fun k => preB k ⟨#[115]⟩) := List.mem_filter.2 ⟨hk, hp⟩
  cases hf : (findS r (tlB k) now).isSome with
  | true =>
   refine decide_eq_true (fun hn => ?_)
   have := (List.mem_filter.1 hn).2
   simp [hf] at this
  | false =>
   refine decide_eq_false (fun hn => hn ?_)
   exact List.mem_filter.2 ⟨hm, by simp [hf]⟩
 ·
  rw [Bool.not_eq_true] at hp
  rw [hp, Bool.false_and, Bool.and_false]
theorem swept_wgt (r : List S82) (now : Int) : wgt (swept r now) ≤ wgt r := by
 unfold swept
 rw [swp_gone, turn_goneL]
 exact wgt_filter _ r
theorem count_take (ks : List ByteArray) (p : ByteArray → Bool) (i : Nat) (h : i < ks.length) : ((ks.take (i + 1)).filter p).length = ((ks.take i).filter p).length + (if p (ks.getD i ByteArray.empty) = true then 1 else 0) := by
 rw [show ks.take (i + 1) = ks.take i ++ [ks.getD i ByteArray.empty] by rw [List.take_add_one]; simp [List.getD_eq_getElem?_getD, List.getElem?_eq_getElem h], List.filter_append, List.length_append]
 generalize ks.getD i ByteArray.empty = x
 cases hp : p x <;> simp [hp]
/-- The changes that save sessions. -/
def chS (l : List Ses) : List S69 := l.map fun c => (⟨skey c.cookie, sesT c, false⟩ : S69)
theorem chS_take (l : List Ses) (i : Nat) (h : i < l.length) : chS (l.take (i + 1)) = chS (l.take i) ++ [⟨skey (l.getD i sesZ).cookie, sesT (l.getD i sesZ), false⟩] := by
 unfold chS
 rw [show l.take (i + 1) = l.take i ++ [l.getD i sesZ] by rw [List.take_add_one]; simp [List.getD_eq_getElem?_getD, List.getElem?_eq_getElem h], List.map_append]
 rfl
theorem stored_small2 {l : List S69} (h : storedB l = true) (hl : l.length ≤ 20) : wgt (turnR [] l) ≤ 20300 ∧ (turnR [] l).length ≤ 20 := by
 have h2 := of_decide_eq_true h
 have h3 := wgt_turn (r := []) List.Pairwise.nil l
 have h4 := wgtC_small l
 have h5 := turnR_len [] l List.Pairwise.nil
 have h6 : wgt [] = 0 := rfl
 simp only [List.length_nil] at h5
 omega
end Go.Proofs.YtpoblffgclmmlaaGreatDoor.X
end
