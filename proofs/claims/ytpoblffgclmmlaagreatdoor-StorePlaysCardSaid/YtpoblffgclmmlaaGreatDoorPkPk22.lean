/- A part of the proof of a card: what some functions of the program come to, each under the conditions that its theorem names. -/
import Derived.Lib.SmallJoins
import Derived.Deep.Fields
import Derived.ChangeSame
import Derived.OpenShut
import Derived.Test.YtpoblffgclmmlaaGreatDoorPkPk17
import Derived.Test.YtpoblffgclmmlaaGreatDoorPkPk19
import Derived.Test.YtpoblffgclmmlaaGreatDoorPkPk21
section
set_option linter.unusedVariables false
set_option linter.unusedSimpArgs false
namespace Go.Proofs.YtpoblffgclmmlaaGreatDoor.X
open Go.Joins Go.ChangeShapes Go.WideShapes Go.RowKit

theorem i64_lit {n : Int} (h : (Lit.int .i64 n).wf = true) : I64 n := by
 simp [Lit.wf, IntKind.min, IntKind.max, IntKind.bits, IntKind.signed] at h
 unfold I64
 omega
end Go.Proofs.YtpoblffgclmmlaaGreatDoor.X
end
section
set_option linter.unusedVariables false
set_option linter.unusedSimpArgs false
namespace Go.Proofs.YtpoblffgclmmlaaGreatDoor.X
open Go.Joins Go.ChangeShapes Go.WideShapes Go.RowKit Go.Proofs.YtpoblffgclmmlaaGreatDoorW.PrintWords

structure ActS where
 a : Option Addr
 len : Nat
 cap : Nat
 crash : Bool
 fuse : Int
 n : Int
def actZ : ActS := ⟨none, 0, 0, false, 0, 0⟩
/-- An act lies at an address. -/
def ActAt (w : World) (ad : Addr) (x : ActS) : Prop := w.cell? ad = some (.slice x.a x.len x.cap) ∧ w.cell? ⟨ad.block, ad.off + 1, none⟩ = some (.bool x.crash) ∧ w.cell? ⟨ad.block, ad.off + 2, none⟩ = some (.int .i64 x.fuse) ∧ w.cell? ⟨ad.block, ad.off + 3, none⟩ = some (.int .i64 x.n)
def ActsIn (w : World) (a : Option Addr) (len cap : Nat) : Prop := ∃ l : List ActS, len = l.length ∧ l.length ≤ cap ∧ l.length ≤ 4000000000000 ∧ (∀ x ∈ l, I64 x.fuse ∧ I64 x.n ∧ ChgsIn w x.a x.len x.cap) ∧ ∀ i, i < l.length → ∃ ad, a = some ad ∧ ActAt w (ad.add (i * 4)) (l.getD i actZ)
theorem acts_open {H : Type} {enc : TypeId × Value → H} {P : Program} {w : World} {base : Nat} {held : Bool} {t e e2 : TypeId} {f0 f1 f2 f3 k0 k1 k2 : Field} {fuel : Nat} {a : Option Addr} {len cap : Nat} {d : DataW H} {p : List MemPlace}
  (ht : P.underlying t = some (.slice e)) (he : P.underlying e = some (.struct #[f0, f1, f2, f3])) (h0 : P.underlying f0.type = some (.slice e2)) (h1 : P.underlying f1.type = some .bool) (h2 : P.underlying f2.type = some (.int .i64)) (h3 : P.underlying f3.type = some (.int .i64))
  (he2 : P.underlying e2 = some (.struct #[k0, k1, k2])) (j0 : P.underlying k0.type = some .string) (j1 : P.underlying k1.type = some .string) (j2 : P.underlying k2.type = some .bool) (honek : Deep.oneCellFields P #[k0, k1, k2] = true) (hCk : P.cellsOf e2 = 3) (hBk : P.bytesOf e2 = 40)
  (hone : Deep.oneCellFields P #[f0, f1, f2, f3] = true) (hC : P.cellsOf e = 4) (hB : P.bytesOf e = 48)
  (h : DataW.trod enc P w base (fun _ => true) held fuel t [.slice a len cap] = some (d, p)) (hw : ∀ n ∈ d.weights P t, n ≤ reachBytes) :
  ActsIn w a len cap := by
 rcases Deep.open_slice ht h with ⟨hcs, _⟩ | ⟨a', len', cap', m, n, D, Pl, hcs, _, hl, hm, hmm, hx, hi⟩
 ·
  simp only [List.cons.injEq, Value.slice.injEq, and_true] at hcs
  obtain ⟨rfl, rfl, rfl⟩ := hcs
  exact ⟨[], rfl, by simp, by simp, by simp, by simp⟩
 ·
  simp only [List.cons.injEq, Value.slice.injEq, and_true] at hcs
  obtain ⟨rfl, rfl, rfl⟩ := hcs
  have hmc : m = cap := by rw [hmm]; simp
  subst hmc
  simp only [Prod.mk.injEq] at hx
  have hd := hx.1
  have hwl : (((List.range len).map D).length + ((List.range (m - len)).map fun j => D (len + j)).length) * P.bytesOf e ≤ reachBytes := by
   refine hw _ ?_
   rw [hd, DataW.weights, ht]
   exact List.mem_cons_self ..
  have hwe : ∀ i, i < len → ∀ n ∈ (D i).weights P e, n ≤ reachBytes := by
   intro i hlt n hn
   refine hw n ?_
   rw [hd, DataW.weights, ht]
   refine List.mem_cons_of_mem _ (List.mem_append_left _ ?_)
   have : ∀ (ds : List (DataW H)), D i ∈ ds → n ∈ DataW.weightsAll P e ds := by
    intro ds
    induction ds with
    | nil => intro h; cases h
    | cons y ds ih =>
     intro h
     rw [DataW.weightsAll]
     rcases List.mem_cons.1 h with h | h
     ·
      rw [← h]; exact List.mem_append_left _ hn
     ·
      exact List.mem_append_right _ (ih h)
   exact this _ (List.mem_map.2 ⟨i, List.mem_range.2 hlt, rfl⟩)
  have each : ∀ i, i < len → ∃ x : ActS, (I64 x.fuse ∧ I64 x.n ∧ ChgsIn w x.a x.len x.cap) ∧ w.cell? (a'.add (i * 4 + 0)) = some (.slice x.a x.len x.cap) ∧ w.cell? (a'.add (i * 4 + 1)) = some (.bool x.crash) ∧ w.cell? (a'.add (i * 4 + 2)) = some (.int .i64 x.fuse) ∧ w.cell? (a'.add (i * 4 + 3)) = some (.int .i64 x.n) := by
   intro i hlt
   have hwi := hwe i hlt
   obtain ⟨cs', hc, ht'⟩ := hi i (Nat.lt_of_lt_of_le hlt hl)
   rw [hC] at hc
   obtain ⟨ys, n', _, hy, hlen, hyl, hf⟩ := DataW.trod_struct he ht'
   obtain ⟨_, hcl, hat⟩ := World.cells?_some hc
   simp only [Prod.mk.injEq] at hy
   have hyl4 : ys.length = 4 := hyl
   match cs', hcl, hat, hf with
   | [c0, c1, c2, c3], _, hat, hf =>
    match ys, hyl4, hy, hf with
    | [y0, y1, y2, y3], _, hy, hf =>
     have g0 := hf 0 f0 rfl
     have g1 := hf 1 f1 rfl
     have g2 := hf 2 f2 rfl
     have g3 := hf 3 f3 rfl
     obtain ⟨o0, i0⟩ := Deep.hone_of hone 0 f0 rfl
     obtain ⟨o1, i1⟩ := Deep.hone_of hone 1 f1 rfl
     obtain ⟨o2, i2⟩ := Deep.hone_of hone 2 f2 rfl
     obtain ⟨o3, i3⟩ := Deep.hone_of hone 3 f3 rfl
     rw [o0, i0] at g0
     rw [o1, i1] at g1
     rw [o2, i2] at g2
     rw [o3, i3] at g3
     obtain ⟨b1, e1, z1⟩ := DataW.trod_bool h1 g1
     obtain ⟨s2, e2', z2, wf2⟩ := DataW.trod_int h2 g2
     obtain ⟨s3, e3, z3, wf3⟩ := DataW.trod_int h3 g3
     simp only [List.drop_zero, List.drop_succ_cons, List.take_succ_cons, List.take_zero, List.cons.injEq, and_true] at e1 e2' e3 g0
     subst e1; subst e2'; subst e3
     have hsl : ∃ A len cap, c0 = .slice A len cap := by
      rcases Deep.open_slice h0 g0 with ⟨hcs, _⟩ | ⟨a2, len2, cap2, _, _, _, _, hcs, _⟩
      ·
       simp only [List.cons.injEq, and_true] at hcs; exact ⟨_, _, _, hcs⟩
      ·
       simp only [List.cons.injEq, and_true] at hcs; exact ⟨_, _, _, hcs⟩
     obtain ⟨A, ln, cp, rfl⟩ := hsl
     refine ⟨⟨A, ln, cp, b1, s2, s3⟩, ⟨i64_lit wf2, i64_lit wf3, ?_⟩, ?_, ?_, ?_, ?_⟩
     ·
      refine chgs_open h0 he2 j0 j1 j2 honek hCk hBk (d := y0.1) (p := y0.2) g0 (fun n hn => hwi n ?_)
      rw [hy.1, DataW.weights, he]
      simp only [List.map_cons, DataW.weightsEach, List.mem_append]
      exact .inl hn
     ·
      rw [← Deep.add_add]; exact hat 0 (by omega)
     ·
      rw [← Deep.add_add]; exact hat 1 (by omega)
     ·
      rw [← Deep.add_add]; exact hat 2 (by omega)
     ·
      rw [← Deep.add_add]; exact hat 3 (by omega)
  have each' : ∀ i, ∃ x : ActS, i < len → (I64 x.fuse ∧ I64 x.n ∧ ChgsIn w x.a x.len x.cap) ∧ w.cell? (a'.add (i * 4 + 0)) = some (.slice x.a x.len x.cap) ∧ w.cell? (a'.add (i * 4 + 1)) = some (.bool x.crash) ∧ w.cell? (a'.add (i * 4 + 2)) = some (.int .i64 x.fuse) ∧ w.cell? (a'.add (i * 4 + 3)) = some (.int .i64 x.n) := by
   intro i
   by_cases hlt : i < len
   ·
    obtain ⟨c, hc⟩ := each i hlt; exact ⟨c, fun _ => hc⟩
   ·
    exact ⟨actZ, fun h => absurd h hlt⟩
  obtain ⟨F, hF⟩ := Classical.axiomOfChoice each'
  rw [hB] at hwl
  simp only [List.length_map, List.length_range, reachBytes] at hwl
  refine ⟨(List.range len).map F, by simp, by simpa using hl, by simp; omega, ?_, ?_⟩
  ·
   intro c hc
   simp only [List.mem_map, List.mem_range] at hc
   obtain ⟨i, hlt, rfl⟩ := hc
   exact (hF i hlt).1
  ·
   intro i hlt
   have hlt2 : i < len := by simpa using hlt
   obtain ⟨_, q0, q1, q2, q3⟩ := hF i hlt2
   have hg : ((List.range len).map F).getD i actZ = F i := by simp [List.getD_eq_getElem?_getD, List.getElem?_map, List.getElem?_range hlt2]
   rw [hg]
   exact ⟨a', rfl, q0, by rw [← add_field _ _ 1 (by omega)]; exact q1, by rw [← add_field _ _ 2 (by omega)]; exact q2, by rw [← add_field _ _ 3 (by omega)]; exact q3⟩
end Go.Proofs.YtpoblffgclmmlaaGreatDoor.X
end
section
set_option linter.unusedVariables false
set_option linter.unusedSimpArgs false
namespace Go.Proofs.YtpoblffgclmmlaaGreatDoor.X
open Go.RowKit Go.WideMaps Go.Maps Go.Proofs.YtpoblffgclmmlaaGreatDoorW.PrintWords Go.Proofs.YtpoblffgclmmlaaGreatDoorW.PrintLast Go.Proofs.YtpoblffgclmmlaaGreatDoorW.PrintMore Go.Proofs.YtpoblffgclmmlaaGreatDoor.Q

theorem byt_chg (c : S69) : Byt (chgL c) := by
 unfold chgL
 refine (((((byt_four _).append (byt_four _)).append (byt_bytesOf _)).append (byt_four _)).append ?_)
 split
 ·
  intro x hx; cases hx
 ·
  exact byt_bytesOf _
theorem byt_rec (l : List S69) : Byt (recL l) := by
 unfold recL
 refine (byt_four _).append fun x hx => ?_
 obtain ⟨c, _, hc⟩ := List.mem_flatMap.1 hx
 exact byt_chg c x hc
theorem do_byt {T : TapeS} {r : List S82} (h : Byt T.b) (l : List S69) : Byt (doR T r l).1.b := by
 unfold doR
 split
 ·
  exact h
 ·
  split
  ·
   exact h
  ·
   split
   ·
    unfold TapeS.renewR
    split
    ·
     exact h
    ·
     unfold TapeS.swap
     show Byt (if _ then _ else _)
     split
     ·
      exact byt_frame (byt_rec _)
     ·
      exact h
   ·
    have h1 : Byt (T.write (frameL (recL l))).1.b := h.append ((byt_frame (byt_rec l)).take _)
    unfold TapeS.append
    split
    ·
     exact h1
    ·
     exact h1
theorem do_len {T : TapeS} {r : List S82} (h : T.b.length ≤ 65536) (l : List S69) : (doR T r l).1.b.length ≤ 65536 := by
 unfold doR
 split
 ·
  exact h
 ·
  split
  ·
   exact h
  ·
   split
   ·
    unfold TapeS.renewR
    split
    ·
     exact h
    ·
     rename_i hn
     unfold TapeS.swap
     show List.length (if _ then _ else _) ≤ _
     split
     ·
      omega
     ·
      exact h
   ·
    have h1 : (T.write (frameL (recL l))).1.b.length ≤ 65536 := by
     show (T.b ++ (frameL (recL l)).take _).length ≤ _
     rw [List.length_append, List.length_take]; omega
    unfold TapeS.append
    split
    ·
     exact h1
    ·
     exact h1
theorem wgtC_rec (l : List S69) : wgtC (l.map normC) ≤ (recL l).length := by
 rw [← recL_norm l]
 unfold recL wgtC
 rw [List.length_append]
 induction l with
 | nil => simp
 | cons c l ih =>
  simp only [List.map_cons, List.sum_cons, List.flatMap_cons, List.length_append, four_len] at ih ⊢
  have hc : 12 + (normC c).f0.size + (normC c).f1.size ≤ (chgL (normC c)).length := by
   rw [chgL_len]
   obtain ⟨k, v, g⟩ := c
   cases g with
   | false => simp [normC]
   | true => show 12 + k.size + 0 ≤ 12 + k.size + 0; omega
  omega
theorem wgt_foldR (ls : List (List S69)) : wgt (foldR ls) ≤ (fr (ls.map recL)).length := by
 suffices h : ∀ m : List (List S69), wgt (foldR m.reverse) ≤ (fr (m.reverse.map recL)).length by
  have := h ls.reverse
  rwa [List.reverse_reverse] at this
 intro m
 induction m with
 | nil => exact Nat.le_refl _
 | cons l m ih =>
  rw [List.reverse_cons, foldR_snoc, fr_snoc, List.length_append, frameL_len]
  have h1 := wgt_turn (ris_foldR m.reverse) (l.map normC)
  rw [turnR_norm] at h1
  have h2 := wgtC_rec l
  omega
theorem wgt_len (r : List S82) : 12 * r.length ≤ wgt r := by
 unfold wgt
 induction r with
 | nil => simp
 | cons x r ih => simp only [List.length_cons, List.map_cons, List.sum_cons]; omega
theorem wgt_mem {r : List S82} {x : S82} (h : x ∈ r) : x.f0.size ≤ wgt r := by
 unfold wgt
 induction r with
 | nil => cases h
 | cons y r ih =>
  simp only [List.map_cons, List.sum_cons]
  rcases List.mem_cons.1 h with h | h
  ·
   rw [h]; omega
  ·
   have := ih h; omega
/-- What is true of a tape and rows behind i acts. -/
structure PlI (T : TapeS) (r : List S82) (i : Nat) : Prop where
 play : Play T r
 good : T.Good
 len : T.b.length ≤ 65536
 byt : Byt T.b
 wgt : wgt r ≤ 1000000 + 50000 * i
theorem PlI.new : PlI TapeS.new [] 0 := ⟨.inl ⟨[], Wel.new, rfl⟩, TapeS.new_good, Nat.zero_le _, fun x hx => (by cases hx), Nat.zero_le _⟩
theorem PlI.mono {T : TapeS} {r : List S82} {i j : Nat} (h : PlI T r i) (hj : i ≤ j) : PlI T r j := ⟨h.play, h.good, h.len, h.byt, by have := h.wgt; omega⟩
theorem PlI.do_ {T : TapeS} {r : List S82} {i : Nat} (h : PlI T r i) (l : List S69) (hl : wgtC l ≤ 50000) : PlI (doR T r l).1 (if (doR T r l).2 = 0 then turnR r l else r) (i + 1) := by
 have hg := do_good h.good (by have := h.len; omega) (r := r) l
 refine ⟨play_do h.play l, hg.1, do_len h.len l, do_byt h.byt l, ?_⟩
 have h1 := wgt_turn h.play.ris l
 have h2 := h.wgt
 split <;> omega
theorem PlI.fuse {T : TapeS} {r : List S82} {i : Nat} (h : PlI T r i) (n : Int) (hn : -1 ≤ n ∧ n < 9223372036854775808) : PlI ⟨T.b, T.sure, n, T.down⟩ r i :=
 ⟨h.play.fuse n, ⟨h.good.len, h.good.sure, hn⟩, h.len, h.byt, h.wgt⟩
theorem PlI.crash {T : TapeS} {r : List S82} {i : Nat} (h : PlI T r i) (keep : Int) :
  ∃ ls junk, Lay (T.crash keep) ls junk ∧ (T.crash keep).Good ∧ (T.crash keep).b.length ≤ 65536 ∧ Byt (T.crash keep).b ∧ PlI (T.crash keep).opened (foldR ls) i := by
 obtain ⟨ls, junk, hL⟩ := h.play.crash keep
 have hG := T.crash_good keep h.good
 have hr := keepL_range T.b.length T.sure keep h.good.sure
 have hle : (T.crash keep).b.length ≤ 65536 := by
  show (List.take _ _).length ≤ _
  rw [List.length_take]
  have := h.len
  omega
 have hby : Byt (T.crash keep).b := h.byt.take _
 have hsu : (T.crash keep).sure = ((T.crash keep).b.length : Int) := by
  show keepL _ _ _ = ((List.take _ _).length : Int)
  rw [List.length_take]
  have := h.good.sure
  omega
 have hfl : (fr (ls.map recL)).length ≤ (T.crash keep).b.length := by rw [hL.b, List.length_append]; omega
 have hop := hL.opened
 refine ⟨ls, junk, hL, hG, hle, hby, Play.opened hL (fun _ => hsu), ?_, ?_, ?_, ?_⟩
 ·
  rw [hop]
  refine ⟨by show (fr _).length ≤ _; omega, ?_, by show (-1 : Int) ≤ -1 ∧ (-1 : Int) < _; omega⟩
  show (0 : Int) ≤ (if junk = [] then (T.crash keep).sure else ((fr (ls.map recL)).length : Int)) ∧ (if junk = [] then (T.crash keep).sure else ((fr (ls.map recL)).length : Int)) ≤ ((fr (ls.map recL)).length : Int)
  split
  ·
   rename_i hj
   rw [hsu, hL.b, hj, List.append_nil]
   omega
  ·
   omega
 ·
  rw [hop]; show (fr _).length ≤ _; omega
 ·
  exact hby.take _
 ·
  have := wgt_foldR ls; omega
/-- A store and its tape, with the tape's own row. -/
def StV (base : Nat) (w : World) (s t : Nat) (v : Value) (T : TapeS) (r : List S82) (N : Nat) : Prop :=
 ∃ m n D, StoreAt w base s t m n D ∧ TpAt w base t v T ∧ Mir D r ∧ n ≤ N
theorem StV.sto {base s t N : Nat} {w : World} {v : Value} {T : TapeS} {r : List S82} (h : StV base w s t v T r N) : Sto base w s t T r N := by
 obtain ⟨m, n, D, h1, h2, h3, h4⟩ := h
 exact ⟨m, n, D, v, h1, h2, h3, h4⟩
theorem StV.mono {base s t N N' : Nat} {w : World} {v : Value} {T : TapeS} {r : List S82} (h : StV base w s t v T r N) (hN : N ≤ N') : StV base w s t v T r N' := by
 obtain ⟨m, n, D, h1, h2, h3, h4⟩ := h
 exact ⟨m, n, D, h1, h2, h3, Nat.le_trans h4 hN⟩
/-- The program's store and the reference's, each with its tape. -/
structure Two (base : Nat) (w : World) (s t : Nat) (v : Value) (T : TapeS) (r : List S82) (N : Nat) (sr tr : Nat) (u vr : Value) (T' : TapeS) (r' : List S82) : Prop where
 prg : StV base w s t v T r N
 tp : RTpAt w base tr u T'
 st : RStAt w base sr tr vr r'
 dis : ∀ k, v.ownBlock = some k → u.ownBlock ≠ some k
theorem Two.prg_step {base s t s' N N2 sr tr : Nat} {w w' : World} {v v' u vr : Value} {T T' T2 : TapeS} {r r' r2 : List S82} (h : Two base w s t v T r N sr tr u vr T' r')
  (hk : Tur w w' (fun k => k = s ∨ k = t ∨ v.ownBlock = some k)) (h' : StV base w' s' t v' T2 r2 N2) (ho : Rowd v v' w.heap.size) : Two base w' s' t v' T2 r2 N2 sr tr u vr T' r' := by
 obtain ⟨m, n, D, h1, h2, h3, h4⟩ := h.prg
 refine ⟨h', h.tp.kept hk ?_ ?_, h.st.tur hk ?_ ?_, ?_⟩
 ·
  rintro (e | e | e)
  ·
   exact blk_ne h.tp.blk h1.blk (by decide) e
  ·
   exact blk_ne h.tp.blk h2.blk (by decide) e
  ·
   exact h2.ne_cells h.tp.blk (by decide) e
 ·
  rintro k hu (e | e | e)
  ·
   obtain ⟨cells, hc⟩ := Kd.R_typed h.tp.row k hu
   exact blk_ne hc h1.blk (by decide) e
  ·
   obtain ⟨cells, hc⟩ := Kd.R_typed h.tp.row k hu
   exact blk_ne hc h2.blk (by decide) e
  ·
   exact h.dis k e hu
 ·
  rintro (e | e | e)
  ·
   exact blk_ne h.st.blk h1.blk (by decide) e
  ·
   exact blk_ne h.st.blk h2.blk (by decide) e
  ·
   exact h2.ne_cells h.st.blk (by decide) e
 ·
  rintro k hu (e | e | e)
  ·
   exact h.st.row_ne h1.blk (by decide) k hu e
  ·
   exact h.st.row_ne h2.blk (by decide) k hu e
  ·
   obtain ⟨cells, hc⟩ := (h2.row.typed k e).2
   exact h.st.row_ne hc (by decide) k hu rfl
 ·
  intro k hk' hu
  rcases ho k hk' with e | e
  ·
   exact h.dis k e hu
  ·
   have := Kd.R_lt h.tp.row k hu
   omega
theorem Two.ref_step {base s t N sr sr' tr : Nat} {w w' : World} {v u u' vr vr' : Value} {T T' T2 : TapeS} {r r' r2 : List S82} (h : Two base w s t v T r N sr tr u vr T' r')
  (hk : Tur w w' (fun k => k = tr ∨ k = sr)) (hT : RTpAt w' base tr u' T2) (hS : RStAt w' base sr' tr vr' r2) (ho : Rowd u u' w.heap.size) : Two base w' s t v T r N sr' tr u' vr' T2 r2 := by
 obtain ⟨m, n, D, h1, h2, h3, h4⟩ := h.prg
 refine ⟨⟨m, n, D, h1.kept hk ?_ ?_, TapeAt.kept h2 hk ?_ ?_, h3, h4⟩, hT, hS, ?_⟩
 ·
  rintro (e | e)
  ·
   exact blk_ne h1.blk h.tp.blk (by decide) e
  ·
   exact blk_ne h1.blk h.st.blk (by decide) e
 ·
  rintro (e | e)
  ·
   exact MapAt.ne h1.map h.tp.blk e
  ·
   exact MapAt.ne h1.map h.st.blk e
 ·
  rintro (e | e)
  ·
   exact blk_ne h2.blk h.tp.blk (by decide) e
  ·
   exact blk_ne h2.blk h.st.blk (by decide) e
 ·
  rintro k hv (e | e)
  ·
   subst e; exact h2.ne_cells h.tp.blk (by decide) hv
  ·
   subst e; exact h2.ne_cells h.st.blk (by decide) hv
 ·
  intro k hv hu
  rcases ho k hu with e | e
  ·
   exact h.dis k hv e
  ·
   obtain ⟨cells, hc⟩ := (h2.row.typed k hv).2
   have := blk_lt hc
   omega
theorem Two.below {base s t N sr tr : Nat} {w w' : World} {v u vr : Value} {T T' : TapeS} {r r' : List S82} (h : Two base w s t v T r N sr tr u vr T' r') (hb : Below w.heap.size w w') : Two base w' s t v T r N sr tr u vr T' r' :=
 h.ref_step (Tur.of_below hb _) (h.tp.below hb) (h.st.below hb) (Rowd.refl _ _)
theorem Two.mono {base s t N N' sr tr : Nat} {w : World} {v u vr : Value} {T T' : TapeS} {r r' : List S82} (h : Two base w s t v T r N sr tr u vr T' r') (hN : N ≤ N') : Two base w s t v T r N' sr tr u vr T' r' := ⟨h.prg.mono hN, h.tp, h.st, h.dis⟩
/-- The reference's fuse is set. -/
theorem Two.rfuse {base s t N sr tr : Nat} {w : World} {v u vr : Value} {T T' : TapeS} {r r' : List S82} (h : Two base w s t v T r N sr tr u vr T' r') (n : Int) : Two base (w.setCell ⟨tr, 2, none⟩ (.int .i64 n)) s t v T r N sr tr u vr ⟨T'.b, T'.sure, n, T'.down⟩ r' := by
 have hk : Tur w (w.setCell ⟨tr, 2, none⟩ (.int .i64 n)) (fun k => k = tr) := (Tur.refl w _).setCell (p := ⟨tr, 2, none⟩) (S := fun k => k = tr) (.inl rfl) _
 refine h.ref_step (hk.mono fun k e => .inl e) ⟨blk_put h.tp.blk 2 (.int .i64 n) rfl, BytR.tur h.tp.row hk h.tp.ne, h.tp.ge⟩ (h.st.tur hk ?_ ?_) (Rowd.refl _ _)
 ·
  exact fun e => blk_ne h.st.blk h.tp.blk (by decide) e
 ·
  exact fun k hu e => h.st.row_ne h.tp.blk (by decide) k hu e
theorem Two.prg_below {s t N : Nat} {w0 w w' : World} {v : Value} {T : TapeS} {r : List S82} (h : StV w0.heap.size w s t v T r N) (hB : Below w0.heap.size w0 w) (hk : Tur w w' (fun k => k = s ∨ k = t ∨ v.ownBlock = some k)) : Below w0.heap.size w0 w' := by
 obtain ⟨m, n, D, h1, h2, h3, h4⟩ := h
 refine tur_below hB hk ?_
 rintro k (e | e | e)
 ·
  exact e ▸ h1.ge
 ·
  exact e ▸ h2.ge
 ·
  exact (h2.row.typed k e).1
/-- The blocks of acts stay. -/
def Acs (w w' : World) : Prop := ∀ (k : Nat) (cs : Array Value), w.heap[k]? = some (Obj.cells cs 37 (0, 0)) → w'.heap[k]? = some (Obj.cells cs 37 (0, 0))
theorem Acs.below {w w' : World} (h : Below w.heap.size w w') : Acs w w' := fun k cs hk => blk_below hk h
theorem Acs.trans {w w1 w2 : World} (h : Acs w w1) (h' : Acs w1 w2) : Acs w w2 := fun k cs hk => h' k cs (h k cs hk)
theorem Two.prg_acs {base s t N : Nat} {w w' : World} {v : Value} {T : TapeS} {r : List S82} (h : StV base w s t v T r N) (hk : Tur w w' (fun k => k = s ∨ k = t ∨ v.ownBlock = some k)) : Acs w w' := by
 obtain ⟨m, n, D, h1, h2, h3, h4⟩ := h
 intro k cs hc
 refine blk_kept hc hk.kept ?_
 rintro (e | e | e)
 ·
  exact blk_ne hc h1.blk (by decide) e
 ·
  exact blk_ne hc h2.blk (by decide) e
 ·
  exact h2.ne_cells hc (by decide) e
theorem Two.ref_acs {base s t N sr tr : Nat} {w w' : World} {v u vr : Value} {T T' : TapeS} {r r' : List S82} (h : Two base w s t v T r N sr tr u vr T' r') (hk : Tur w w' (fun k => k = tr ∨ k = sr)) : Acs w w' := by
 intro k cs hc
 refine blk_kept hc hk.kept ?_
 rintro (e | e)
 ·
  exact blk_ne hc h.tp.blk (by decide) e
 ·
  exact blk_ne hc h.st.blk (by decide) e
theorem pdo_says {s t N sr tr : Nat} {v u vr : Value} {T T' : TapeS} {r r' : List S82} {w0 w : World} (h : Two w0.heap.size w s t v T r N sr tr u vr T' r') (A : Option Addr) (c : Nat) (l : List S69) (hGL : GL w0) (hB : Below w0.heap.size w0 w) (hG : T.Good) (hC : Kd.C k69 w A l.length l) (hcl : l.length ≤ c)
  (hn : N + l.length ≤ 3400000000000) (hl : 4 + wgt r + wgtC l ≤ 80000000) (hTl : T.b.length ≤ 1000000) (hx : ∀ x ∈ l, x.f0.size ≤ maxLen ∧ x.f1.size ≤ maxLen) :
  Calls Tryz.prog 25 #[.pointer (some ⟨s, 0, none⟩), .slice A l.length c] w fun e w' =>
   e = .returned (.int .i64 (doR T r l).2) ∧ Below w0.heap.size w0 w' ∧ Acs w w' ∧ ∃ v', Two w0.heap.size w' s t v' (doR T r l).1 (if (doR T r l).2 = 0 then turnR r l else r) (N + l.length) sr tr u vr T' r' := by
 obtain ⟨m, n, D, h1, h2, h3, h4⟩ := h.prg
 have hwl : l.length ≤ wgtC l := by rw [wgtC_small]; omega
 have hrl : (recL l).length ≤ 4 + wgtC l := by rw [wgtC_small]; have := recL_small l; omega
 have hd := do_says w0.heap.size s t m n D v T A c l w0 w hGL hB h1 h2 hG hC hcl (by omega) (by omega) (by omega) hTl hx (by
  have := (h3.turn l).recs
  have := wgt_turn h3.ris l
  omega) hB.size
 refine hd.mono ?_
 rintro e w' ⟨he, hk, m', n', v', hS, hn', hT, hv⟩
 rw [doR_eq h3] at he hT
 refine ⟨he, Two.prg_below h.prg hB hk, Two.prg_acs h.prg hk, v', h.prg_step hk ⟨m', n', _, hS, hT, ?_, by omega⟩ hv⟩
 unfold doD
 rw [doR_eq h3]
 split
 ·
  exact h3.turn l
 ·
  exact h3
theorem pfuse_says {s t N sr tr : Nat} {v u vr : Value} {T T' : TapeS} {r r' : List S82} {w0 w : World} (h : Two w0.heap.size w s t v T r N sr tr u vr T' r') (hB : Below w0.heap.size w0 w) (n : Int) :
  Calls Tryz.prog 24 #[.pointer (some ⟨t, 0, none⟩), .int .i64 n] w fun e w' =>
   e = .returned (.tuple #[]) ∧ Below w0.heap.size w0 w' ∧ Acs w w' ∧ Two w0.heap.size w' s t v ⟨T.b, T.sure, max n 0, T.down⟩ r N sr tr u vr T' r' := by
 obtain ⟨m, n', D, h1, h2, h3, h4⟩ := h.prg
 refine (tfuse_says w0.heap.size t v T n w h2).mono ?_
 rintro e w' ⟨he, hk, hT⟩
 have hst : s ≠ t := blk_ne h1.blk h2.blk (by decide)
 have hk' : Tur w w' (fun k => k = s ∨ k = t ∨ v.ownBlock = some k) := hk.mono fun k e => .inr (.inl e)
 exact ⟨he, Two.prg_below h.prg hB hk', Two.prg_acs h.prg hk', h.prg_step hk' ⟨m, n', D, h1.kept hk hst (fun e => MapAt.ne h1.map h2.blk e), hT, h3, h4⟩ (Rowd.refl _ _)⟩
theorem pcrash_says {s t N sr tr : Nat} {v u vr : Value} {T T' : TapeS} {r r' : List S82} {w0 w : World} (h : Two w0.heap.size w s t v T r N sr tr u vr T' r') (hB : Below w0.heap.size w0 w) (keep : Int) (hG : T.Good) (hkp : -9223372036854775808 ≤ keep ∧ keep < 9223372036854775808) :
  Calls Tryz.prog 22 #[.pointer (some ⟨t, 0, none⟩), .int .i64 keep] w fun e w' =>
   e = .returned (.tuple #[]) ∧ Below w0.heap.size w0 w' ∧ Acs w w' ∧ ∃ v', Two w0.heap.size w' s t v' (T.crash keep) r N sr tr u vr T' r' := by
 obtain ⟨m, n', D, h1, h2, h3, h4⟩ := h.prg
 refine (tcrash_says w0.heap.size t v T keep w h2 hG hkp).mono ?_
 rintro e w' ⟨he, hk, v', hT, ho⟩
 have hst : s ≠ t := blk_ne h1.blk h2.blk (by decide)
 have hk' : Tur w w' (fun k => k = s ∨ k = t ∨ v.ownBlock = some k) := hk.mono fun k e => .inr (.inl e)
 exact ⟨he, Two.prg_below h.prg hB hk', Two.prg_acs h.prg hk', v', h.prg_step hk' ⟨m, n', D, h1.kept hk hst (fun e => MapAt.ne h1.map h2.blk e), hT, h3, h4⟩ ho⟩
theorem popen_says {s t N sr tr : Nat} {v u vr : Value} {T T' : TapeS} {r r' : List S82} {w0 w : World} (h : Two w0.heap.size w s t v T r N sr tr u vr T' r') (hGL : GL w0) (hB : Below w0.heap.size w0 w) {ls : List (List S69)} {junk : List Int} (hL : Lay T ls junk) (hf : T.fuse = -1) (hd : T.down = false) (hG : T.Good) :
  Calls Tryz.prog 19 #[.pointer (some ⟨t, 0, none⟩)] w fun e w' => Below w0.heap.size w0 w' ∧ Acs w w' ∧
   ∃ s' v', e = .returned (.tuple #[.pointer (some ⟨s', 0, none⟩), .int .i64 0]) ∧ Two w0.heap.size w' s' t v' T.opened (foldR ls) 3300000000000 sr tr u vr T' r' := by
 obtain ⟨m, n', D, h1, h2, h3, h4⟩ := h.prg
 refine (topen_ok t v T hf hd _ hL.opens w0 w hGL hB h2 hG).mono ?_
 rintro e w' ⟨hk, s', m', n2, v', g1, g2, g3, g4, g5⟩
 have hk' : Tur w w' (fun k => k = s ∨ k = t ∨ v.ownBlock = some k) := hk.mono fun k e => .inr (.inl e)
 exact ⟨Two.prg_below h.prg hB hk', Two.prg_acs h.prg hk', s', v', g1, h.prg_step hk' ⟨m', n2, _, g2.lower hB.size, g4, mir_fold ls Mir.empty, g3⟩ g5⟩
theorem Two.ref_below {s t N sr tr : Nat} {w0 w w' : World} {v u vr : Value} {T T' : TapeS} {r r' : List S82} (h : Two w0.heap.size w s t v T r N sr tr u vr T' r') (hsr : w0.heap.size ≤ sr) (hB : Below w0.heap.size w0 w) (hk : Tur w w' (fun k => k = tr ∨ k = sr)) : Below w0.heap.size w0 w' := by
 refine tur_below hB hk ?_
 rintro k (e | e)
 ·
  exact e ▸ h.tp.ge
 ·
  exact e ▸ hsr
theorem qdo_says {s t N sr tr : Nat} {v u vr : Value} {T T' : TapeS} {r r' : List S82} {w0 w : World} (h : Two w0.heap.size w s t v T r N sr tr u vr T' r') (hsr : w0.heap.size ≤ sr) (A : Option Addr) (c : Nat) (l : List S69) (hB : Below w0.heap.size w0 w) (hG : T'.Good) (hC : Kd.C k69 w A l.length l) (hcl : l.length ≤ c)
  (hr : Ris r') (hl : 4 + wgt r' + wgtC l ≤ 8000000) (hTl : T'.b.length ≤ 1000000) :
  Calls Tryz.prog 26 #[.pointer (some ⟨sr, 0, none⟩), .slice A l.length c] w fun e w' =>
   e = .returned (.int .i64 (doR T' r' l).2) ∧ Below w0.heap.size w0 w' ∧ Acs w w' ∧ ∃ u' vr', Two w0.heap.size w' s t v T r N sr tr u' vr' (doR T' r' l).1 (if (doR T' r' l).2 = 0 then turnR r' l else r') := by
 have hwl : 12 * l.length ≤ wgtC l := by rw [wgtC_small]; omega
 have hrl : (recL l).length ≤ 4 + wgtC l := by rw [wgtC_small]; have := recL_small l; omega
 have hwr := wgt_len r'
 have hwt := wgt_turn hr l
 refine (rdo_says w0.heap.size sr tr u vr T' r' A c l w h.tp h.st hG.fuse hC hcl hr (by omega) hTl hB.size (by omega) (by rw [recAll_len]; omega)).mono ?_
 rintro e w' ⟨he, hk, u', vr', hT, hS, ho⟩
 exact ⟨he, Two.ref_below h hsr hB hk, h.ref_acs hk, u', vr', h.ref_step hk hT hS ho⟩
theorem qcrash_says {s t N sr tr : Nat} {v u vr : Value} {T T' : TapeS} {r r' : List S82} {w0 w : World} (h : Two w0.heap.size w s t v T r N sr tr u vr T' r') (hsr : w0.heap.size ≤ sr) (hB : Below w0.heap.size w0 w) (keep : Int) (hG : T'.Good) (hkp : -9223372036854775808 ≤ keep ∧ keep < 9223372036854775808) :
  Calls Tryz.prog 23 #[.pointer (some ⟨tr, 0, none⟩), .int .i64 keep] w fun e w' =>
   e = .returned (.tuple #[]) ∧ Below w0.heap.size w0 w' ∧ Acs w w' ∧ ∃ u', Two w0.heap.size w' s t v T r N sr tr u' vr (T'.crash keep) r' := by
 refine (rcrash_says w0.heap.size tr u T' keep w h.tp hkp hG.sure (by have := hG.len; omega) hB.size).mono ?_
 rintro e w' ⟨he, hk, u', hT, hn⟩
 have hk' : Tur w w' (fun k => k = tr ∨ k = sr) := hk.mono fun k e => .inl e
 refine ⟨he, Two.ref_below h hsr hB hk', h.ref_acs hk', u', h.ref_step hk' hT (h.st.tur hk ?_ ?_) (fun k hu => .inr (hn k hu))⟩
 ·
  exact fun e => blk_ne h.st.blk h.tp.blk (by decide) e
 ·
  exact fun k hu e => h.st.row_ne h.tp.blk (by decide) k hu e
theorem openR_recs (ls : List (List S69)) (r : List S82) (hl : ∀ l ∈ ls, l.length < 4294967296 ∧ ∀ c ∈ l, c.f0.size < 4294967296 ∧ c.f1.size < 4294967296) : openR (ls.map recL) r = some (ls.foldl turnR r) := by
 induction ls generalizing r with
 | nil => rfl
 | cons l ls ih =>
  have h := hl l (List.mem_cons_self ..)
  rw [List.map_cons, openR, chOk_rec l h.1 h.2, if_pos rfl, chL_rec l h.1 h.2, turnR_norm, ih _ (fun x hx => hl x (List.mem_cons_of_mem _ hx))]
  rfl
theorem Lay.opensR {T : TapeS} {ls : List (List S69)} {junk : List Int} (h : Lay T ls junk) : openR (splitL T.b).1 [] = some (foldR ls) := by
 rw [h.split]
 have e : ls.map recL = (ls.map fun l => l.map normC).map recL := by rw [List.map_map]; exact List.map_congr_left fun l _ => (recL_norm l).symm
 show openR (ls.map recL) _ = _
 rw [e, openR_recs _ _ ?_]
 ·
  congr 1
  rw [List.foldl_map]
  show List.foldl _ _ _ = ls.foldl turnR []
  congr 1
  funext r l; exact turnR_norm r l
 ·
  intro l hl
  obtain ⟨x, hx, rfl⟩ := List.mem_map.1 hl
  have h1 := h.sm x hx
  have h2 := recs_len (l := x)
  exact ⟨by rw [List.length_map]; omega, norm_small h1⟩
theorem Lay.few {T : TapeS} {ls : List (List S69)} {junk : List Int} (h : Lay T ls junk) : 8 * (splitL T.b).1.length ≤ T.b.length := by
 rw [h.split]
 have h1 := (fr_len (ls.map recL) (by intro a ha; obtain ⟨l, hl, rfl⟩ := List.mem_map.1 ha; exact h.sm l hl)).1
 have h2 : (fr (ls.map recL)).length ≤ T.b.length := by rw [h.b, List.length_append]; omega
 exact Nat.le_trans h1 h2
theorem qopen_says {s t N sr tr : Nat} {v u vr : Value} {T T' : TapeS} {r r' : List S82} {w0 w : World} (h : Two w0.heap.size w s t v T r N sr tr u vr T' r') (hsr : w0.heap.size ≤ sr) (hB : Below w0.heap.size w0 w) {ls : List (List S69)} {junk : List Int} (hL : Lay T' ls junk) (hf : T'.fuse = -1) (hd : T'.down = false) (hG : T'.Good) (hb : Byt T'.b) (hTl : T'.b.length ≤ 200000) :
  Calls Tryz.prog 20 #[.pointer (some ⟨tr, 0, none⟩)] w fun e w' => Below w0.heap.size w0 w' ∧ Acs w w' ∧
   ∃ sr' u' vr', w0.heap.size ≤ sr' ∧ e = .returned (.tuple #[.pointer (some ⟨sr', 0, none⟩), .int .i64 0]) ∧ Two w0.heap.size w' s t v T r N sr' tr u' vr' T'.opened (foldR ls) := by
 have hfw := hL.few
 refine (ropen_says w0.heap.size tr u T' w h.tp hf hd hb (by omega) (by omega) hB.size).mono ?_
 rintro e w' (⟨h1, _⟩ | ⟨q, sr', vr', u', h1, he, hS, hT, hk, ho, hs'⟩)
 ·
  rw [hL.opensR] at h1; cases h1
 ·
  rw [hL.opensR] at h1
  obtain rfl := Option.some.inj h1
  have hk' : Tur w w' (fun k => k = tr ∨ k = sr) := hk.mono fun k e => .inl e
  have hge : w0.heap.size ≤ sr' := Nat.le_trans hB.size hs'
  exact ⟨Two.ref_below h hsr hB hk', h.ref_acs hk', sr', u', vr', hge, he, h.ref_step hk' hT ⟨hS.blk, Kd.R_lower hS.rows hB.size⟩ ho⟩
end Go.Proofs.YtpoblffgclmmlaaGreatDoor.X
end
section
set_option linter.unusedVariables false
set_option linter.unusedSimpArgs false
namespace Go.Proofs.YtpoblffgclmmlaaGreatDoor.X
open Go.RowKit Go.WideMaps Go.Maps Go.Proofs.YtpoblffgclmmlaaGreatDoorW.PrintWords Go.Proofs.YtpoblffgclmmlaaGreatDoorW.PrintLast Go.Proofs.YtpoblffgclmmlaaGreatDoorW.PrintMore Go.Proofs.YtpoblffgclmmlaaGreatDoor.Q

theorem ybyt_says (base s t N : Nat) (T : TapeS) (r : List S82) (w : World) (h : Sto base w s t T r N) (hl : T.b.length ≤ 70368744177664) :
  Calls Tryz.prog 28 #[.pointer (some ⟨t, 0, none⟩)] w fun e w' => ∃ v, e = .returned v ∧ Kd.R (Kd.int .u8) 5 w' w.heap.size (fun _ => True) v T.b ∧ Below w.heap.size w w' := by
 obtain ⟨m, n, D, v, h1, h2, h3, h4⟩ := h
 exact bytes_says base t v T.b T.sure T.fuse T.down w h2 hl
theorem two_new (w0 w : World) (hGL : GL w0) (hB : Below w0.heap.size w0 w) (t tr : Nat) (hT : TpAt w w0.heap.size t (.slice none 0 0) TapeS.new) (hR : RTpAt w w0.heap.size tr (.slice none 0 0) TapeS.new) :
  Calls Tryz.prog 19 #[.pointer (some ⟨t, 0, none⟩)] w fun e w' => Below w0.heap.size w0 w' ∧ ∃ s v, e = .returned (.tuple #[.pointer (some ⟨s, 0, none⟩), .int .i64 0]) ∧ StV w0.heap.size w' s t v TapeS.new [] 3300000000000 ∧ RTpAt w' w0.heap.size tr (.slice none 0 0) TapeS.new := by
 refine (topen_ok t _ TapeS.new rfl rfl (.map []) rfl w0 w hGL hB hT TapeS.new_good).mono ?_
 rintro e w' ⟨hk, s, m, n, v', h1, h2, h3, h4, h5⟩
 refine ⟨tur_below hB hk (fun k h => h ▸ hT.ge), s, v', h1, ⟨m, n, _, h2.lower hB.size, h4, Mir.empty, h3⟩, hR.kept hk ?_ ?_⟩
 ·
  exact fun e => blk_ne hR.blk hT.blk (by decide) e
 ·
  intro k hk; cases hk
theorem two_ref (w0 w : World) (hB : Below w0.heap.size w0 w) (s t tr N : Nat) (v : Value) (hS : StV w0.heap.size w s t v TapeS.new [] N) (hR : RTpAt w w0.heap.size tr (.slice none 0 0) TapeS.new) :
  Calls Tryz.prog 20 #[.pointer (some ⟨tr, 0, none⟩)] w fun e w' => Below w0.heap.size w0 w' ∧ ∃ sr u vr, w0.heap.size ≤ sr ∧ e = .returned (.tuple #[.pointer (some ⟨sr, 0, none⟩), .int .i64 0]) ∧ Two w0.heap.size w' s t v TapeS.new [] N sr tr u vr TapeS.new [] := by
 have hL : Lay TapeS.new [] [] := Lay.new
 refine (ropen_says w0.heap.size tr _ TapeS.new w hR rfl rfl (fun x hx => by cases hx) (by decide) (by decide) hB.size).mono ?_
 rintro e w' (⟨h1, _⟩ | ⟨q, sr, vr, u', h1, he, hS', hT, hk, ho, hs'⟩)
 ·
  rw [hL.opensR] at h1; cases h1
 ·
  rw [hL.opensR] at h1
  obtain rfl := Option.some.inj h1
  obtain ⟨m, n, D, h1, h2, h3, h4⟩ := hS
  refine ⟨tur_below hB hk (fun k e => e ▸ hR.ge), sr, u', vr, Nat.le_trans hB.size hs', he, ⟨⟨m, n, D, h1.kept hk ?_ ?_, TapeAt.kept h2 hk ?_ ?_, h3, h4⟩, hT, ⟨hS'.blk, Kd.R_lower hS'.rows hB.size⟩, ?_⟩⟩
  ·
   exact fun e => blk_ne h1.blk hR.blk (by decide) e
  ·
   exact fun e => MapAt.ne h1.map hR.blk e
  ·
   exact fun e => blk_ne h2.blk hR.blk (by decide) e
  ·
   intro k hv e; subst e; exact h2.ne_cells hR.blk (by decide) hv
  ·
   intro k hv hu
   rcases ho k hu with e | e
   ·
    cases e
   ·
    obtain ⟨cells, hc⟩ := (h2.row.typed k hv).2
    have := blk_lt hc
    omega
theorem psur_says (base s t N : Nat) (T : TapeS) (r : List S82) (w : World) (h : Sto base w s t T r N) :
  Calls Tryz.prog 29 #[.pointer (some ⟨t, 0, none⟩)] w fun e w' => e = .returned (.int .i64 T.sure) ∧ w' = w := by
 obtain ⟨m, n, D, v, h1, h2, h3, h4⟩ := h
 have c1 := blk_cell h2.blk 1
 go_enter Tryz.func29, Tryz.ntmps29
 go_wp2_with fail
 go_ret
 exact ⟨rfl, rfl⟩
/-- Between two acts. -/
def PlyI (w : World) (t tr i : Nat) (v5 v7 : Value) (wr : World) : Prop :=
 ∃ s v T r N sr u vr, v5 = .pointer (some ⟨s, 0, none⟩) ∧ v7 = .pointer (some ⟨sr, 0, none⟩) ∧ Two w.heap.size wr s t v T r N sr tr u vr T r ∧ PlI T r i ∧ N ≤ 3300000000000 + 100 * i ∧ w.heap.size ≤ sr ∧ Below w.heap.size w wr
set_option maxHeartbeats 16000000 in
set_option maxRecDepth 100000 in
theorem StorePlays_walk (w : World) (A : Option Addr) (c : Nat) (l : List ActS) (hc : l.length ≤ c) (hl : l.length ≤ 4000000000000) (hx : ∀ x ∈ l, I64 x.fuse ∧ I64 x.n ∧ ChgsIn w x.a x.len x.cap) (hat : ∀ i, i < l.length → ∃ ad, A = some ad ∧ ActAt w (ad.add (i * 4)) (l.getD i actZ)) (hGL : GL w) :
  Calls Tryz.prog 3 #[.slice A l.length c] w fun e w' => e = .returned (.bool true) ∧ Below w.heap.size w w' := by
 have hans := fun w2 (hb : Below w.heap.size w w2) => answers_says w2 (hGL.below hb)
 by_cases hbig : 30 < l.length
 ·
  have d1 : decide ((30 : Int) < (l.length : Int)) = true := decide_eq_true (by omega)
  have d1' : decide (30 < l.length) = true := decide_eq_true hbig
  clear hbig
  go_enter Tryz.func3, Tryz.ntmps3
  go_wp2_with fail
  refine (hans w (Below.refl _ w)).mono ?_
  rintro e w2 ⟨rfl, hb2⟩
  go_wp2_with fail
  go_ret
  exact ⟨rfl, hb2⟩
 ·
  have d1 : decide ((30 : Int) < (l.length : Int)) = false := decide_eq_false (by omega)
  have d1' : decide (30 < l.length) = false := decide_eq_false hbig
  have Hl := Lib.hid (show l.length ≤ 30 by omega)
  clear hbig
  go_enter Tryz.func3, Tryz.ntmps3
  go_wp2_with fail
  refine (tnew_says w).mono ?_
  rintro e w1 ⟨t, rfl, hT1, hb1⟩
  go_wp2_with fail
  refine (rnew_says w1).mono ?_
  rintro e w2 ⟨tr, rfl, hR2, hb2⟩
  have hB2 : Below w.heap.size w w2 := below_then hb1 hb1.size hb2
  have hT2 : TpAt w2 w.heap.size t (.slice none 0 0) TapeS.new := TapeAt.kept hT1 (Tur.of_below hb2 (fun _ => False)) (fun h => h) (fun _ _ h => h)
  have hR2' : RTpAt w2 w.heap.size tr (.slice none 0 0) TapeS.new := ⟨hR2.blk, Kd.R_lower hR2.row hb1.size, Nat.le_trans hb1.size hR2.ge⟩
  go_wp2_with fail
  refine (two_new w w2 hGL hB2 t tr hT2 hR2').mono ?_
  rintro e w3 ⟨hB3, s0, v0, rfl, hS3, hR3⟩
  go_wp2_with fail
  refine (two_ref w w3 hB3 s0 t tr _ v0 hS3 hR3).mono ?_
  rintro e w4 ⟨hB4, sr0, u0, vr0, hsr0, rfl, hTw⟩
  clear hT1 hb1 hR2 hb2 hB2 hT2 hR2' hB3 hS3 hR3
  go_wp2_with fail
  go_loopw [5, 7, 9] (fun v5 v7 v9 wr => ∃ i : Nat, v9 = .int .i64 i ∧ i ≤ l.length ∧ PlyI w t tr i v5 v7 wr) (fun _ _ v9 _ => l.length - (intOf v9).toNat)
  case atStart => exact ⟨0, rfl, Nat.zero_le _, s0, v0, _, _, _, sr0, u0, vr0, rfl, rfl, hTw, PlI.new, Nat.le_refl _, hsr0, hB4⟩
  case round =>
   clear hTw hB4 hsr0
   obtain ⟨i, rfl, hi, hI⟩ := hrel
   by_cases hlt : i < l.length
   ·
    have d2 : decide ((i : Int) < (l.length : Int)) = true := decide_eq_true (by omega)
    have d2' : decide (i < l.length) = true := decide_eq_true hlt
    obtain ⟨ad, rfl, hx0⟩ := hat i hlt
    have hmem : l.getD i actZ ∈ l := by simp [List.getD_eq_getElem?_getD, List.getElem?_eq_getElem hlt]
    obtain ⟨hf64, hn64, hch⟩ := hx _ hmem
    have i3 : ((i : Int) < (l.length : Int)) = True := eq_true (by omega)
    have i0 : (0 ≤ (i : Int)) = True := eq_true (by omega)
    have i4 : (i < l.length) = True := eq_true hlt
    have hi30 : i ≤ 30 := by have := Hl.out; omega
    have e1 : IntKind.i64.wrap ((i : Int) + 1) = (i : Int) + 1 := IntWalk.i64_in _ (by omega)
    have Hi := Lib.hid (show i + 1 ≤ l.length by omega)
    have Hi30 := Lib.hid hi30
    obtain ⟨s, v, T, r, N, sr, u, vr, rfl, rfl, hTw, hP, hN, hsr, hB⟩ := hI
    have HN := Lib.hid hN
    generalize l.getD i actZ = x at *
    obtain ⟨xa, xlen, xcap, xc, xf, xn⟩ := x
    simp only at hf64 hn64 hch
    obtain ⟨p0, p1, p2, p3⟩ := hx0
    obtain ⟨cl, rfl, hCl, hcc, hcb, hxs⟩ := hch
    have q0 := cellL hB p0
    have q1 := cellL hB p1
    have q2 := cellL hB p2
    have q3 := cellL hB p3
    simp only at q0 q1 q2 q3
    clear p0 p1 p2 p3 hlt hi hmem hx hat hN hi30
    obtain ⟨b, hb, hsm⟩ := small_says xa xcap cl w hCl hcc hcb hxs
    go_upto_region 10 with (fail)
    have hab := heap_alloc_new wr (.cells #[.slice xa cl.length xcap, .bool xc, .int .i64 xf, .int .i64 xn] 37)
    have hbA : Below wr.heap.size wr (wr.alloc (.cells #[.slice xa cl.length xcap, .bool xc, .int .i64 xf, .int .i64 xn] 37)) := (Below.refl _ wr).alloc (Nat.le_refl _) _
    generalize wr.alloc (.cells #[.slice xa cl.length xcap, .bool xc, .int .i64 xf, .int .i64 xn] 37) = w5 at hab hbA ⊢
    have hT5 := hTw.below hbA
    have hB5 := below_then hB hB.size hbA
    clear hbA q0 q1 q2 q3 hTw hB
    generalize wr.heap.size = ab at hab ⊢
    have p0 : w5.cell? ⟨ab, 0, none⟩ = some (.slice xa cl.length xcap) := (blk_cell hab 0).trans rfl
    have hsm := hsm w5 (Kd.C_below hCl hB5)
    go_wp2_with fail
    refine hsm.mono ?_
    rintro e w6 ⟨rfl, hb6⟩
    have hab6 := blk_below hab hb6
    have hT6 := hT5.below hb6
    have hB6 := below_then hB5 hB5.size hb6
    clear hab p0 hsm hT5 hB5 hb6
    cases b with
    | false =>
     go_wp2_with fail
     refine ⟨⟨i + 1, rfl, Hi.out, s, v, T, r, N, sr, u, vr, rfl, rfl, hT6, hP.mono (Nat.le_succ _), ?_, hsr, hB6⟩, ?_⟩
     ·
      have := HN.out; omega
     ·
      have := Hi.out; simp only [intOf]; omega
    | true =>
     obtain ⟨hlen, hsz⟩ := hb rfl
     have hwc := wgtC_small cl
     have Hlen := Lib.hid hlen
     have Hwc := Lib.hid (show wgtC cl ≤ 42000 by omega)
     clear hb hlen hsz hwc
     have hC6 := Kd.C_below hCl hB6
     have p1 : w6.cell? ⟨ab, 1, none⟩ = some (.bool xc) := (blk_cell hab6 1).trans rfl
     go_upto_if 46 with (fail)
     go_cut [5, 7] (fun v5 v7 wc => PlyI w t tr (i + 1) v5 v7 wc)
     case first =>
      cases xc with
      | true =>
       obtain ⟨ls, junk, hL, hGc, hlc, hbc, hPo⟩ := hP.crash xn
       have p3 : w6.cell? ⟨ab, 3, none⟩ = some (.int .i64 xn) := (blk_cell hab6 3).trans rfl
       have hpc := pcrash_says hT6 hB6 xn hP.good hn64
       go_wp2_with fail
       refine hpc.mono ?_
       rintro e w7 ⟨rfl, hB7, hA7, va, hT7⟩
       have hab7 := hA7 _ _ hab6
       clear p1 p3 hpc
       have p3 : w7.cell? ⟨ab, 3, none⟩ = some (.int .i64 xn) := (blk_cell hab7 3).trans rfl
       have hqc := qcrash_says hT7 hsr hB7 xn hP.good hn64
       go_wp2_with fail
       refine hqc.mono ?_
       rintro e w8 ⟨rfl, hB8, hA8, ua, hT8⟩
       clear p3 hqc
       have hpo := popen_says hT8 hGL hB8 hL rfl rfl hGc
       go_wp2_with fail
       refine hpo.mono ?_
       rintro e w9 ⟨hB9, hA9, s9, vb, rfl, hT9⟩
       clear hpo
       have hqo := qopen_says hT9 hsr hB9 hL rfl rfl hGc hbc (by omega)
       go_wp2_with fail
       refine hqo.mono ?_
       rintro e w10 ⟨hB10, hA10, sr10, ub, vrb, hsr10, rfl, hT10⟩
       clear hqo
       go_wp2_with fail
       go_meet
       case rel => exact ⟨s9, vb, _, _, _, sr10, ub, vrb, rfl, rfl, hT10, hPo.mono (Nat.le_succ _), by omega, hsr10, hB10⟩
      | false =>
       have p2 : w6.cell? ⟨ab, 2, none⟩ = some (.int .i64 xf) := (blk_cell hab6 2).trans rfl
       by_cases hfz : 0 < xf
       ·
        have d3 : decide ((0 : Int) < xf) = true := decide_eq_true hfz
        have hpf := pfuse_says hT6 hB6 xf
        rw [show max xf 0 = xf by omega] at hpf
        go_wp2_with fail
        refine hpf.mono ?_
        rintro e w7 ⟨rfl, hB7, hA7, hT7⟩
        have hab7 := hA7 _ _ hab6
        clear p1 p2 hpf
        have p2 : w7.cell? ⟨ab, 2, none⟩ = some (.int .i64 xf) := (blk_cell hab7 2).trans rfl
        have f2 := blk_frozen hT7.tp.blk 2
        have c2 := blk_cell hT7.tp.blk 2
        have hT8 := hT7.rfuse xf
        have hB8 : Below w.heap.size w (w7.setCell ⟨tr, 2, none⟩ (.int .i64 xf)) := hB7.setCell (p := ⟨tr, 2, none⟩) hT7.tp.ge _
        have hPf := (hP.fuse xf ⟨by omega, hf64.2⟩).mono (Nat.le_succ i)
        go_wp2_with fail
        go_meet
        case rel => exact ⟨s, v, _, r, N, sr, u, vr, rfl, rfl, hT8, hPf, by have := HN.out; omega, hsr, hB8⟩
       ·
        have d3 : decide ((0 : Int) < xf) = false := decide_eq_false hfz
        have hris := hP.play.ris
        have hlw := hP.wgt
        have hi30 := Hi30.out
        have hw42 := (show wgtC cl ≤ 42000 from Hwc)
        have hl100 := (show cl.length < 100 from Hlen)
        have hNs := (show N ≤ 3300000000000 + 100 * i from HN)
        have hTl := hP.len
        have hPd := hP.do_ cl (by omega)
        go_upto_region 22 with (fail)
        have hd6 : Below w6.heap.size w6 w6.drew := below_drew (Below.refl _ w6)
        have hB7 := below_drew hB6
        have hT7 := hT6.below hd6
        have hab7 := blk_drew hab6
        have hpdo := pdo_says hT7 xa xcap cl hGL hB7 hP.good (Kd.C_below hCl hB7) hcc (by omega) (by omega) (by omega) (fun c hc => by have := hxs c hc; unfold maxLen; omega)
        have hqd : ∀ w8 v8, Below w.heap.size w w8 → Two w.heap.size w8 s t v8 (doR T r cl).1 (if (doR T r cl).2 = 0 then turnR r cl else r) (N + cl.length) sr tr u vr T r →
          Calls Tryz.prog 26 #[.pointer (some ⟨sr, 0, none⟩), .slice xa cl.length xcap] w8 fun e w' =>
           e = .returned (.int .i64 (doR T r cl).2) ∧ Below w.heap.size w w' ∧ Acs w8 w' ∧ ∃ u' vr', Two w.heap.size w' s t v8 (doR T r cl).1 (if (doR T r cl).2 = 0 then turnR r cl else r) (N + cl.length) sr tr u' vr' (doR T r cl).1 (if (doR T r cl).2 = 0 then turnR r cl else r) := fun w8 v8 hB8 hT8 =>
         qdo_says hT8 hsr xa xcap cl hB8 hP.good (Kd.C_below hCl hB8) hcc hris (by omega) (by omega)
        obtain ⟨rq, hrq⟩ : ∃ rq, rq = (if (doR T r cl).2 = 0 then turnR r cl else r) := ⟨_, rfl⟩
        simp only [← hrq] at hpdo hqd hPd
        clear hrq
        generalize doR T r cl = Q at hpdo hqd hPd
        obtain ⟨TQ, EQ⟩ := Q
        simp only at hpdo hqd hPd
        have q1 : (EQ != EQ) = false := by simp
        have q2 : (EQ == EQ) = true := by simp
        have q3 : decide (EQ = EQ) = true := by simp
        have Hl100 := Lib.hid hl100
        clear p1 p2 hd6 hlw hi30 hw42 hl100 hNs hTl hfz
-- [R22
        refine start_ (n := 9) (S := fun w' => w'.cell? ⟨ab, 0, none⟩ = some (.slice xa cl.length xcap)) (ds := []) #[false, false, false, false, false, false, false, false, false] (by kernel_rfl) rfl rfl ((blk_cell hab7 0).trans rfl) (fun hHeld => ?_)
        generalize w6.drew = w7 at hB7 hT7 hab7 hpdo hHeld ⊢
        refine pure_ (i := 0) (N := some 86) (v := ?_) (a' := ?_) #[true, false, false, false, false, false, false, false, false] rfl rfl (by kernel_rfl) (fun _ _ _ h => h) (Or.inl ⟨by rfl, ?_⟩) ?_ ?_
        rotate_left
        ·
         intro w'
         go_simp
         with_reducible rfl
        rotate_left
        ·
         simp only [Act.put, List.setIfInBounds_toArray, List.set_cons_zero, List.set_cons_succ, i64_w, i32_w]
         rfl
        refine pure_ (i := 1) (N := some 87) (v := ?_) (a' := ?_) #[true, true, false, false, false, false, false, false, false] rfl rfl (by kernel_rfl) (fun _ _ _ h => h) (Or.inl ⟨by rfl, ?_⟩) ?_ ?_
        rotate_left
        ·
         intro w'
         go_simp
         with_reducible rfl
        rotate_left
        ·
         simp only [Act.put, List.setIfInBounds_toArray, List.set_cons_zero, List.set_cons_succ, i64_w, i32_w]
         rfl
        refine pure_ (i := 4) (N := some 90) (v := ?_) (a' := ?_) #[true, true, false, false, true, false, false, false, false] rfl rfl (by kernel_rfl) (fun _ _ _ h => h) (Or.inl ⟨by rfl, ?_⟩) ?_ ?_
        rotate_left
        ·
         intro w'
         go_simp
         with_reducible rfl
        rotate_left
        ·
         simp only [Act.put, List.setIfInBounds_toArray, List.set_cons_zero, List.set_cons_succ, i64_w, i32_w]
         rfl
        refine pure_ (i := 5) (N := some 91) (v := ?_) (a' := ?_) #[true, true, false, false, true, true, false, false, false] rfl rfl (by kernel_rfl) (fun _ _ _ h => h) (Or.inl ⟨by rfl, ?_⟩) ?_ ?_
        rotate_left
        ·
         intro w'
         go_simp
         with_reducible rfl
        rotate_left
        ·
         simp only [Act.put, List.setIfInBounds_toArray, List.set_cons_zero, List.set_cons_succ, i64_w, i32_w]
         rfl
        refine take_ (i := 2) (N := some 88) (v := ?_) (a' := ?_) #[true, true, true, false, true, true, false, false, false] rfl rfl (by kernel_rfl) (fun _ _ _ h => h) (Or.inl ⟨by rfl, ?_⟩) hHeld ?_ ?_
        rotate_left
        ·
         intro w' s0
         go_simp
         with_reducible rfl
        rotate_left
        ·
         simp only [Act.put, List.setIfInBounds_toArray, List.set_cons_zero, List.set_cons_succ, i64_w, i32_w]
         rfl
        refine take_ (i := 6) (N := some 92) (v := ?_) (a' := ?_) #[true, true, true, false, true, true, true, false, false] rfl rfl (by kernel_rfl) (fun _ _ _ h => h) (Or.inl ⟨by rfl, ?_⟩) hHeld ?_ ?_
        rotate_left
        ·
         intro w' s0
         go_simp
         with_reducible rfl
        rotate_left
        ·
         simp only [Act.put, List.setIfInBounds_toArray, List.set_cons_zero, List.set_cons_succ, i64_w, i32_w]
         rfl
        refine one_ (i := 3) (N := some 89) #[true, true, true, true, true, true, true, false, false] rfl rfl (by kernel_rfl) (by decide) (fun K hK => ?_)
        refine goes_ Tryz.func25 (by kernel_rfl) rfl #[.pointer (some ⟨s, 0, none⟩), .slice xa cl.length xcap] (by rfl) rfl rfl (by first | (simp only [List.map_toArray, List.map_cons, List.map_nil]; done) | (simp only [List.map_toArray, List.map_cons, List.map_nil]; rfl)) ?_
        refine (hpdo).mono ?_
        rintro e w8 ⟨rfl, hB8, hA8, v8, hT8⟩
        refine ⟨_, rfl, ?_⟩
        have hab8 := hA8 _ _ hab7
        have hqdo := hqd w8 v8 hB8 hT8
        refine hK.out _ _ ((blk_cell hab8 0).trans rfl) (fun hHeld => ?_)
        clear hK K
        refine norm_ (a' := ?_) ?_ ?_
        rotate_left
        ·
         show Act.put _ (some 89) _ = _
         simp only [Act.put, List.setIfInBounds_toArray, List.set_cons_zero, List.set_cons_succ, i64_w, i32_w]
         rfl
        refine one_ (i := 7) (N := some 93) #[true, true, true, true, true, true, true, true, false] rfl rfl (by kernel_rfl) (by decide) (fun K hK => ?_)
        refine goes_ Tryz.func26 (by kernel_rfl) rfl #[.pointer (some ⟨sr, 0, none⟩), .slice xa cl.length xcap] (by rfl) rfl rfl (by first | (simp only [List.map_toArray, List.map_cons, List.map_nil]; done) | (simp only [List.map_toArray, List.map_cons, List.map_nil]; rfl)) ?_
        refine (hqdo).mono ?_
        rintro e w9 ⟨rfl, hB9, hA9, u9, vr9, hT9⟩
        refine ⟨_, rfl, ?_⟩
        have hab9 := hA9 _ _ hab8
        refine hK.out _ _ ((blk_cell hab9 0).trans rfl) (fun hHeld => ?_)
        clear hK K
        refine norm_ (a' := ?_) ?_ ?_
        rotate_left
        ·
         show Act.put _ (some 93) _ = _
         simp only [Act.put, List.setIfInBounds_toArray, List.set_cons_zero, List.set_cons_succ, i64_w, i32_w]
         rfl
        refine pure_ (i := 8) (N := some 94) (v := ?_) (a' := ?_) #[true, true, true, true, true, true, true, true, true] rfl rfl (by kernel_rfl) (fun _ _ _ h => h) (Or.inl ⟨by rfl, ?_⟩) ?_ ?_
        rotate_left
        ·
         intro w'
         go_simp
         with_reducible rfl
        rotate_left
        ·
         simp only [Act.put, List.setIfInBounds_toArray, List.set_cons_zero, List.set_cons_succ, i64_w, i32_w]
         rfl
        refine done_ (by kernel_rfl) ?_
-- R22]
        go_wp2_with fail
        go_meet
        case rel => exact ⟨s, v8, _, _, _, sr, u9, vr9, rfl, rfl, hT9, hPd, by have := HN.out; have := Hl100.out; omega, hsr, hB9⟩
     case rest =>
      clear hT6 hP hab6 p1 hC6 hB6
      obtain ⟨s, v, T, r, N, sr, u, vr, rfl, rfl, hT6, hP, hN, hsr, hB6⟩ := hcut
      have HN2 := Lib.hid hN
      have hwl := wgt_len r
      have hww := hP.wgt
      have hi30 := Hi30.out
      have hkey : ∀ y ∈ r, y.f0.size ≤ 140737488351232 := fun y hy => by have := wgt_mem hy; omega
      obtain ⟨Ar, cr, evr, hcr, hCr⟩ := hT6.st.rows.slice
      subst evr
      obtain ⟨A6, c6, e6⟩ := Kd.R_slice hT6.tp.row
      subst e6
      have hris := hP.play.ris
      have hTl := hP.len
      go_upto_region 24 with (fail)
      have hd6 : Below wc.heap.size wc wc.drew := below_drew (Below.refl _ wc)
      have hB7 := below_drew hB6
      have hT7 := hT6.below hd6
      have hK0 : ∀ w', Below wc.drew.heap.size wc.drew w' → w'.cell? ⟨sr, 1, none⟩ = some (.slice Ar r.length cr) ∧ w'.cell? ⟨tr, 0, none⟩ = some (.slice A6 T.b.length c6) ∧ Sem.run Tryz.prog (convert 40 9 (.slice A6 T.b.length c6)) w' = .ok (.string (strOfNums T.b)) w' ∧ w'.cell? ⟨tr, 1, none⟩ = some (.int .i64 T.sure) := fun w' h =>
       ⟨blk_cell (hT7.below h).st.blk 1, blk_cell (hT7.below h).tp.blk 0, Kd.C_string (dst := 9) Tryz.underlying40 Tryz.underlying5 Tryz.underlying9 (Kd.R_reads' (hT7.below h).tp.row).2.2, blk_cell (hT7.below h).tp.blk 1⟩
      have hsame : ∀ w', Below wc.drew.heap.size wc.drew w' → Calls Tryz.prog 27 #[.pointer (some ⟨s, 0, none⟩), .slice Ar r.length cr] w' fun e w2 => e = .returned (.bool true) ∧ Below w'.heap.size w' w2 := fun w' h => by
       have := rsame_big w.heap.size s t N _ T r r _ w' (hT7.below h).prg.sto (by omega) (hT7.below h).st.rows (by omega) (by omega) hkey
       rw [sameB_self hris] at this
       exact this
      have hbyt := fun w' (h : Below wc.drew.heap.size wc.drew w') => ybyt_says w.heap.size s t N T r w' (hT7.below h).prg.sto (by omega)
      have hsur := fun w' (h : Below wc.drew.heap.size wc.drew w') => psur_says w.heap.size s t N T r w' (hT7.below h).prg.sto
      obtain ⟨X, hX⟩ : ∃ X, X = T.b := ⟨_, rfl⟩
      obtain ⟨su, hsu⟩ : ∃ su, su = T.sure := ⟨_, rfl⟩
      obtain ⟨rl, hrl⟩ : ∃ rl, rl = r.length := ⟨_, rfl⟩
      rw [← hX] at hK0 hbyt
      rw [← hsu] at hK0 hsur
      rw [← hrl] at hK0 hsame
      clear hX hsu hrl hd6 hwl hww hi30 hkey hcr hCr hTl
      have q1 : ((strOfNums X).toList != (strOfNums X).toList) = false := by simp
      have q2 : ((strOfNums X).toList == (strOfNums X).toList) = true := by simp
      have q3 : (su != su) = false := by simp
      have q4 : (su == su) = true := by simp
-- [R24
      refine start_ (n := 27) (S := fun w' => w'.cell? ⟨sr, 1, none⟩ = some (.slice Ar rl cr) ∧ w'.cell? ⟨tr, 0, none⟩ = some (.slice A6 X.length c6) ∧ Sem.run Tryz.prog (convert 40 9 (.slice A6 X.length c6)) w' = .ok (.string (strOfNums X)) w' ∧ w'.cell? ⟨tr, 1, none⟩ = some (.int .i64 su)) (ds := []) #[false, false, false, false, false, false, false, false, false, false, false, false, false, false, false, false, false, false, false, false, false, false, false, false, false, false, false] (by kernel_rfl) rfl rfl ⟨(hK0 _ (Below.refl _ _)).1, (hK0 _ (Below.refl _ _)).2.1, (hK0 _ (Below.refl _ _)).2.2.1, (hK0 _ (Below.refl _ _)).2.2.2⟩ (fun hHeld => ?_)
      generalize wc.drew = w7 at hB7 hT7 hsame hbyt hsur hK0 hHeld ⊢
      refine pure_ (i := 0) (N := some 95) (v := ?_) (a' := ?_) #[true, false, false, false, false, false, false, false, false, false, false, false, false, false, false, false, false, false, false, false, false, false, false, false, false, false, false] rfl rfl (by kernel_rfl) (fun _ _ _ h => h) (Or.inl ⟨by rfl, ?_⟩) ?_ ?_
      rotate_left
      ·
       intro w'
       go_simp
       with_reducible rfl
      rotate_left
      ·
       simp only [Act.put, List.setIfInBounds_toArray, List.set_cons_zero, List.set_cons_succ, i64_w, i32_w]
       rfl
      refine pure_ (i := 1) (N := some 96) (v := ?_) (a' := ?_) #[true, true, false, false, false, false, false, false, false, false, false, false, false, false, false, false, false, false, false, false, false, false, false, false, false, false, false] rfl rfl (by kernel_rfl) (fun _ _ _ h => h) (Or.inl ⟨by rfl, ?_⟩) ?_ ?_
      rotate_left
      ·
       intro w'
       go_simp
       with_reducible rfl
      rotate_left
      ·
       simp only [Act.put, List.setIfInBounds_toArray, List.set_cons_zero, List.set_cons_succ, i64_w, i32_w]
       rfl
      refine pure_ (i := 2) (N := some 97) (v := ?_) (a' := ?_) #[true, true, true, false, false, false, false, false, false, false, false, false, false, false, false, false, false, false, false, false, false, false, false, false, false, false, false] rfl rfl (by kernel_rfl) (fun _ _ _ h => h) (Or.inl ⟨by rfl, ?_⟩) ?_ ?_
      rotate_left
      ·
       intro w'
       go_simp
       with_reducible rfl
      rotate_left
      ·
       simp only [Act.put, List.setIfInBounds_toArray, List.set_cons_zero, List.set_cons_succ, i64_w, i32_w]
       rfl
      refine pure_ (i := 3) (N := some 98) (v := ?_) (a' := ?_) #[true, true, true, true, false, false, false, false, false, false, false, false, false, false, false, false, false, false, false, false, false, false, false, false, false, false, false] rfl rfl (by kernel_rfl) (fun _ _ _ h => h) (Or.inl ⟨by rfl, ?_⟩) ?_ ?_
      rotate_left
      ·
       intro w'
       go_simp
       with_reducible rfl
      rotate_left
      ·
       simp only [Act.put, List.setIfInBounds_toArray, List.set_cons_zero, List.set_cons_succ, i64_w, i32_w]
       rfl
      refine take_ (i := 4) (N := some 99) (v := ?_) (a' := ?_) #[true, true, true, true, true, false, false, false, false, false, false, false, false, false, false, false, false, false, false, false, false, false, false, false, false, false, false] rfl rfl (by kernel_rfl) (fun _ _ _ h => h) (Or.inl ⟨by rfl, ?_⟩) hHeld ?_ ?_
      rotate_left
      ·
       rintro w' ⟨s0, s1, s2, s3⟩
       go_simp
       with_reducible rfl
      rotate_left
      ·
       simp only [Act.put, List.setIfInBounds_toArray, List.set_cons_zero, List.set_cons_succ, i64_w, i32_w]
       rfl
      refine one_ (i := 5) (N := some 100) #[true, true, true, true, true, true, false, false, false, false, false, false, false, false, false, false, false, false, false, false, false, false, false, false, false, false, false] rfl rfl (by kernel_rfl) (by decide) (fun K hK => ?_)
      refine goes_ Tryz.func27 (by kernel_rfl) rfl #[.pointer (some ⟨s, 0, none⟩), .slice Ar rl cr] (by rfl) rfl rfl (by first | (simp only [List.map_toArray, List.map_cons, List.map_nil]; done) | (simp only [List.map_toArray, List.map_cons, List.map_nil]; rfl)) ?_
      refine (hsame w7 (Below.refl _ _)).mono ?_
      rintro e w9 ⟨rfl, hb9⟩
      refine ⟨_, rfl, ?_⟩
      have hb79 := hb9
      refine hK.out _ _ ⟨(hK0 _ hb79).1, (hK0 _ hb79).2.1, (hK0 _ hb79).2.2.1, (hK0 _ hb79).2.2.2⟩ (fun hHeld => ?_)
      clear hK K
      refine norm_ (a' := ?_) ?_ ?_
      rotate_left
      ·
       show Act.put _ (some 100) _ = _
       simp only [Act.put, List.setIfInBounds_toArray, List.set_cons_zero, List.set_cons_succ, i64_w, i32_w]
       rfl
      refine pure_ (i := 6) (N := some 101) (v := ?_) (a' := ?_) #[true, true, true, true, true, true, true, false, false, false, false, false, false, false, false, false, false, false, false, false, false, false, false, false, false, false, false] rfl rfl (by kernel_rfl) (fun _ _ _ h => h) (Or.inl ⟨by rfl, ?_⟩) ?_ ?_
      rotate_left
      ·
       intro w'
       go_simp
       with_reducible rfl
      rotate_left
      ·
       simp only [Act.put, List.setIfInBounds_toArray, List.set_cons_zero, List.set_cons_succ, i64_w, i32_w]
       rfl
      refine pure_ (i := 7) (N := some 102) (v := ?_) (a' := ?_) #[true, true, true, true, true, true, true, true, false, false, false, false, false, false, false, false, false, false, false, false, false, false, false, false, false, false, false] rfl rfl (by kernel_rfl) (fun _ _ _ h => h) (Or.inl ⟨by rfl, ?_⟩) ?_ ?_
      rotate_left
      ·
       intro w'
       go_simp
       with_reducible rfl
      rotate_left
      ·
       simp only [Act.put, List.setIfInBounds_toArray, List.set_cons_zero, List.set_cons_succ, i64_w, i32_w]
       rfl
      refine pure_ (i := 8) (N := some 103) (v := ?_) (a' := ?_) #[true, true, true, true, true, true, true, true, true, false, false, false, false, false, false, false, false, false, false, false, false, false, false, false, false, false, false] rfl rfl (by kernel_rfl) (fun _ _ _ h => h) (Or.inl ⟨by rfl, ?_⟩) ?_ ?_
      rotate_left
      ·
       intro w'
       go_simp
       with_reducible rfl
      rotate_left
      ·
       simp only [Act.put, List.setIfInBounds_toArray, List.set_cons_zero, List.set_cons_succ, i64_w, i32_w]
       rfl
      refine pure_ (i := 11) (N := some 106) (v := ?_) (a' := ?_) #[true, true, true, true, true, true, true, true, true, false, false, true, false, false, false, false, false, false, false, false, false, false, false, false, false, false, false] rfl rfl (by kernel_rfl) (fun _ _ _ h => h) (Or.inl ⟨by rfl, ?_⟩) ?_ ?_
      rotate_left
      ·
       intro w'
       go_simp
       with_reducible rfl
      rotate_left
      ·
       simp only [Act.put, List.setIfInBounds_toArray, List.set_cons_zero, List.set_cons_succ, i64_w, i32_w]
       rfl
      refine pure_ (i := 12) (N := some 107) (v := ?_) (a' := ?_) #[true, true, true, true, true, true, true, true, true, false, false, true, true, false, false, false, false, false, false, false, false, false, false, false, false, false, false] rfl rfl (by kernel_rfl) (fun _ _ _ h => h) (Or.inl ⟨by rfl, ?_⟩) ?_ ?_
      rotate_left
      ·
       intro w'
       go_simp
       with_reducible rfl
      rotate_left
      ·
       simp only [Act.put, List.setIfInBounds_toArray, List.set_cons_zero, List.set_cons_succ, i64_w, i32_w]
       rfl
      refine pure_ (i := 13) (N := some 108) (v := ?_) (a' := ?_) #[true, true, true, true, true, true, true, true, true, false, false, true, true, true, false, false, false, false, false, false, false, false, false, false, false, false, false] rfl rfl (by kernel_rfl) (fun _ _ _ h => h) (Or.inl ⟨by rfl, ?_⟩) ?_ ?_
      rotate_left
      ·
       intro w'
       go_simp
       with_reducible rfl
      rotate_left
      ·
       simp only [Act.put, List.setIfInBounds_toArray, List.set_cons_zero, List.set_cons_succ, i64_w, i32_w]
       rfl
      refine take_ (i := 14) (N := some 109) (v := ?_) (a' := ?_) #[true, true, true, true, true, true, true, true, true, false, false, true, true, true, true, false, false, false, false, false, false, false, false, false, false, false, false] rfl rfl (by kernel_rfl) (fun _ _ _ h => h) (Or.inl ⟨by rfl, ?_⟩) hHeld ?_ ?_
      rotate_left
      ·
       rintro w' ⟨s0, s1, s2, s3⟩
       go_simp
       with_reducible rfl
      rotate_left
      ·
       simp only [Act.put, List.setIfInBounds_toArray, List.set_cons_zero, List.set_cons_succ, i64_w, i32_w]
       rfl
      refine take_ (i := 15) (N := some 110) (v := ?_) (a' := ?_) #[true, true, true, true, true, true, true, true, true, false, false, true, true, true, true, true, false, false, false, false, false, false, false, false, false, false, false] rfl rfl (by kernel_rfl) (fun _ _ _ h => h) (Or.inl ⟨by rfl, ?_⟩) hHeld ?_ ?_
      rotate_left
      ·
       rintro w' ⟨s0, s1, s2, s3⟩
       go_simp
       with_reducible rfl
      rotate_left
      ·
       simp only [Act.put, List.setIfInBounds_toArray, List.set_cons_zero, List.set_cons_succ, i64_w, i32_w]
       rfl
      refine one_ (i := 9) (N := some 104) #[true, true, true, true, true, true, true, true, true, true, false, true, true, true, true, true, false, false, false, false, false, false, false, false, false, false, false] rfl rfl (by kernel_rfl) (by decide) (fun K hK => ?_)
      refine goes_ Tryz.func28 (by kernel_rfl) rfl #[.pointer (some ⟨t, 0, none⟩)] (by rfl) rfl rfl (by first | (simp only [List.map_toArray, List.map_cons, List.map_nil]; done) | (simp only [List.map_toArray, List.map_cons, List.map_nil]; rfl)) ?_
      refine (hbyt w9 hb79).mono ?_
      rintro e w10 ⟨v10, rfl, hr10, hb10⟩
      obtain ⟨A10, c10, e10⟩ := Kd.R_slice hr10
      subst e10
      refine ⟨_, rfl, ?_⟩
      have hb710 := below_then hb79 hb79.size hb10
      have hcv10 := Kd.C_string (P := Tryz.prog) (A := A10) (c := c10) (dst := 9) Tryz.underlying40 Tryz.underlying5 Tryz.underlying9 (Kd.R_reads' hr10).2.2
      refine hK.out _ _ ⟨(hK0 _ hb710).1, (hK0 _ hb710).2.1, (hK0 _ hb710).2.2.1, (hK0 _ hb710).2.2.2⟩ (fun hHeld => ?_)
      clear hK K
      refine norm_ (a' := ?_) ?_ ?_
      rotate_left
      ·
       show Act.put _ (some 104) _ = _
       simp only [Act.put, List.setIfInBounds_toArray, List.set_cons_zero, List.set_cons_succ, i64_w, i32_w]
       rfl
      refine one_ (i := 10) (N := some 105) #[true, true, true, true, true, true, true, true, true, true, true, true, true, true, true, true, false, false, false, false, false, false, false, false, false, false, false] rfl rfl (by kernel_rfl) (by decide) (fun K hK => ?_)
      refine value_ (w1 := ?_) (v := ?_) (by rfl) rfl ?_ ?_
      rotate_left 2
      ·
       go_simp
       constructor
       ·
        rfl
       ·
        rfl
      refine hK.out _ _ ⟨(hK0 _ hb710).1, (hK0 _ hb710).2.1, (hK0 _ hb710).2.2.1, (hK0 _ hb710).2.2.2⟩ (fun hHeld => ?_)
      clear hK K
      refine norm_ (a' := ?_) ?_ ?_
      rotate_left
      ·
       show Act.put _ (some 105) _ = _
       simp only [Act.put, List.setIfInBounds_toArray, List.set_cons_zero, List.set_cons_succ, i64_w, i32_w]
       rfl
      refine pure_ (i := 16) (N := some 111) (v := ?_) (a' := ?_) #[true, true, true, true, true, true, true, true, true, true, true, true, true, true, true, true, true, false, false, false, false, false, false, false, false, false, false] rfl rfl (by kernel_rfl) (fun _ _ _ h => h) (Or.inl ⟨by rfl, ?_⟩) ?_ ?_
      rotate_left
      ·
       intro w'
       go_simp
       with_reducible rfl
      rotate_left
      ·
       simp only [Act.put, List.setIfInBounds_toArray, List.set_cons_zero, List.set_cons_succ, i64_w, i32_w]
       rfl
      refine pure_ (i := 17) (N := some 112) (v := ?_) (a' := ?_) #[true, true, true, true, true, true, true, true, true, true, true, true, true, true, true, true, true, true, false, false, false, false, false, false, false, false, false] rfl rfl (by kernel_rfl) (fun _ _ _ h => h) (Or.inl ⟨by rfl, ?_⟩) ?_ ?_
      rotate_left
      ·
       intro w'
       go_simp
       with_reducible rfl
      rotate_left
      ·
       simp only [Act.put, List.setIfInBounds_toArray, List.set_cons_zero, List.set_cons_succ, i64_w, i32_w]
       rfl
      refine pure_ (i := 18) (N := some 113) (v := ?_) (a' := ?_) #[true, true, true, true, true, true, true, true, true, true, true, true, true, true, true, true, true, true, true, false, false, false, false, false, false, false, false] rfl rfl (by kernel_rfl) (fun _ _ _ h => h) (Or.inl ⟨by rfl, ?_⟩) ?_ ?_
      rotate_left
      ·
       intro w'
       go_simp
       with_reducible rfl
      rotate_left
      ·
       simp only [Act.put, List.setIfInBounds_toArray, List.set_cons_zero, List.set_cons_succ, i64_w, i32_w]
       rfl
      refine pure_ (i := 19) (N := some 114) (v := ?_) (a' := ?_) #[true, true, true, true, true, true, true, true, true, true, true, true, true, true, true, true, true, true, true, true, false, false, false, false, false, false, false] rfl rfl (by kernel_rfl) (fun _ _ _ h => h) (Or.inl ⟨by rfl, ?_⟩) ?_ ?_
      rotate_left
      ·
       intro w'
       go_simp
       with_reducible rfl
      rotate_left
      ·
       simp only [Act.put, List.setIfInBounds_toArray, List.set_cons_zero, List.set_cons_succ, i64_w, i32_w]
       rfl
      refine pure_ (i := 21) (N := some 116) (v := ?_) (a' := ?_) #[true, true, true, true, true, true, true, true, true, true, true, true, true, true, true, true, true, true, true, true, false, true, false, false, false, false, false] rfl rfl (by kernel_rfl) (fun _ _ _ h => h) (Or.inl ⟨by rfl, ?_⟩) ?_ ?_
      rotate_left
      ·
       intro w'
       go_simp
       with_reducible rfl
      rotate_left
      ·
       simp only [Act.put, List.setIfInBounds_toArray, List.set_cons_zero, List.set_cons_succ, i64_w, i32_w]
       rfl
      refine pure_ (i := 22) (N := some 117) (v := ?_) (a' := ?_) #[true, true, true, true, true, true, true, true, true, true, true, true, true, true, true, true, true, true, true, true, false, true, true, false, false, false, false] rfl rfl (by kernel_rfl) (fun _ _ _ h => h) (Or.inl ⟨by rfl, ?_⟩) ?_ ?_
      rotate_left
      ·
       intro w'
       go_simp
       with_reducible rfl
      rotate_left
      ·
       simp only [Act.put, List.setIfInBounds_toArray, List.set_cons_zero, List.set_cons_succ, i64_w, i32_w]
       rfl
      refine pure_ (i := 23) (N := some 118) (v := ?_) (a' := ?_) #[true, true, true, true, true, true, true, true, true, true, true, true, true, true, true, true, true, true, true, true, false, true, true, true, false, false, false] rfl rfl (by kernel_rfl) (fun _ _ _ h => h) (Or.inl ⟨by rfl, ?_⟩) ?_ ?_
      rotate_left
      ·
       intro w'
       go_simp
       with_reducible rfl
      rotate_left
      ·
       simp only [Act.put, List.setIfInBounds_toArray, List.set_cons_zero, List.set_cons_succ, i64_w, i32_w]
       rfl
      refine take_ (i := 24) (N := some 119) (v := ?_) (a' := ?_) #[true, true, true, true, true, true, true, true, true, true, true, true, true, true, true, true, true, true, true, true, false, true, true, true, true, false, false] rfl rfl (by kernel_rfl) (fun _ _ _ h => h) (Or.inl ⟨by rfl, ?_⟩) hHeld ?_ ?_
      rotate_left
      ·
       rintro w' ⟨s0, s1, s2, s3⟩
       go_simp
       with_reducible rfl
      rotate_left
      ·
       simp only [Act.put, List.setIfInBounds_toArray, List.set_cons_zero, List.set_cons_succ, i64_w, i32_w]
       rfl
      refine one_ (i := 20) (N := some 115) #[true, true, true, true, true, true, true, true, true, true, true, true, true, true, true, true, true, true, true, true, true, true, true, true, true, false, false] rfl rfl (by kernel_rfl) (by decide) (fun K hK => ?_)
      refine goes_ Tryz.func29 (by kernel_rfl) rfl #[.pointer (some ⟨t, 0, none⟩)] (by rfl) rfl rfl (by first | (simp only [List.map_toArray, List.map_cons, List.map_nil]; done) | (simp only [List.map_toArray, List.map_cons, List.map_nil]; rfl)) ?_
      refine (hsur w10 hb710).mono ?_
      rintro e w11 ⟨rfl, hw11⟩
      subst hw11
      refine ⟨_, rfl, ?_⟩
      refine hK.out _ _ ⟨(hK0 _ hb710).1, (hK0 _ hb710).2.1, (hK0 _ hb710).2.2.1, (hK0 _ hb710).2.2.2⟩ (fun hHeld => ?_)
      clear hK K
      refine norm_ (a' := ?_) ?_ ?_
      rotate_left
      ·
       show Act.put _ (some 115) _ = _
       simp only [Act.put, List.setIfInBounds_toArray, List.set_cons_zero, List.set_cons_succ, i64_w, i32_w]
       rfl
      refine pure_ (i := 25) (N := some 120) (v := ?_) (a' := ?_) #[true, true, true, true, true, true, true, true, true, true, true, true, true, true, true, true, true, true, true, true, true, true, true, true, true, true, false] rfl rfl (by kernel_rfl) (fun _ _ _ h => h) (Or.inl ⟨by rfl, ?_⟩) ?_ ?_
      rotate_left
      ·
       intro w'
       go_simp
       with_reducible rfl
      rotate_left
      ·
       simp only [Act.put, List.setIfInBounds_toArray, List.set_cons_zero, List.set_cons_succ, i64_w, i32_w]
       rfl
      refine pure_ (i := 26) (N := some 121) (v := ?_) (a' := ?_) #[true, true, true, true, true, true, true, true, true, true, true, true, true, true, true, true, true, true, true, true, true, true, true, true, true, true, true] rfl rfl (by kernel_rfl) (fun _ _ _ h => h) (Or.inl ⟨by rfl, ?_⟩) ?_ ?_
      rotate_left
      ·
       intro w'
       go_simp
       with_reducible rfl
      rotate_left
      ·
       simp only [Act.put, List.setIfInBounds_toArray, List.set_cons_zero, List.set_cons_succ, i64_w, i32_w]
       rfl
      refine done_ (by kernel_rfl) ?_
-- R24]
      go_wp2_with fail
      refine ⟨⟨i + 1, rfl, Hi.out, s, v, T, r, N, sr, _, _, rfl, rfl, hT7.below hb710, hP, HN2.out, hsr, below_then hB7 hB7.size hb710⟩, ?_⟩
      have := Hi.out; simp only [intOf]; omega
   ·
    have d2 : decide ((i : Int) < (l.length : Int)) = false := decide_eq_false (by omega)
    have d2' : decide (i < l.length) = false := decide_eq_false hlt
    obtain ⟨s, v, T, r, N, sr, u, vr, rfl, rfl, hTw, hP, hN, hsr, hB⟩ := hI
    have hans := hans wr hB
    clear hTw hP hN hlt hi
    go_wp2_with fail
    refine hans.mono ?_
    rintro e w6 ⟨rfl, hb6⟩
    go_wp2_with fail
    go_ret
    exact ⟨rfl, below_then hB hB.size hb6⟩
theorem StorePlays_in (w : World) (a : Option Addr) (len cap : Nat) (h : ActsIn w a len cap) (hGL : GL w) :
  Calls Tryz.prog 3 #[.slice a len cap] w fun e w' => e = .returned (.bool true) ∧ Below w.heap.size w w' := by
 obtain ⟨l, rfl, hc, hl, hx, hat⟩ := h
 exact StorePlays_walk w a cap l hc hl hx hat hGL
end Go.Proofs.YtpoblffgclmmlaaGreatDoor.X
end
