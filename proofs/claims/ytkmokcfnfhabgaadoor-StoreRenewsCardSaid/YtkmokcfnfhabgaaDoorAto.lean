/- What a call of Do leaves on the tape, and what of it a crash leaves; law12.StoreAtomic. -/
import Derived.Test.YtkmokcfnfhabgaaDoorSam
set_option linter.unusedVariables false
set_option linter.unusedSimpArgs false
namespace Go.Proofs.YtkmokcfnfhabgaaDoor.X
open Go.RowKit Go.WideMaps Go.Maps Go.Proofs.YtkmokcfnfhabgaaDoorW.PrintWords Go.Proofs.YtkmokcfnfhabgaaDoorW.PrintLast Go.Proofs.YtkmokcfnfhabgaaDoorW.PrintMore Go.Proofs.YtkmokcfnfhabgaaDoor.Q

theorem Ris.fold (ls : List (List S49)) {r : List S79} (h : Ris r) : Ris (ls.foldl turnR r) := by
  induction ls generalizing r with
  | nil => exact h
  | cons l ls ih => exact ih (h.turn l)
theorem ris_foldR (ls : List (List S49)) : Ris (foldR ls) := Ris.fold ls List.Pairwise.nil
theorem turn1_last (p : List S79) (x : S79) (h : Ris p) (hp : ∀ y ∈ p, kl y.f0 < kl x.f0) : turn1 p ⟨x.f0, x.f1, false⟩ = p ++ [x] := by
  obtain ⟨p1, p2, e, h1, h2, h3⟩ := turn1_put p ⟨x.f0, x.f1, false⟩ rfl h
  have hn : p2 = [] := by
    cases p2 with
    | nil => rfl
    | cons y ys => exact absurd (hp y (by rw [e]; simp)) (h2 y (List.mem_cons_self ..))
  rw [h3, hn, e, hn]
  simp [other]
theorem turnR_allR (p q : List S79) (h : Ris (p ++ q)) : turnR p (allR q) = p ++ q := by
  induction q generalizing p with
  | nil => simp [allR, turnR]
  | cons x q ih =>
    have e : turnR p (allR (x :: q)) = turnR (turn1 p ⟨x.f0, x.f1, false⟩) (allR q) := rfl
    obtain ⟨ha, hb, hab⟩ := List.pairwise_append.1 h
    rw [e, turn1_last p x ha (fun y hy => hab y hy x (List.mem_cons_self ..)), ih (p ++ [x]) (by rw [List.append_assoc]; exact h), List.append_assoc]
    rfl
theorem fold_allR {q : List S79} (h : Ris q) : foldR [allR q] = q := by
  show turnR [] (allR q) = q
  exact turnR_allR [] q h
theorem foldR_snoc (ls : List (List S49)) (l : List S49) : foldR (ls ++ [l]) = turnR (foldR ls) l := by simp [foldR]
theorem fr_snoc (ls : List (List S49)) (l : List S49) : fr ((ls ++ [l]).map recL) = fr (ls.map recL) ++ frameL (recL l) := by
  rw [List.map_append, fr_append, List.map_singleton, fr_cons, fr_nil, List.append_nil]
/-- A tape that has records, all of them sure, and power. -/
structure Wel (T : TapeS) (ls : List (List S49)) : Prop where
  b : T.b = fr (ls.map recL)
  sm : ∀ l ∈ ls, (recL l).length ≤ 32768
  sure : T.sure = (T.b.length : Int)
  down : T.down = false
theorem Wel.new : Wel TapeS.new [] := ⟨rfl, by simp, rfl, rfl⟩
theorem crash_b (T : TapeS) (keep : Int) : ∃ n : Nat, (T.crash keep).b = T.b.take n ∧ (0 ≤ T.sure → T.sure ≤ (T.b.length : Int) → T.sure ≤ (n : Int) ∧ n ≤ T.b.length) := by
  refine ⟨(keepL T.b.length T.sure keep).toNat, rfl, fun h0 h1 => ?_⟩
  have := keepL_range T.b.length T.sure keep ⟨h0, h1⟩
  omega
theorem crash_all (T : TapeS) (keep : Int) (h : T.sure = (T.b.length : Int)) : (T.crash keep).b = T.b := by
  obtain ⟨n, h1, h2⟩ := crash_b T keep
  have := h2 (by omega) (by omega)
  rw [h1, List.take_of_length_le (by omega)]
theorem Wel.lay {T : TapeS} {ls : List (List S49)} (h : Wel T ls) : Lay T ls [] := ⟨by rw [h.b, List.append_nil], oneL_nil, h.sm⟩
theorem Wel.crash {T : TapeS} {ls : List (List S49)} (h : Wel T ls) (keep : Int) : Lay (T.crash keep) ls [] := ⟨by rw [crash_all T keep h.sure, h.b, List.append_nil], oneL_nil, h.sm⟩
/-- Do, with power enough. -/
theorem do_ok {T : TapeS} {ls : List (List S49)} (h : Wel T ls) (hf : T.fuse = -1) (l : List S49) : ∃ ls', Wel (doR T (foldR ls) l).1 ls' ∧ (doR T (foldR ls) l).1.fuse = -1 ∧
    foldR ls' = (if (doR T (foldR ls) l).2 = 0 then turnR (foldR ls) l else foldR ls) ∧ ((doR T (foldR ls) l).2 = 0 ∨ (doR T (foldR ls) l).2 = 3 ∧ 32768 < (recL l).length ∨ (doR T (foldR ls) l).2 = 7 ∧ 32768 < (recL (allR (turnR (foldR ls) l))).length) ∧ (doR T (foldR ls) l).1.b.length ≤ max T.b.length 65536 := by
  unfold doR
  by_cases h0 : l.length = 0
  · rw [if_pos h0]
    have : l = [] := List.length_eq_zero_iff.1 h0
    subst this
    exact ⟨ls, h, hf, rfl, .inl rfl, by simp; omega⟩
  · rw [if_neg h0]
    by_cases h1 : 32768 < (recL l).length
    · rw [if_pos h1]; exact ⟨ls, h, hf, rfl, .inr (.inl ⟨rfl, h1⟩), by simp; omega⟩
    · rw [if_neg h1]
      by_cases h2 : 65536 < (frameL (recL l)).length + T.b.length
      · rw [if_pos h2]
        unfold TapeS.renewR
        by_cases h3 : 32768 < (recL (allR (turnR (foldR ls) l))).length ∨ 65536 < (frameL (recL (allR (turnR (foldR ls) l)))).length
        · rw [if_pos h3]
          refine ⟨ls, h, hf, rfl, .inr (.inr ⟨rfl, ?_⟩), by simp; omega⟩
          rcases h3 with h3 | h3
          · exact h3
          · rw [frameL_len] at h3; omega
        · rw [if_neg h3]
          have hq : Ris (turnR (foldR ls) l) := (ris_foldR ls).turn l
          have e : T.swap (frameL (recL (allR (turnR (foldR ls) l)))) = (⟨frameL (recL (allR (turnR (foldR ls) l))), ((frameL (recL (allR (turnR (foldR ls) l)))).length : Int), -1, false⟩, 0) := by
            obtain ⟨b, sure, fuse, down⟩ := T
            have hd := h.down
            simp only at hf hd
            subst hf
            subst hd
            rfl
          rw [e]
          refine ⟨[allR (turnR (foldR ls) l)], ⟨by show _ = fr [recL _]; rw [fr_cons, fr_nil, List.append_nil], ?_, rfl, rfl⟩, rfl, by rw [if_pos rfl]; exact fold_allR hq, .inl rfl, ?_⟩
          · intro x hx
            rw [List.mem_singleton.1 hx]
            omega
          · show (frameL _).length ≤ _
            omega
      · rw [if_neg h2, TapeS.append_well T _ hf h.down]
        refine ⟨ls ++ [l], ⟨by rw [fr_snoc, ← h.b], ?_, rfl, rfl⟩, rfl, by rw [if_pos rfl]; exact foldR_snoc ls l, .inl rfl, ?_⟩
        · intro x hx
          rcases List.mem_append.1 hx with hx | hx
          · exact h.sm x hx
          · rw [List.mem_singleton.1 hx]; omega
        · show (T.b ++ frameL (recL l)).length ≤ _
          rw [List.length_append]; omega
theorem lay_part {ls : List (List S49)} (l : List S49) (hs : ∀ x ∈ ls, (recL x).length ≤ 32768) (hl : (recL l).length ≤ 32768) (T : TapeS) (j : Nat) (hb : T.b = (fr (ls.map recL) ++ frameL (recL l)).take j) (hj : (fr (ls.map recL)).length ≤ j) :
    ∃ ls' junk, Lay T ls' junk ∧ ((foldR ls' = turnR (foldR ls) l ∧ (fr (ls.map recL) ++ frameL (recL l)).length ≤ j) ∨ foldR ls' = foldR ls) := by
  by_cases h : (fr (ls.map recL) ++ frameL (recL l)).length ≤ j
  · refine ⟨ls ++ [l], [], ⟨by rw [hb, List.take_of_length_le h, fr_snoc, List.append_nil], oneL_nil, ?_⟩, .inl ⟨foldR_snoc ls l, h⟩⟩
    intro x hx
    rcases List.mem_append.1 hx with hx | hx
    · exact hs x hx
    · rw [List.mem_singleton.1 hx]; exact hl
  · refine ⟨ls, (frameL (recL l)).take (j - (fr (ls.map recL)).length), ⟨by rw [hb, List.take_append, List.take_of_length_le hj], oneL_part _ hl _ ?_, hs⟩, .inr rfl⟩
    rw [List.length_append, frame_len] at h
    omega
theorem take_part (a b : List Int) (k n : Nat) : (a ++ b.take k).take n = (a ++ b).take (min n (a.length + k)) := by
  rw [← List.take_take]
  congr 1
  rw [List.take_append, List.take_of_length_le (show a.length ≤ a.length + k by omega), Nat.add_sub_cancel_left]
theorem append_eq (T : TapeS) (ys : List Int) {d f : Int} {o g : Bool} (hB : burnL (ys.length : Int) T.fuse T.down false = ((d, o), (f, g))) :
    T.append ys = if o = true then TapeS.sync ⟨T.b ++ ys.take d.toNat, T.sure, f, g⟩ else (⟨T.b ++ ys.take d.toNat, T.sure, f, g⟩, 8) := by
  unfold TapeS.append TapeS.write
  rw [hB]
  cases o <;> rfl
theorem swap_eq8 (T : TapeS) (ys : List Int) {d f : Int} {g : Bool} (hB : burnL ((ys.length : Int) + 1) T.fuse T.down true = ((d, false), (f, g))) : T.swap ys = (⟨T.b, T.sure, f, g⟩, 8) := by rw [TapeS.swap_eq T ys hB]; rfl
theorem swap_eq0 (T : TapeS) (ys : List Int) {d f : Int} {g : Bool} (hB : burnL ((ys.length : Int) + 1) T.fuse T.down true = ((d, true), (f, g))) : T.swap ys = (⟨ys, (ys.length : Int), f, g⟩, 0) := by rw [TapeS.swap_eq T ys hB]; rfl
theorem sync_eq8 (T : TapeS) {d f : Int} {g : Bool} (hB : burnL 1 T.fuse T.down true = ((d, false), (f, g))) : T.sync = (⟨T.b, T.sure, f, g⟩, 8) := by rw [TapeS.sync_eq T hB]; rfl
theorem sync_eq0 (T : TapeS) {d f : Int} {g : Bool} (hB : burnL 1 T.fuse T.down true = ((d, true), (f, g))) : T.sync = (⟨T.b, (T.b.length : Int), f, g⟩, 0) := by rw [TapeS.sync_eq T hB]; rfl
/-- A crash, where the last frame may be there in part. -/
theorem crash_part {T2 : TapeS} {ls : List (List S49)} (l : List S49) (hs : ∀ x ∈ ls, (recL x).length ≤ 32768) (hl : (recL l).length ≤ 32768) (k : Nat) (hb : T2.b = fr (ls.map recL) ++ (frameL (recL l)).take k) (hsu : T2.sure = ((fr (ls.map recL)).length : Int)) (keep : Int) :
    ∃ ls' junk, Lay (T2.crash keep) ls' junk ∧ (foldR ls' = turnR (foldR ls) l ∨ foldR ls' = foldR ls) := by
  obtain ⟨n, hn1, hn2⟩ := crash_b T2 keep
  have hle : (fr (ls.map recL)).length ≤ T2.b.length := by rw [hb, List.length_append]; omega
  have hn3 := (hn2 (by omega) (by omega)).1
  have e : (T2.crash keep).b = (fr (ls.map recL) ++ frameL (recL l)).take (min n ((fr (ls.map recL)).length + k)) := by rw [hn1, hb, take_part]
  obtain ⟨ls', junk, hL, hc⟩ := lay_part l hs hl _ _ e (by omega)
  exact ⟨ls', junk, hL, hc.imp (fun h => h.1) (fun h => h)⟩
/-- Do, with power or without, and a crash. -/
theorem do_crash {T : TapeS} {ls : List (List S49)} (h : Wel T ls) (l : List S49) (keep : Int) : ∃ ls' junk, Lay ((doR T (foldR ls) l).1.crash keep) ls' junk ∧
    (foldR ls' = (if (doR T (foldR ls) l).2 = 0 ∨ (doR T (foldR ls) l).2 = 8 then turnR (foldR ls) l else foldR ls) ∨ ((doR T (foldR ls) l).2 ≠ 0 ∧ foldR ls' = foldR ls)) := by
  unfold doR
  by_cases h0 : l.length = 0
  · rw [if_pos h0]
    have : l = [] := List.length_eq_zero_iff.1 h0
    subst this
    exact ⟨ls, [], h.crash keep, .inl rfl⟩
  · rw [if_neg h0]
    by_cases h1 : 32768 < (recL l).length
    · rw [if_pos h1]; exact ⟨ls, [], h.crash keep, .inl rfl⟩
    · rw [if_neg h1]
      by_cases h2 : 65536 < (frameL (recL l)).length + T.b.length
      · rw [if_pos h2]
        unfold TapeS.renewR
        by_cases h3 : 32768 < (recL (allR (turnR (foldR ls) l))).length ∨ 65536 < (frameL (recL (allR (turnR (foldR ls) l)))).length
        · rw [if_pos h3]; exact ⟨ls, [], h.crash keep, .inl rfl⟩
        · rw [if_neg h3]
          have hq : Ris (turnR (foldR ls) l) := (ris_foldR ls).turn l
          obtain ⟨d, o, f, g, hB⟩ : ∃ d o f g, burnL (((frameL (recL (allR (turnR (foldR ls) l)))).length : Int) + 1) T.fuse T.down true = ((d, o), (f, g)) := ⟨_, _, _, _, rfl⟩
          cases o with
          | true =>
            rw [swap_eq0 T _ hB]
            refine ⟨[allR (turnR (foldR ls) l)], [], ⟨?_, oneL_nil, ?_⟩, .inl ?_⟩
            · rw [crash_all _ keep rfl, List.append_nil, List.map_singleton, fr_cons, fr_nil, List.append_nil]
            · intro x hx
              rw [List.mem_singleton.1 hx]; omega
            · rw [fold_allR hq]; rfl
          | false =>
            rw [swap_eq8 T _ hB]
            refine ⟨ls, [], ⟨?_, oneL_nil, h.sm⟩, .inr ⟨by show (8 : Int) ≠ 0; decide, rfl⟩⟩
            rw [crash_all (⟨T.b, T.sure, f, g⟩ : TapeS) keep h.sure, List.append_nil]
            exact h.b
      · rw [if_neg h2]
        have hlb : (recL l).length ≤ 32768 := by omega
        have hd : T.down = false := h.down
        have hb := h.b
        have hsu := h.sure
        obtain ⟨d, o, f, g, hB⟩ : ∃ d o f g, burnL ((frameL (recL l)).length : Int) T.fuse T.down false = ((d, o), (f, g)) := ⟨_, _, _, _, rfl⟩
        rw [append_eq T _ hB]
        have hs2 : T.sure = ((fr (ls.map recL)).length : Int) := by rw [hsu, hb]
        have hb2 : T.b ++ (frameL (recL l)).take d.toNat = fr (ls.map recL) ++ (frameL (recL l)).take d.toNat := by rw [hb]
        cases o with
        | false =>
          rw [if_neg (by decide)]
          obtain ⟨ls', junk, hL, hc⟩ := crash_part (T2 := ⟨T.b ++ (frameL (recL l)).take d.toNat, T.sure, f, g⟩) l h.sm hlb d.toNat hb2 hs2 keep
          exact ⟨ls', junk, hL, hc.imp (fun h => by rw [h]; rfl) (fun h => ⟨by show (8 : Int) ≠ 0; decide, h⟩)⟩
        | true =>
          rw [if_pos rfl]
          have hld : d = ((frameL (recL l)).length : Int) := by
            unfold burnL at hB
            rw [hd, if_neg (by decide)] at hB
            split at hB
            · split at hB <;> simp only [Prod.mk.injEq] at hB <;> omega
            · simp only [Prod.mk.injEq] at hB; exact absurd hB.1.2 (by decide)
          obtain ⟨d2, o2, f2, g2, hB2⟩ : ∃ d o f' g', burnL 1 f g true = ((d, o), (f', g')) := ⟨_, _, _, _, rfl⟩
          cases o2 with
          | true =>
            rw [sync_eq0 ⟨T.b ++ (frameL (recL l)).take d.toNat, T.sure, f, g⟩ hB2]
            refine ⟨ls ++ [l], [], ⟨?_, oneL_nil, ?_⟩, .inl (by rw [foldR_snoc]; rfl)⟩
            · rw [crash_all _ keep rfl, List.append_nil, fr_snoc]
              show T.b ++ (frameL (recL l)).take d.toNat = _
              rw [hld, Int.toNat_natCast, List.take_length, hb]
            · intro x hx
              rcases List.mem_append.1 hx with hx | hx
              · exact h.sm x hx
              · rw [List.mem_singleton.1 hx]; exact hlb
          | false =>
            rw [sync_eq8 ⟨T.b ++ (frameL (recL l)).take d.toNat, T.sure, f, g⟩ hB2]
            obtain ⟨ls', junk, hL, hc⟩ := crash_part (T2 := ⟨T.b ++ (frameL (recL l)).take d.toNat, T.sure, f2, g2⟩) l h.sm hlb d.toNat hb2 hs2 keep
            exact ⟨ls', junk, hL, hc.imp (fun h => by rw [h]; rfl) (fun h => ⟨by show (8 : Int) ≠ 0; decide, h⟩)⟩
/-- However Do ends, the tape is in order, and not longer than it may be. -/
theorem do_good {T : TapeS} {r : List S79} (h : T.Good) (hl : T.b.length ≤ 1000000) (l : List S49) : (doR T r l).1.Good ∧ (doR T r l).1.b.length ≤ 1000000 := by
  unfold doR
  split
  · exact ⟨h, hl⟩
  · split
    · exact ⟨h, hl⟩
    · split
      · unfold TapeS.renewR
        split
        · exact ⟨h, hl⟩
        · refine ⟨TapeS.swap_good _ _ h (by omega), ?_⟩
          obtain ⟨d, o, f, g, hB⟩ : ∃ d o f g, burnL (((frameL (recL (allR (turnR r l)))).length : Int) + 1) T.fuse T.down true = ((d, o), (f, g)) := ⟨_, _, _, _, rfl⟩
          cases o with
          | true => rw [swap_eq0 T _ hB]; show (frameL _).length ≤ _; omega
          | false => rw [swap_eq8 T _ hB]; exact hl
      · refine ⟨TapeS.append_good _ _ h (by omega), ?_⟩
        obtain ⟨d, o, f, g, hB⟩ : ∃ d o f g, burnL ((frameL (recL l)).length : Int) T.fuse T.down false = ((d, o), (f, g)) := ⟨_, _, _, _, rfl⟩
        rw [append_eq T _ hB]
        have hbl : (T.b ++ (frameL (recL l)).take d.toNat).length ≤ 1000000 := by rw [List.length_append, List.length_take]; omega
        cases o with
        | false => exact hbl
        | true =>
          rw [if_pos rfl]
          exact hbl
theorem tfuse_says (base t : Nat) (v : Value) (T : TapeS) (n : Int) (w : World) (h : TpAt w base t v T) :
    Calls Tryd.prog 25 #[.pointer (some ⟨t, 0, none⟩), .int .i64 n] w fun e w' =>
      e = .returned (.tuple #[]) ∧ Tur w w' (fun k => k = t) ∧ TpAt w' base t v ⟨T.b, T.sure, max n 0, T.down⟩ := fuse_says base t v T.b T.sure n T.fuse T.down w h
theorem blk_ne_ty {W : World} {a b : Nat} {xs ys : Array Value} {S U : Nat} {fz fz' : Nat × Nat} (h : W.heap[a]? = some (.cells xs S fz)) (h' : W.heap[b]? = some (.cells ys U fz')) (hne : S ≠ U) : a ≠ b := fun e => by
  subst e; rw [h] at h'; simp only [Option.some.injEq, Obj.cells.injEq] at h'; exact hne h'.2.1
/-- A store of a tape: Fuse. -/
theorem sfuse_says (s t N : Nat) (T : TapeS) (r : List S79) (n : Int) (w0 w : World) (h : Sto w0.heap.size w s t T r N) :
    Calls Tryd.prog 25 #[.pointer (some ⟨t, 0, none⟩), .int .i64 n] w fun e w' =>
      e = .returned (.tuple #[]) ∧ TurO w0.heap.size w w' ∧ Sto w0.heap.size w' s t ⟨T.b, T.sure, max n 0, T.down⟩ r N := by
  obtain ⟨m, n', D, v, h1, h2, h3, h4⟩ := h
  refine (tfuse_says w0.heap.size t v T n w h2).mono ?_
  rintro e w' ⟨he, hk, hT⟩
  have hst : s ≠ t := blk_ne h1.blk h2.blk (by decide)
  exact ⟨he, ⟨_, hk, fun k hk => ⟨hk ▸ h2.ge, .inl ⟨_, hk ▸ h2.blk⟩⟩⟩, m, n', D, v, h1.kept hk hst (fun e => MapAt.ne h1.map h2.blk e), hT, h3, h4⟩
/-- .. Crash: its tape; the rows that the store has stay. -/
theorem scrash_says (s t N : Nat) (T : TapeS) (r : List S79) (keep : Int) (w0 w : World) (h : Sto w0.heap.size w s t T r N) (hG : T.Good) (hk : -9223372036854775808 ≤ keep ∧ keep < 9223372036854775808) :
    Calls Tryd.prog 20 #[.pointer (some ⟨t, 0, none⟩), .int .i64 keep] w fun e w' =>
      e = .returned (.tuple #[]) ∧ TurO w0.heap.size w w' ∧ Sto w0.heap.size w' s t (T.crash keep) r N := by
  obtain ⟨m, n', D, v, h1, h2, h3, h4⟩ := h
  refine (tcrash_says w0.heap.size t v T keep w h2 hG hk).mono ?_
  rintro e w' ⟨he, hk, v', hT, _⟩
  have hst : s ≠ t := blk_ne h1.blk h2.blk (by decide)
  exact ⟨he, ⟨_, hk, fun k hk => ⟨hk ▸ h2.ge, .inl ⟨_, hk ▸ h2.blk⟩⟩⟩, m, n', D, v', h1.kept hk hst (fun e => MapAt.ne h1.map h2.blk e), hT, h3, h4⟩
/-- .. Open, beside a store that there is. -/
theorem sagain_says (s t N : Nat) (T : TapeS) (r : List S79) (ls : List (List S49)) (junk : List Int) (hL : Lay T ls junk) (hf : T.fuse = -1) (hd : T.down = false) (w0 w : World) (hGL : GL w0) (hB : Below w0.heap.size w0 w) (h : Sto w0.heap.size w s t T r N) (hG : T.Good) :
    Calls Tryd.prog 13 #[.pointer (some ⟨t, 0, none⟩)] w fun e w' => TurO w0.heap.size w w' ∧
      ∃ s', e = .returned (.tuple #[.pointer (some ⟨s', 0, none⟩), .int .i64 0]) ∧ w.heap.size ≤ s' ∧ Sto w0.heap.size w' s' t T.opened (foldR ls) 3300000000000 ∧ Sto w0.heap.size w' s t T.opened r N := by
  obtain ⟨m, n', D, v, h1, h2, h3, h4⟩ := h
  refine (topen_ok t v T hf hd _ hL.opens w0 w hGL hB h2 hG).mono ?_
  rintro e w' ⟨hk, s', m', n2, v', g1, g2, g3, g4, g5⟩
  have hst : s ≠ t := blk_ne h1.blk h2.blk (by decide)
  exact ⟨⟨_, hk, fun k hk => ⟨hk ▸ h2.ge, .inl ⟨_, hk ▸ h2.blk⟩⟩⟩, s', g1, g2.ge, ⟨m', n2, _, v', g2.lower hB.size, g4, mir_fold ls Mir.empty, g3⟩, m, n', D, v', h1.kept hk hst (fun e => MapAt.ne h1.map h2.blk e), g4, h3, h4⟩
end Go.Proofs.YtkmokcfnfhabgaaDoor.X
