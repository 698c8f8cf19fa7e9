/- law12.answers. -/
import Derived.Test.YtkmokcfnfhabgaaDoorMir
set_option linter.unusedVariables false
set_option linter.unusedSimpArgs false
namespace Go.Proofs.YtkmokcfnfhabgaaDoor.X
open Go.RowKit Go.WideMaps Go.Maps Go.Proofs.YtkmokcfnfhabgaaDoorW.PrintWords Go.Proofs.YtkmokcfnfhabgaaDoorW.PrintLast Go.Proofs.YtkmokcfnfhabgaaDoorW.PrintMore Go.Proofs.YtkmokcfnfhabgaaDoor.Q

/-- A new tape. -/
def TapeS.new : TapeS := ⟨[], 0, -1, false⟩
theorem TapeS.new_good : TapeS.new.Good := ⟨by decide, by decide, by decide⟩
theorem tnew_says (w : World) : Calls Tryd.prog 9 #[] w fun e w' => ∃ t, e = .returned (.pointer (some ⟨t, 0, none⟩)) ∧ TpAt w' w.heap.size t (.slice none 0 0) TapeS.new ∧ Below w.heap.size w w' := new_says w
/-- Behind Open. -/
def TapeS.opened (T : TapeS) : TapeS := ⟨T.b.take (splitL T.b).2, if (splitL T.b).2 < T.b.length then ((splitL T.b).2 : Int) else T.sure, -1, false⟩
theorem topen_says (t : Nat) (v : Value) (T : TapeS) (hf : T.fuse = -1) (hd : T.down = false) (w0 w : World) (hGL : GL w0) (hB : Below w0.heap.size w0 w) (hT : TpAt w w0.heap.size t v T) (hG : T.Good) :
    Calls Tryd.prog 13 #[.pointer (some ⟨t, 0, none⟩)] w fun e w' => Tur w w' (fun k => k = t) ∧
      ((openD (splitL T.b).1 (.map []) = none ∧ e = .returned (.tuple #[.pointer none, .int .i64 2]) ∧ TpAt w' w0.heap.size t v T) ∨
      ∃ D s m n v', openD (splitL T.b).1 (.map []) = some D ∧ e = .returned (.tuple #[.pointer (some ⟨s, 0, none⟩), .int .i64 0]) ∧ StoreAt w' w.heap.size s t m n D ∧ n ≤ 3300000000000 ∧
        TpAt w' w0.heap.size t v' T.opened ∧ Rowd v v' w.heap.size) := by
  obtain ⟨b, sure, fuse, down⟩ := T
  simp only at hf hd
  subst hf
  subst hd
  refine (open_says t v b sure w0 w hGL hB hT hG.len).mono ?_
  rintro e w' ⟨hk, h | ⟨D, s, m, n, v', h1, h2, h3, h4, h5, h6⟩⟩
  · exact ⟨hk, .inl h⟩
  · refine ⟨hk, .inr ⟨D, s, m, n, v', h1, h2, h3, h4, h5, fun k hk => ?_⟩⟩
    rcases h6 with h | h
    · exact .inl (by rw [← h]; exact hk)
    · exact .inr (h k hk)
/-- Open, where all is well. -/
theorem topen_ok (t : Nat) (v : Value) (T : TapeS) (hf : T.fuse = -1) (hd : T.down = false) (D : DataW Unit) (hD : openD (splitL T.b).1 (.map []) = some D) (w0 w : World) (hGL : GL w0) (hB : Below w0.heap.size w0 w) (hT : TpAt w w0.heap.size t v T) (hG : T.Good) :
    Calls Tryd.prog 13 #[.pointer (some ⟨t, 0, none⟩)] w fun e w' => Tur w w' (fun k => k = t) ∧
      ∃ s m n v', e = .returned (.tuple #[.pointer (some ⟨s, 0, none⟩), .int .i64 0]) ∧ StoreAt w' w.heap.size s t m n D ∧ n ≤ 3300000000000 ∧ TpAt w' w0.heap.size t v' T.opened ∧ Rowd v v' w.heap.size := by
  refine (topen_says t v T hf hd w0 w hGL hB hT hG).mono ?_
  rintro e w' ⟨hk, ⟨h, _⟩ | ⟨D', s, m, n, v', h1, h2, h3, h4, h5, h6⟩⟩
  · rw [hD] at h; cases h
  · rw [hD] at h1
    obtain rfl := Option.some.inj h1
    exact ⟨hk, s, m, n, v', h2, h3, h4, h5, h6⟩
/-- Behind a crash. -/
def TapeS.crash (T : TapeS) (keep : Int) : TapeS := ⟨T.b.take (keepL T.b.length T.sure keep).toNat, keepL T.b.length T.sure keep, -1, false⟩
theorem keepL_range (n sure keep : Int) (h : 0 ≤ sure ∧ sure ≤ n) : sure ≤ keepL n sure keep ∧ keepL n sure keep ≤ n := by
  unfold keepL; omega
theorem tcrash_says (base t : Nat) (v : Value) (T : TapeS) (keep : Int) (w : World) (h : TpAt w base t v T) (hG : T.Good) (hk : -9223372036854775808 ≤ keep ∧ keep < 9223372036854775808) :
    Calls Tryd.prog 20 #[.pointer (some ⟨t, 0, none⟩), .int .i64 keep] w fun e w' =>
      e = .returned (.tuple #[]) ∧ Tur w w' (fun k => k = t) ∧ ∃ v', TpAt w' base t v' (T.crash keep) ∧ Rowd v v' w.heap.size := by
  have hr := keepL_range T.b.length T.sure keep hG.sure
  have hs := hG.sure
  have hl := hG.len
  have hj : keepL T.b.length T.sure keep = ((keepL T.b.length T.sure keep).toNat : Int) := by omega
  refine (crash_says base t v T.b T.sure keep T.fuse T.down w h (by omega) hs hk _ hj (by omega)).mono ?_
  rintro e w' ⟨rfl, hk, v', hT, hv⟩
  refine ⟨rfl, hk, v', ?_, fun k hk => ?_⟩
  · rw [← hj] at hT; exact hT
  · rcases hv with h | h
    · exact .inl (by rw [← h]; exact hk)
    · rw [h] at hk; cases hk
theorem StoreAt.lower {W : World} {base base' s t m n : Nat} {D : DataW Unit} (h : StoreAt W base s t m n D) (hb : base' ≤ base) : StoreAt W base' s t m n D := ⟨h.blk, h.map, Nat.le_trans hb h.ge, Nat.le_trans hb h.mge⟩
/-- A row that was just made. -/
theorem C_made {α : Type} {d : Kd α} {e : Nat} (w : World) (xs : List α) (cs : List Value) (hl : xs.length ≤ maxLen) (hr : Reps (d.M (w.alloc (.cells cs.toArray e)) w.heap.size (fun _ => False)) d.sz xs cs) :
    d.R e (w.alloc (.cells cs.toArray e)) w.heap.size (fun _ => True) (.slice (some ⟨w.heap.size, 0, none⟩) xs.length xs.length) xs := by
  refine ⟨fun _ _ => trivial, cs, ⟨hr.1, .inr ⟨w.heap.size, xs.length, cs.toArray, rfl, Nat.le_refl _, heap_alloc_new w _, Nat.le_refl _, hl, by simp [hr.1], ?_⟩⟩, hr.imp_ (fun _ _ h => d.M_mono (fun _ h => h.elim) h)⟩
  simp [hr.1, List.take_of_length_le]
theorem TapeS.append_well (T : TapeS) (ys : List Int) (hf : T.fuse = -1) (hd : T.down = false) : T.append ys = (⟨T.b ++ ys, ((T.b ++ ys).length : Int), -1, false⟩, 0) := by
  obtain ⟨b, sure, fuse, down⟩ := T
  simp only at hf hd
  subst hf
  subst hd
  have e1 : TapeS.write ⟨b, sure, -1, false⟩ ys = (⟨b ++ ys, sure, -1, false⟩, 0) := by
    have hb : burnL (ys.length : Int) (-1) false false = (((ys.length : Int), true), (-1, false)) := rfl
    unfold TapeS.write
    simp only [hb]
    rw [Int.toNat_natCast, List.take_length]
    rfl
  unfold TapeS.append
  rw [e1]
  rfl
/-- The one change that is made. -/
def cA : S49 := ⟨⟨#[97]⟩, ⟨#[49]⟩, false⟩
def dA : DataW Unit := turnD (.map []) [cA]
theorem doT_A : doT TapeS.new (.map []) [cA] = (⟨frameL (recL [cA]), 26, -1, false⟩, 0) := by
  have h18 : (recL [cA]).length = 18 := rfl
  have hfl := frameL_len (recL [cA])
  unfold doT
  rw [if_neg (by decide), if_neg (by rw [h18]; decide), if_neg (by rw [hfl, h18]; decide), TapeS.append_well _ _ rfl rfl]
  have e : TapeS.new.b ++ frameL (recL [cA]) = frameL (recL [cA]) := rfl
  rw [e, hfl, h18]
  rfl
theorem doD_A : doD TapeS.new (.map []) [cA] = dA := by
  unfold doD
  rw [doT_A]
  rfl
theorem open_A : openD (splitL (frameL (recL [cA]))).1 (.map []) = some dA := by
  have e : frameL (recL [cA]) = fr [recL [cA]] := by rw [fr_cons, fr_nil, List.append_nil]
  rw [e, splitL_all _ (by intro a ha; rw [List.mem_singleton.1 ha]; decide)]
  exact openD_recs [[cA]] (.map []) (by intro l hl; rw [List.mem_singleton.1 hl]; decide)
theorem keysD_A : keysD dA = [⟨#[97]⟩] := by
  have h : strKeys dA = [[97]] := rfl
  unfold keysD
  rw [h, List.mergeSort_singleton]
  rfl
theorem keys_A : ((keysD dA).filter fun k => preB k ⟨#[]⟩).length = 1 := by
  rw [keysD_A]; rfl
theorem val_A : valS dA ⟨#[97]⟩ = ⟨#[49]⟩ := rfl
theorem has_A : hasS dA ⟨#[97]⟩ = true := rfl
theorem all_A : (recL (allD dA)).length ≤ 90000000 := by
  have e : allD dA = [cA] := by unfold allD; rw [keysD_A]; rfl
  rw [e]; decide
set_option maxHeartbeats 8000000 in
set_option maxRecDepth 100000 in
theorem answers_says (w : World) (hGL : GL w) : Calls Tryd.prog 8 #[] w fun e w' => e = .returned (.bool true) ∧ Below w.heap.size w w' := by
  go_enter Tryd.func8, Tryd.ntmps8
  go_wp2_with fail
  refine (tnew_says w).mono ?_
  rintro e w1 ⟨t, rfl, hT1, hb1⟩
  go_wp2_with fail
  refine (topen_ok t _ _ rfl rfl (.map []) rfl w w1 hGL hb1 hT1 TapeS.new_good).mono ?_
  rintro e w2 ⟨hk2, s, m, n, v2, rfl, hS2, hn2, hT2, hv2⟩
  have hT2 : TpAt w2 w.heap.size t v2 TapeS.new := hT2
  go_wp2_with fail
  have hC : Kd.R k49 49 (w2.alloc (.cells #[.string ⟨#[97]⟩, .string ⟨#[49]⟩, .bool false] 49)) w2.heap.size (fun _ => True) (.slice (some ⟨w2.heap.size, 0, none⟩) 1 1) [cA] :=
    C_made (d := k49) (e := 49) w2 [cA] [.string ⟨#[97]⟩, .string ⟨#[49]⟩, .bool false] (by decide) (Reps.c3 (k49_mkM _ _ _ cA) (Reps.none _ _))
  have hC3 := (Kd.R_reads' hC).2.2
  have hB2 : Below w.heap.size w w2 := ((Tur.of_below hb1 (fun k => k = t)).then_ hk2 (fun k h => .inl h)).toBelow (Nat.le_refl _) (fun k h => h ▸ hT1.ge)
  have hb3 : Below w2.heap.size w2 (w2.alloc (.cells #[.string ⟨#[97]⟩, .string ⟨#[49]⟩, .bool false] 49)) := (Below.refl _ w2).alloc (Nat.le_refl _) _
  change Calls _ _ _ (w2.alloc (.cells #[.string ⟨#[97]⟩, .string ⟨#[49]⟩, .bool false] 49)) _
  generalize w2.alloc (.cells #[.string ⟨#[97]⟩, .string ⟨#[49]⟩, .bool false] 49) = w3 at hC3 hb3
  clear hC
  have hb01 : w.heap.size ≤ w1.heap.size := hb1.size
  have hB3 := below_then hB2 hB2.size hb3
  have hS3 : StoreAt w3 w.heap.size s t m n (.map []) := (hS2.kept (Tur.of_below hb3 (fun _ => False)) (fun h => h) (fun h => h)).lower hb01
  have hT3 : TpAt w3 w.heap.size t v2 TapeS.new := TapeAt.kept hT2 (Tur.of_below hb3 (fun _ => False)) (fun h => h) (fun _ _ h => h)
  have hdo := do_says w.heap.size s t m n (.map []) v2 TapeS.new (some ⟨w2.heap.size, 0, none⟩) 1 [cA] w w3 hGL hB3 hS3 hT3 TapeS.new_good hC3 (by decide) (by simp only [List.length_singleton]; omega) (by decide) (by decide) (by decide) (by intro x hx; rw [List.mem_singleton.1 hx]; decide) all_A hB3.size
  rw [doT_A, doD_A] at hdo
  go_wp2_with fail
  refine hdo.mono ?_
  rintro e w4 ⟨rfl, hk4, m4, n4, v4, hS4, hn4, hT4, hv4⟩
  have hG4 : TapeS.Good ⟨frameL (recL [cA]), 26, -1, false⟩ := by
    have h18 : (recL [cA]).length = 18 := rfl
    have hfl := frameL_len (recL [cA])
    exact ⟨by show (frameL (recL [cA])).length ≤ _; omega, by show (0 : Int) ≤ 26 ∧ (26 : Int) ≤ ((frameL (recL [cA])).length : Int); omega, by decide⟩
  have hcr : TapeS.crash ⟨frameL (recL [cA]), 26, -1, false⟩ 0 = ⟨frameL (recL [cA]), 26, -1, false⟩ := by
    have h18 : (recL [cA]).length = 18 := rfl
    have hfl := frameL_len (recL [cA])
    have hk : keepL ((frameL (recL [cA])).length : Int) 26 0 = 26 := by rw [hfl, h18]; rfl
    unfold TapeS.crash
    simp only [hk]
    rw [List.take_of_length_le (by rw [hfl, h18]; decide)]
  have hS2k : ∀ k, (k = s ∨ k = t ∨ v2.ownBlock = some k) → w.heap.size ≤ k := by
    rintro k (h | h | h)
    · rw [h]; exact hS3.ge
    · rw [h]; exact hT3.ge
    · exact (hT3.row.typed k h).1
  have hB4 : Below w.heap.size w w4 := ((Tur.of_below hB3 _).then_ hk4 (fun k h => .inl h)).toBelow (Nat.le_refl _) hS2k
  go_wp2_with fail
  refine (tcrash_says w.heap.size t v4 _ 0 w4 hT4 hG4 (by decide)).mono ?_
  rintro e w5 ⟨rfl, hk5, v5, hT5, hv5⟩
  rw [hcr] at hT5
  have hB5 : Below w.heap.size w w5 := ((Tur.of_below hB4 (fun k => k = t)).then_ hk5 (fun k h => .inl h)).toBelow (Nat.le_refl _) (fun k h => h ▸ hT4.ge)
  go_wp2_with fail
  refine (topen_ok t _ _ rfl rfl dA open_A w w5 hGL hB5 hT5 hG4).mono ?_
  rintro e w6 ⟨hk6, s6, m6, n6, v6, rfl, hS6, hn6, hT6, hv6⟩
  have hB6 : Below w.heap.size w w6 := ((Tur.of_below hB5 (fun k => k = t)).then_ hk6 (fun k h => .inl h)).toBelow (Nat.le_refl _) (fun k h => h ▸ hT5.ge)
  have hget := get_says _ s6 t m6 n6 dA ⟨#[97]⟩ (by decide) w6 hS6
  rw [val_A, has_A] at hget
  have hkeys := keys_says _ s6 t m6 n6 dA ⟨#[]⟩ w6 hS6 (by omega)
  have hkl := keys_A
  clear hk2 hk4 hk5 hk6 hT1 hT2 hT3 hT4 hT5 hT6 hS2 hS3 hS4 hC3
  go_wp2_with fail
  refine hget.mono ?_
  rintro e w7 ⟨rfl, rfl⟩
  go_wp2_with fail
  refine hkeys.mono ?_
  rintro e w8 ⟨v8, rfl, hr8, hb8⟩
  obtain ⟨A8, c8, e8⟩ := Kd.R_slice hr8
  subst e8
  rw [hkl]
  have hB8 := below_then hB6 hB6.size hb8
  go_wp2_with fail
  go_ret
  exact ⟨rfl, hB8⟩
end Go.Proofs.YtkmokcfnfhabgaaDoor.X
