/- The store's reader of a record, and what a record says. -/
import Derived.Test.YtkmokcfnfhabgaaDoorQ3
import Derived.Test.YtkmokcfnfhabgaaDoorRec
import Derived.Lib.Hide
set_option linter.unusedVariables false
set_option linter.unusedSimpArgs false
namespace Go.Proofs.YtkmokcfnfhabgaaDoor.X
open Go.RowKit Go.Proofs.YtkmokcfnfhabgaaDoorW.PrintWords Go.Proofs.YtkmokcfnfhabgaaDoorW.PrintLast Go.Proofs.YtkmokcfnfhabgaaDoorW.PrintMore Go.Proofs.YtkmokcfnfhabgaaDoor.Q

/-- What is read of bytes stays, where one block that has none alone is another one. -/
theorem C_other {W W2 : World} {t T : Nat} {cs : Array Value} {fz : Nat × Nat} (hb : W.heap[t]? = some (.cells cs T fz)) (hcs : ∀ (j : Nat) (x : Int), cs[j]? ≠ some (.int .u8 x)) {A : Option Addr} {n : Nat} {xs : List Int} (hC : Kd.C (Kd.int .u8) W A n xs) (hk : Tur W W2 (fun k => k = t)) : Kd.C (Kd.int .u8) W2 A n xs := by
  refine Kd.C_keep (0 : Int) hC ⟨hk.kept.1, fun i hi hne _ => hk.kept.2 i hi hne⟩ ?_
  intro ad hA hn he
  obtain ⟨ad', e, hc⟩ := hC.2.2 hn
  obtain rfl : ad = ad' := Option.some.inj (hA.symm.trans e)
  have hl : 0 < xs.length := by have := hC.1; omega
  obtain ⟨c, hcl, hK, hcell⟩ := hc 0 xs[0] (List.getElem?_eq_getElem hl)
  obtain rfl : c = [.int .u8 xs[0]] := hK
  have h0 := hcell 0 _ rfl
  simp only [Nat.zero_mul, Nat.add_zero] at h0
  rw [Addr.add_zero'] at h0
  unfold World.cell? at h0
  rw [he, hb] at h0
  simp only at h0
  split at h0
  · cases h0
  · exact hcs _ _ h0
theorem tur_below {w0 w w1 : World} {S : Nat → Prop} (hB : Below w0.heap.size w0 w) (hk : Tur w w1 S) (hS : ∀ k, S k → w0.heap.size ≤ k) : Below w0.heap.size w0 w1 :=
  ((Tur.of_below hB S).then_ hk (fun k h => .inl h)).toBelow (Nat.le_refl _) hS
/-- A reader in memory. -/
structure RdAt (w0 W : World) (g : Nat) (A : Option Addr) (c : Nat) (xs : List Int) (bad : Bool) : Prop where
  blk : W.heap[g]? = some (.cells #[.slice A xs.length c, .bool bad] 91 (0, 0))
  row : ∀ W', Below w0.heap.size w0 W' → Kd.C (Kd.int .u8) W' A xs.length xs
  le : xs.length ≤ c
theorem drop_row_all {w0 w : World} {A : Option Addr} {l : List Int} {c : Nat} (hB : Below w0.heap.size w0 w) (h : ∀ W', Below w0.heap.size w0 W' → Kd.C (Kd.int .u8) W' A l.length l) (hc : l.length ≤ c) (lo : Nat) (h1 : lo ≤ l.length) :
    ∃ Ad cd, (∀ W, Sem.run Tryd.prog (Instr.slice 22 (.slice A l.length c) (some (.int .i64 (lo : Int))) none none) W = .ok (.slice Ad (l.drop lo).length cd) W) ∧ (∀ W', Below w0.heap.size w0 W' → Kd.C (Kd.int .u8) W' Ad (l.drop lo).length (l.drop lo)) ∧ (l.drop lo).length ≤ cd := by
  obtain ⟨Ad, cd, hrun, hC, hle⟩ := drop_row (h w hB) hc lo h1
  refine ⟨Ad, cd, hrun, fun W' hb => ?_, hle⟩
  obtain ⟨Ad', cd', hrun', hC', hle'⟩ := drop_row (h W' hb) hc lo h1
  have e := (hrun w).symm.trans (hrun' w)
  simp only [Result.ok.injEq, Value.slice.injEq, and_true] at e
  rw [e.1]
  exact hC'
theorem rd_cells (A : Option Addr) (n c : Nat) (bad : Bool) : ∀ (j : Nat) (x : Int), (#[Value.slice A n c, .bool bad] : Array Value)[j]? ≠ some (.int .u8 x)
  | 0, x => by simp
  | 1, x => by simp
  | j + 2, x => by simp
set_option maxHeartbeats 4000000 in
set_option maxRecDepth 100000 in
/-- The next number; fewer than four bytes: there is none. -/
theorem rnum_says (g : Nat) (A : Option Addr) (c : Nat) (xs : List Int) (bad : Bool) (w0 w : World) (hB : Below w0.heap.size w0 w) (h : RdAt w0 w g A c xs bad) :
    Calls Tryd.prog 43 #[.pointer (some ⟨g, 0, none⟩)] w fun e w' => e = .returned (.int .i64 (if xs.length < 4 then 0 else getL (xs.take 4))) ∧ Tur w w' (fun k => k = g) ∧ ∃ A' c', RdAt w0 w' g A' c' (if xs.length < 4 then xs else xs.drop 4) (if xs.length < 4 then true else bad) := by
  have c0 := blk_cell h.blk 0
  have c1 := blk_cell h.blk 1
  have f0 := blk_frozen h.blk 0
  have f1 := blk_frozen h.blk 1
  by_cases h4 : xs.length < 4
  · have d1 : decide ((xs.length : Int) < 4) = true := decide_eq_true (by omega)
    have hb2 := blk_put h.blk 1 (.bool true) rfl
    have hk2 := (Tur.refl w (fun k => k = g)).setCell (p := ⟨g, 1, none⟩) (.inl rfl) (.bool true)
    have hC2 := h.row
    have hle := h.le
    simp only [if_pos h4]
    go_enter Tryd.func43, Tryd.ntmps43
    go_wp2_with fail
    go_ret
    exact ⟨rfl, hk2, _, _, ⟨hb2, hC2, hle⟩⟩
  · have d1 : decide ((xs.length : Int) < 4) = false := decide_eq_false (by omega)
    simp only [if_neg h4]
    have hle := h.le
    have hgr := getL_range (xs.take 4)
    obtain ⟨Ad, cd, hcut, hCd, hcd⟩ := drop_row_all hB h.row h.le 4 (by omega)
    simp only [Int.cast_ofNat_Int] at hcut
    have e1 : IntKind.i64.wrap (getL (xs.take 4)) = getL (xs.take 4) := IntWalk.i64_in _ (by omega)
    obtain ⟨ys, hys⟩ : ∃ ys, ys = xs.drop 4 := ⟨_, rfl⟩
    rw [← hys] at hcut hCd hcd ⊢
    have hb2 := blk_put h.blk 0 (.slice Ad ys.length cd) rfl
    have hk2 := (Tur.refl w (fun k => k = g)).setCell (p := ⟨g, 0, none⟩) (.inl rfl) (.slice Ad ys.length cd)
    have hC2 := hCd
    have hrow := h.row w hB
    clear hys
    go_enter Tryd.func43, Tryd.ntmps43
    go_wp2_with fail
    refine (be_Get.says A _ c xs w rfl hrow hle).mono ?_
    rintro e w1 ⟨rfl, rfl⟩
    go_wp2_with fail
    go_ret
    exact ⟨rfl, hk2, _, _, ⟨hb2, hC2, hcd⟩⟩
/-- The next number, and what is left. -/
def rnumL (xs : List Int) (bad : Bool) : Int × List Int × Bool := if xs.length < 4 then (0, xs, true) else (getL (xs.take 4), xs.drop 4, bad)
theorem rnum_says2 (g : Nat) (A : Option Addr) (c : Nat) (xs : List Int) (bad : Bool) (n : Int) (ys : List Int) (bad1 : Bool) (hn : rnumL xs bad = (n, ys, bad1)) (w0 w : World) (hB : Below w0.heap.size w0 w) (h : RdAt w0 w g A c xs bad) :
    Calls Tryd.prog 43 #[.pointer (some ⟨g, 0, none⟩)] w fun e w' => e = .returned (.int .i64 n) ∧ Tur w w' (fun k => k = g) ∧ ∃ A' c', RdAt w0 w' g A' c' ys bad1 := by
  refine (rnum_says g A c xs bad w0 w hB h).mono ?_
  unfold rnumL at hn
  split at hn
  · rename_i h4
    simp only [if_pos h4]
    cases hn
    exact fun e w' h => h
  · rename_i h4
    simp only [if_neg h4]
    cases hn
    exact fun e w' h => h
theorem rnumL_range (xs : List Int) (bad : Bool) : 0 ≤ (rnumL xs bad).1 ∧ (rnumL xs bad).1 < 4294967296 := by
  unfold rnumL
  split
  · exact ⟨Int.le_refl _, (by decide : (0 : Int) < 4294967296)⟩
  · exact getL_range _
/-- The next text, and what is left. -/
def rtextL (xs : List Int) (bad : Bool) : ByteArray × List Int × Bool :=
  if (rnumL xs bad).2.2 = true ∨ ((rnumL xs bad).2.1.length : Int) < (rnumL xs bad).1 then (⟨#[]⟩, (rnumL xs bad).2.1, true)
  else (strOfNums ((rnumL xs bad).2.1.take (rnumL xs bad).1.toNat), (rnumL xs bad).2.1.drop (rnumL xs bad).1.toNat, (rnumL xs bad).2.2)
set_option maxHeartbeats 4000000 in
set_option maxRecDepth 100000 in
theorem rtext_says (g : Nat) (A : Option Addr) (c : Nat) (xs : List Int) (bad : Bool) (s : ByteArray) (zs : List Int) (bad2 : Bool) (hs : rtextL xs bad = (s, zs, bad2)) (w0 w : World) (hg0 : w0.heap.size ≤ g) (hB : Below w0.heap.size w0 w) (h : RdAt w0 w g A c xs bad) :
    Calls Tryd.prog 44 #[.pointer (some ⟨g, 0, none⟩)] w fun e w' => e = .returned (.string s) ∧ Tur w w' (fun k => k = g) ∧ ∃ A' c', RdAt w0 w' g A' c' zs bad2 := by
  obtain ⟨⟨n, ys, bad1⟩, hn⟩ : ∃ p, rnumL xs bad = p := ⟨_, rfl⟩
  have hrg := rnumL_range xs bad
  unfold rtextL at hs
  rw [hn] at hs hrg
  simp only at hs hrg
  obtain ⟨m, rfl⟩ : ∃ m : Nat, n = (m : Int) := ⟨n.toNat, by omega⟩
  have hcall := rnum_says2 g A c xs bad (m : Int) ys bad1 hn w0 w hB h
  clear hn
  by_cases hb1 : bad1 = true
  · subst hb1
    rw [if_pos (.inl rfl)] at hs
    simp only [Prod.mk.injEq] at hs
    obtain ⟨rfl, rfl, rfl⟩ := hs
    go_enter Tryd.func44, Tryd.ntmps44
    go_wp2_with fail
    refine hcall.mono ?_
    rintro e w1 ⟨rfl, hk1, A1, c1, hR1⟩
    have c1' := blk_cell hR1.blk 1
    have f1 := blk_frozen hR1.blk 1
    have c0 := blk_cell hR1.blk 0
    have hb2 := blk_put hR1.blk 1 (.bool true) rfl
    have hk2 := hk1.setCell (p := ⟨g, 1, none⟩) (.inl rfl) (.bool true)
    have hC2 := hR1.row
    have hle := hR1.le
    go_wp2_with fail
    go_ret
    exact ⟨rfl, hk2, _, _, ⟨hb2, hC2, hle⟩⟩
  · have hbf : bad1 = false := by simpa using hb1
    subst hbf
    by_cases hbig : (ys.length : Int) < (m : Int)
    · have d1 : decide (ys.length < m) = true := decide_eq_true (by omega)
      rw [if_pos (.inr hbig)] at hs
      simp only [Prod.mk.injEq] at hs
      obtain ⟨rfl, rfl, rfl⟩ := hs
      go_enter Tryd.func44, Tryd.ntmps44
      go_wp2_with fail
      refine hcall.mono ?_
      rintro e w1 ⟨rfl, hk1, A1, c1, hR1⟩
      have c1' := blk_cell hR1.blk 1
      have f1 := blk_frozen hR1.blk 1
      have c0 := blk_cell hR1.blk 0
      have hb2 := blk_put hR1.blk 1 (.bool true) rfl
      have hk2 := hk1.setCell (p := ⟨g, 1, none⟩) (.inl rfl) (.bool true)
      have hC2 := hR1.row
      have hle := hR1.le
      clear hbig
      go_wp2_with fail
      go_ret
      exact ⟨rfl, hk2, _, _, ⟨hb2, hC2, hle⟩⟩
    · have d1 : decide (ys.length < m) = false := decide_eq_false (by omega)
      rw [if_neg (by simp [hbig])] at hs
      simp only [Prod.mk.injEq, Int.toNat_natCast] at hs
      obtain ⟨rfl, rfl, rfl⟩ := hs
      go_enter Tryd.func44, Tryd.ntmps44
      go_wp2_with fail
      refine hcall.mono ?_
      rintro e w1 ⟨rfl, hk1, A1, c1, hR1⟩
      have c1' := blk_cell hR1.blk 1
      have c0 := blk_cell hR1.blk 0
      have f0 := blk_frozen hR1.blk 0
      have hle := hR1.le
      have hB1 : Below w0.heap.size w0 w1 := tur_below hB hk1 (fun k hk => by omega)
      obtain ⟨Ad, cd, hcut, hCd, hcd⟩ := drop_row_all hB1 hR1.row hle m (by omega)
      obtain ⟨At, ct, hcut2, hCt, hct⟩ := take_row (hR1.row w1 hB1) hle m (by omega)
      have hcv := Kd.C_string (P := Tryd.prog) (A := At) (c := ct) Tryd.underlying22 Tryd.underlying5 Tryd.underlying9 hCt
      obtain ⟨rs, hrs⟩ : ∃ rs, rs = ys.drop m := ⟨_, rfl⟩
      rw [← hrs] at hcut hCd hcd
      have Hrs := Lib.hid hrs
      have hb2 := blk_put hR1.blk 0 (.slice Ad rs.length cd) rfl
      have hk2 := hk1.setCell (p := ⟨g, 0, none⟩) (.inl rfl) (.slice Ad rs.length cd)
      have hC2 := hCd
      clear hbig hrs hk1
      go_wp2_with fail
      go_ret
      exact ⟨rfl, hk2, _, _, by rw [← (show rs = ys.drop m from Hrs)]; exact ⟨hb2, hC2, hcd⟩⟩
end Go.Proofs.YtkmokcfnfhabgaaDoor.X
