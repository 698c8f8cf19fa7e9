/- LinkFull: the tied card: whatever the input the law answers true and leaves it alone, the listed tables being as the program's text lays them; conditions: as the row's cells say ('laid') (part 21 of 24). -/
import Derived.Deep.RegionHeld3
import Derived.Test.YtpoblffgclmmlaaDoorPkPlf15
import Derived.Test.YtpoblffgclmmlaaDoorPkPlf18
import Derived.Test.YtpoblffgclmmlaaDoorPkPlf19
section
set_option linter.unusedVariables false
set_option linter.unusedSimpArgs false
namespace Go.Proofs.YtpoblffgclmmlaaDoor.X
open Go.RowKit Go.WideMaps Go.Maps Go.Proofs.YtpoblffgclmmlaaDoorW.PrintWords Go.Proofs.YtpoblffgclmmlaaDoorW.PrintLast Go.Proofs.YtpoblffgclmmlaaDoorW.PrintMore Go.Proofs.YtpoblffgclmmlaaDoor.Q

theorem ddLen (k : Nat) : ∀ n, n < 10 ^ (k + 1) → (dd n).length ≤ k + 1 := by
  induction k with
  | zero => intro n h; rw [dd_small (by simpa using h)]; exact Nat.le_refl _
  | succ k ih =>
    intro n h
    by_cases h10 : n < 10
    · rw [dd_small h10]; simp
    · rw [dd_big h10, List.length_append]
      have := ih (n / 10) (by rw [Nat.pow_succ] at h; omega)
      simp only [List.length_singleton]; omega
theorem ddLen20 (n : Nat) (h : n < 18446744073709551616) : (dd n).length ≤ 20 := ddLen 19 n (by omega)
theorem txs_len (l : List ByteArray) (h : ∀ x ∈ l, x.size < 18446744073709551616) : (txs l).length ≤ 21 * l.length + (l.map fun x => x.size).sum := by
  induction l with
  | nil => simp [txs]
  | cons s l ih =>
    have h1 := ddLen20 s.size (h s (List.mem_cons_self ..))
    have h2 := ih (fun x hx => h x (List.mem_cons_of_mem _ hx))
    rw [txs_cons]
    simp only [List.length_append, List.length_cons, Array.length_toList, ByteArray.size_data, List.map_cons, List.sum_cons]
    omega
theorem mkB_size (l : List UInt8) : (⟨l.toArray⟩ : ByteArray).size = l.length := by show (List.toArray _).size = _; simp
theorem cell_later {w w1 : World} {a : Addr} {v : Value} (hb : Below w.heap.size w w1) (h : w.cell? a = some v) : w1.cell? a = some v := (hb.cell (World.block_lt_of_cell? _ _ h)).trans h
/-- A link's key. -/
def lkey (conn sub : ByteArray) : ByteArray := ⟨(108 :: txs [conn, sub]).toArray⟩
theorem lkey_len (conn sub : ByteArray) (h : conn.size + sub.size ≤ 1000000) : (txs [conn, sub]).length ≤ 42 + (conn.size + sub.size) := by
  have := txs_len [conn, sub] (by
    intro x hx
    simp only [List.mem_cons, List.not_mem_nil, or_false] at hx
    rcases hx with e | e <;> subst e <;> omega)
  simpa using this
theorem lkey_size (conn sub : ByteArray) (h : conn.size + sub.size ≤ 1000000) : (lkey conn sub).size ≤ 43 + (conn.size + sub.size) := by
  have := lkey_len conn sub h
  unfold lkey
  rw [mkB_size, List.length_cons]; omega
theorem lkey_f (conn sub : ByteArray) (h : conn.size + sub.size ≤ 1000000) : link_Key.f conn sub = some (lkey conn sub) := by
  have := lkey_len conn sub h
  unfold link_Key.f row_Texts.f
  rw [if_pos (by omega), Option.bind_some, mkB_size, if_pos (by omega)]
  rfl
theorem lkey_says (conn sub : ByteArray) (h : conn.size + sub.size ≤ 1000000) (w : World) (hGP : GP w) :
    Calls Tryd.prog 15 #[.string conn, .string sub] w fun e w' => e = .returned (.string (lkey conn sub)) ∧ Below w.heap.size w w' :=
  link_Key.calls conn sub _ w (lkey_f conn sub h) hGP
set_option maxHeartbeats 4000000 in
theorem lfind_says (base s N : Nat) (r : List S68) (conn sub : ByteArray) (h : conn.size + sub.size ≤ 1000000) (w : World) (hS : StW base w s r N) (hGP : GP w) :
    Calls Tryd.prog 13 #[.pointer (some ⟨s, 0, none⟩), .string conn, .string sub] w fun e w' => e = .returned (.tuple #[.string ((getR r (lkey conn sub)).getD ⟨#[]⟩), .bool (getR r (lkey conn sub)).isSome]) ∧ Below w.heap.size w w' := by
  have hks := lkey_size conn sub h
  have hk := lkey_says conn sub h w hGP
  obtain ⟨K, hK⟩ : ∃ K, K = lkey conn sub := ⟨_, rfl⟩
  rw [← hK] at hk hks ⊢
  clear hK
  have hg := fun w1 (hb : Below w.heap.size w w1) => wget_says base s N r K (by unfold maxLen; omega) w1 (hS.below hb)
  go_enter Tryd.func13, Tryd.ntmps13
  go_wp2_with fail
  refine hk.mono ?_
  rintro e w1 ⟨rfl, hb1⟩
  have hg := hg w1 hb1
  go_wp2_with fail
  refine hg.mono ?_
  rintro e w2 ⟨rfl, rfl⟩
  go_wp2_with fail
  go_ret2
  exact ⟨rfl, hb1⟩
def cnt (r : List S68) (p : ByteArray) : List ByteArray := (r.map fun x => x.f0).filter fun k => preB k p
def luser (id sub : ByteArray) : ByteArray := (id ++ ⟨#[58]⟩) ++ sub
/-- Resolve, of rows alone. -/
def resR (r : List S68) (id sub : ByteArray) (op : Bool) : ByteArray × List S41 × Int :=
  match getR r (lkey id sub) with
  | some v => (v, [], 0)
  | none => if op = true then (if 32 ≤ (cnt r ⟨#[108]⟩).length then (⟨#[]⟩, [], 7) else (luser id sub, [⟨lkey id sub, luser id sub, false⟩], 0)) else (⟨#[]⟩, [], 6)
set_option maxHeartbeats 8000000 in
theorem lres_says (base s N : Nat) (r : List S68) (x0 x1 x2 x3 x4 : ByteArray) (op : Bool) (x6 sub : ByteArray) (h : x0.size + sub.size ≤ 1000000) (w : World) (hS : StW base w s r N) (hN : N ≤ 3400000000000) (hGP : GP w) :
    Calls Tryd.prog 7 #[.pointer (some ⟨s, 0, none⟩), .agg #[.string x0, .string x1, .string x2, .string x3, .string x4, .bool op, .string x6], .string sub] w fun e w' => ∃ v, e = .returned (.tuple #[.string (resR r x0 sub op).1, v, .int .i64 (resR r x0 sub op).2.2]) ∧
      Kd.R k41 41 w' w.heap.size (fun _ => True) v (resR r x0 sub op).2.1 ∧ Below w.heap.size w w' := by
  have hB0 : Below w.heap.size w (w.alloc (.cells #[.string x0, .string x1, .string x2, .string x3, .string x4, .bool op, .string x6] 29)) := (Below.refl _ w).alloc (Nat.le_refl _) _
  have hfind := lfind_says base s N r x0 sub h _ (hS.below hB0) (hGP.below hB0)
  have hkeys := fun w1 (hb : Below w.heap.size w w1) => wkeys_says base s N r ⟨#[108]⟩ w1 (hS.below hb) hN
  have hkey := fun w1 (hb : Below w.heap.size w w1) => lkey_says x0 sub h w1 (hGP.below hb)
  have hz := heap_alloc_new w (.cells #[.string x0, .string x1, .string x2, .string x3, .string x4, .bool op, .string x6] 29)
  have hu : x0.size + 1 ≤ 9223372036854775807 := by omega
  have hu2 : (x0 ++ (⟨#[58]⟩ : ByteArray)).size + sub.size ≤ 9223372036854775807 := by rw [ByteArray.size_append]; show _ + 1 + _ ≤ _; omega
  have huT := eq_true hu
  have huF : (9223372036854775807 < x0.size + 1) = False := eq_false (Nat.not_lt.2 hu)
  have hu2T := eq_true hu2
  have hu2F : (9223372036854775807 < (x0 ++ (⟨#[58]⟩ : ByteArray)).size + sub.size) = False := eq_false (Nat.not_lt.2 hu2)
  clear hu hu2
  cases hgv : getR r (lkey x0 sub) with
  | some v =>
    have hres : resR r x0 sub op = (v, [], 0) := by unfold resR; rw [hgv]
    rw [hres]
    rw [hgv] at hfind
    simp only [Option.getD_some, Option.isSome_some] at hfind
    clear hres hgv
    go_enter Tryd.func7, Tryd.ntmps7
    go_wp2_with fail
    refine hfind.mono ?_
    rintro e w1 ⟨rfl, hb1⟩
    go_wp2_with fail
    go_ret3
    exact ⟨_, rfl, Kd.R_nil _ _ _ _ _, below_then hB0 hB0.size hb1⟩
  | none =>
    rw [hgv] at hfind
    simp only [Option.getD_none, Option.isSome_none] at hfind
    cases op with
    | false =>
      have hres : resR r x0 sub false = (⟨#[]⟩, [], 6) := by unfold resR; rw [hgv]; rfl
      rw [hres]
      clear hres hgv
      go_enter Tryd.func7, Tryd.ntmps7
      go_wp2_with fail
      refine hfind.mono ?_
      rintro e w1 ⟨rfl, hb1⟩
      have hc5 := (cell_later hb1 (blk_cell hz 5))
      go_wp2_with fail
      go_ret3
      exact ⟨_, rfl, Kd.R_nil _ _ _ _ _, below_then hB0 hB0.size hb1⟩
    | true =>
      by_cases hn : 32 ≤ (cnt r ⟨#[108]⟩).length
      · have hres : resR r x0 sub true = (⟨#[]⟩, [], 7) := by unfold resR; rw [hgv]; simp only [if_true]; rw [if_pos hn]
        rw [hres]
        clear hres hgv
        have hn' : 32 ≤ ((r.map fun x => x.f0).filter fun k => preB k ⟨#[108]⟩).length := hn
        generalize ((r.map fun x => x.f0).filter fun k => preB k ⟨#[108]⟩) = ks at hkeys hn'
        go_enter Tryd.func7, Tryd.ntmps7
        go_wp2_with fail
        refine hfind.mono ?_
        rintro e w1 ⟨rfl, hb1⟩
        have hB1 := below_then hB0 hB0.size hb1
        have hc5 := (cell_later hb1 (blk_cell hz 5))
        have hkeys := hkeys w1 hB1
        go_wp2_with fail
        refine hkeys.mono ?_
        rintro e w2 ⟨v2, rfl, hr2, hb2⟩
        obtain ⟨A2, c2, e2⟩ := Kd.R_slice hr2
        subst e2
        have d1 : decide (32 ≤ (ks.length : Int)) = true := decide_eq_true (by omega)
        go_wp2_with fail
        go_ret3
        exact ⟨_, rfl, Kd.R_nil _ _ _ _ _, below_then hB1 hB1.size hb2⟩
      · have hres : resR r x0 sub true = (luser x0 sub, [⟨lkey x0 sub, luser x0 sub, false⟩], 0) := by unfold resR; rw [hgv]; simp only [if_true]; rw [if_neg hn]
        rw [hres]
        clear hres hgv
        have hn' : ¬ 32 ≤ ((r.map fun x => x.f0).filter fun k => preB k ⟨#[108]⟩).length := hn
        generalize ((r.map fun x => x.f0).filter fun k => preB k ⟨#[108]⟩) = ks at hkeys hn'
        obtain ⟨K, hK⟩ : ∃ K, K = lkey x0 sub := ⟨_, rfl⟩
        rw [← hK] at hkey ⊢
        clear hK
        have Hu := Lib.hid (show luser x0 sub = (x0 ++ ⟨#[58]⟩) ++ sub from rfl)
        go_enter Tryd.func7, Tryd.ntmps7
        go_wp2_with fail
        refine hfind.mono ?_
        rintro e w1 ⟨rfl, hb1⟩
        have hB1 := below_then hB0 hB0.size hb1
        have hc5 := (cell_later hb1 (blk_cell hz 5))
        have hkeys := hkeys w1 hB1
        go_wp2_with fail
        refine hkeys.mono ?_
        rintro e w2 ⟨v2, rfl, hr2, hb2⟩
        obtain ⟨A2, c2, e2⟩ := Kd.R_slice hr2
        subst e2
        have d1 : decide (32 ≤ (ks.length : Int)) = false := decide_eq_false (by omega)
        have hB2 := below_then hB1 hB1.size hb2
        have hkey := hkey w2 hB2
        have hc0 := cell_later hb2 (cell_later hb1 (blk_cell hz 0))
        go_wp2_with fail
        refine hkey.mono ?_
        rintro e w3 ⟨rfl, hb3⟩
        go_wp2_with fail
        go_ret3
        have hM := C_made (d := k41) (e := 41) w3 [(⟨K, (x0 ++ ⟨#[58]⟩) ++ sub, false⟩ : S41)] [.string K, .string ((x0 ++ ⟨#[58]⟩) ++ sub), .bool false] (show (1 : Nat) ≤ maxLen by decide) (Reps.c3 (k41_mkM _ _ _ (⟨K, (x0 ++ ⟨#[58]⟩) ++ sub, false⟩ : S41)) (Reps.none _ _))
        have hB3 := below_then hB2 hB2.size hb3
        rw [Hu.out]
        exact ⟨_, rfl, Kd.R_lower hM hB3.size, below_alloc hB3 _⟩
end Go.Proofs.YtpoblffgclmmlaaDoor.X
end
section
set_option linter.unusedVariables false
set_option linter.unusedSimpArgs false
namespace Go.Proofs.YtpoblffgclmmlaaDoor.X
open Go.RowKit Go.WideMaps Go.Maps Go.Proofs.YtpoblffgclmmlaaDoorW.PrintWords Go.Proofs.YtpoblffgclmmlaaDoorW.PrintLast Go.Proofs.YtpoblffgclmmlaaDoorW.PrintMore Go.Proofs.YtpoblffgclmmlaaDoor.Q

set_option maxHeartbeats 4000000 in
theorem answers15_says (w : World) (hGL : GL w) (hGP : GP w) : Calls Tryd.prog 6 #[] w fun e w' => e = .returned (.bool true) ∧ Below w.heap.size w w' := by
  have hst := stored15_says w none 0 [] ⟨rfl, by simp, fun h => absurd h (by simp)⟩ (Nat.le_refl _) (by simp) (by simp) hGL
  have hres : resR [] ⟨#[99]⟩ ⟨#[120]⟩ true = (⟨#[99, 58, 120]⟩, [⟨lkey ⟨#[99]⟩ ⟨#[120]⟩, ⟨#[99, 58, 120]⟩, false⟩], 0) := rfl
  go_enter Tryd.func6, Tryd.ntmps6
  go_wp2_with fail
  refine hst.mono ?_
  rintro e w1 ⟨hb1, ⟨hsb, rfl⟩ | ⟨hsb, s, v, rfl, hS, hR⟩⟩
  · exact absurd hsb (by decide)
  · have hl := lres_says w.heap.size s 3300000000200 [] ⟨#[99]⟩ ⟨#[]⟩ ⟨#[]⟩ ⟨#[]⟩ ⟨#[]⟩ true ⟨#[]⟩ ⟨#[120]⟩ (by decide) w1 hS (by omega) (hGP.below hb1)
    rw [hres] at hl
    clear hst hres
    go_wp2_with fail
    refine hl.mono ?_
    rintro e w2 ⟨v2, rfl, hr2, hb2⟩
    obtain ⟨A2, c2, e2⟩ := Kd.R_slice hr2
    subst e2
    go_wp2_with fail
    go_ret
    exact ⟨rfl, below_then hb1 hb1.size hb2⟩
end Go.Proofs.YtpoblffgclmmlaaDoor.X
end
section
set_option linter.unusedVariables false
set_option linter.unusedSimpArgs false
namespace Go.Proofs.YtpoblffgclmmlaaDoor.X
open Go.RowKit Go.WideMaps Go.Maps Go.Proofs.YtpoblffgclmmlaaDoorW.PrintWords Go.Proofs.YtpoblffgclmmlaaDoorW.PrintLast Go.Proofs.YtpoblffgclmmlaaDoorW.PrintMore Go.Proofs.YtpoblffgclmmlaaDoor.Q

theorem lkey_inj {c a b : ByteArray} (h : lkey c a = lkey c b) : a = b := by
  have h2 : (108 :: txs [c, a]) = (108 :: txs [c, b]) := congrArg (fun x : ByteArray => x.data.toList) h
  have h3 := txs_inj (List.cons.inj h2).2
  simpa using h3
theorem lkey_pre (c s : ByteArray) : preB (lkey c s) ⟨#[108]⟩ = true := by
  unfold preB
  rw [show (lkey c s).data.toList = 108 :: txs [c, s] from rfl]
  simp [Lib.hasPrefix]
theorem getR_has_iff {r : List S68} {k : ByteArray} : (getR r k).isSome = true ↔ ∃ x ∈ r, x.f0 = k := by
  unfold getR
  rw [Option.isSome_map, List.find?_isSome]
  simp
theorem getR_no {r : List S68} {k : ByteArray} (h : ∀ x ∈ r, x.f0 ≠ k) : getR r k = none := by
  cases hg : getR r k with
  | none => rfl
  | some v =>
    obtain ⟨x, hx, he⟩ := getR_has_iff.1 (show (getR r k).isSome = true by rw [hg]; rfl)
    exact absurd he (h x hx)
theorem resR_old {r : List S68} {c s v : ByteArray} {op : Bool} (h : getR r (lkey c s) = some v) : resR r c s op = (v, [], 0) := by
  unfold resR; rw [h]
theorem resR_new {r : List S68} {c s : ByteArray} (h : getR r (lkey c s) = none) (hn : (cnt r ⟨#[108]⟩).length < 32) : resR r c s true = (luser c s, [⟨lkey c s, luser c s, false⟩], 0) := by
  unfold resR; rw [h]; simp only [if_true]; rw [if_neg (by omega)]
theorem resR_full {r : List S68} {c s : ByteArray} (h : getR r (lkey c s) = none) (hn : 32 ≤ (cnt r ⟨#[108]⟩).length) : resR r c s true = (⟨#[]⟩, [], 7) := by
  unfold resR; rw [h]; simp only [if_true]; rw [if_pos hn]
theorem rec_one (K U : ByteArray) (g : Bool) (h : K.size + U.size ≤ 30000) : (recL [(⟨K, U, g⟩ : S41)]).length ≤ 32768 := by
  have := recL_small [(⟨K, U, g⟩ : S41)]
  simp [wgtS] at this
  omega
theorem wgtC_one (K U : ByteArray) (g : Bool) : wgtC [(⟨K, U, g⟩ : S41)] = 12 + K.size + U.size := by simp [wgtC]
theorem luser_size (c s : ByteArray) : (luser c s).size = c.size + 1 + s.size := by
  unfold luser; rw [ByteArray.size_append, ByteArray.size_append]; rfl
def ucs (j : Nat) : ByteArray := ⟨#[117, UInt8.ofNat (97 + j / 26), UInt8.ofNat (97 + j % 26)]⟩
theorem ucs_inj {i j : Nat} (hi : i < 60) (hj : j < 60) (h : ucs i = ucs j) : i = j := by
  have h2 := congrArg (fun x : ByteArray => x.data.toList) h
  simp only [ucs, List.cons.injEq, and_true, true_and] at h2
  obtain ⟨a, b⟩ := h2
  have a' := congrArg UInt8.toNat a
  have b' := congrArg UInt8.toNat b
  simp only [UInt8.toNat_ofNat'] at a' b'
  omega
theorem ucs_not (j : Nat) (s : ByteArray) : ucs j ≠ ⟨#[118]⟩ ++ s := by
  intro h
  have h2 := congrArg (fun x : ByteArray => x.data.toList) h
  simp [ucs, ByteArray.data_append] at h2
/-- Rows of m links. -/
structure Full (r : List S68) (m : Nat) : Prop where
  ris : Ris r
  len : r.length = m
  mem : ∀ k : ByteArray, (∃ x ∈ r, x.f0 = k) ↔ ∃ j, j < m ∧ k = lkey ⟨#[99]⟩ (ucs j)
  wgt : wgt r ≤ 200 * m
theorem Full.nil : Full [] 0 := ⟨List.Pairwise.nil, rfl, by simp, by simp [X.wgt]⟩
theorem Full.pre {r : List S68} {m : Nat} (h : Full r m) : (cnt r ⟨#[108]⟩).length = m := by
  unfold cnt
  rw [List.filter_eq_self.2, List.length_map, h.len]
  intro k hk
  obtain ⟨x, hx, rfl⟩ := List.mem_map.1 hk
  obtain ⟨j, _, e⟩ := (h.mem x.f0).1 ⟨x, hx, rfl⟩
  rw [e]; exact lkey_pre _ _
theorem Full.none {r : List S68} {m : Nat} (h : Full r m) {s : ByteArray} (hs : ∀ j, j < m → s ≠ ucs j) : getR r (lkey ⟨#[99]⟩ s) = Option.none := by
  refine getR_no fun x hx e => ?_
  obtain ⟨j, hj, e2⟩ := (h.mem (lkey ⟨#[99]⟩ s)).1 ⟨x, hx, e⟩
  exact hs j hj (lkey_inj e2)
theorem Full.some {r : List S68} {m : Nat} (h : Full r m) {j : Nat} (hj : j < m) : ∃ v, getR r (lkey ⟨#[99]⟩ (ucs j)) = Option.some v :=
  Option.isSome_iff_exists.1 (getR_has_iff.2 ((h.mem _).2 ⟨j, hj, rfl⟩))
theorem Full.step {r : List S68} {m : Nat} (h : Full r m) (hm : m < 60) (V : ByteArray) (hV : V.size ≤ 100) : Full (turn1 r ⟨lkey ⟨#[99]⟩ (ucs m), V, false⟩) (m + 1) := by
  have hno : ∀ x ∈ r, x.f0 ≠ lkey ⟨#[99]⟩ (ucs m) := by
    intro x hx e
    obtain ⟨j, hj, e2⟩ := (h.mem _).1 ⟨x, hx, e⟩
    have := ucs_inj (by omega) (by omega) (lkey_inj e2)
    omega
  refine ⟨h.ris.turn1 _, ?_, ?_, ?_⟩
  · obtain ⟨p1, p2, e, h1, h2, h3⟩ := turn1_put r ⟨lkey ⟨#[99]⟩ (ucs m), V, false⟩ rfl h.ris
    have ho : other (lkey ⟨#[99]⟩ (ucs m)) p2 = p2 := by
      unfold other
      rw [List.filter_eq_self]
      intro x hx
      exact decide_eq_true (hno x (by rw [e]; exact List.mem_append_right _ hx))
    rw [h3, ho]
    have := h.len
    rw [e] at this
    rw [List.length_append] at this ⊢
    rw [List.length_cons]; omega
  · intro k
    constructor
    · rintro ⟨x, hx, rfl⟩
      rcases (turn1_mem h.ris _ x).1 hx with ⟨h1, _⟩ | ⟨_, h1⟩
      · obtain ⟨j, hj, e⟩ := (h.mem _).1 ⟨x, h1, rfl⟩
        exact ⟨j, by omega, e⟩
      · exact ⟨m, by omega, by rw [h1]⟩
    · rintro ⟨j, hj, rfl⟩
      by_cases hjm : j = m
      · subst hjm
        exact ⟨⟨_, _⟩, (turn1_mem h.ris _ _).2 (.inr ⟨rfl, rfl⟩), rfl⟩
      · obtain ⟨x, hx, e⟩ := (h.mem (lkey ⟨#[99]⟩ (ucs j))).2 ⟨j, by omega, rfl⟩
        exact ⟨x, (turn1_mem h.ris _ _).2 (.inl ⟨hx, hno x hx⟩), e⟩
  · have h1 := wgt_turn1 h.ris ⟨lkey ⟨#[99]⟩ (ucs m), V, false⟩
    have h2 := lkey_size ⟨#[99]⟩ (ucs m) (by show 1 + 3 ≤ _; omega)
    have h3 := h.wgt
    have h4 : (ucs m).size = 3 := rfl
    have h5 : (⟨#[99]⟩ : ByteArray).size = 1 := rfl
    simp only at h1
    omega
/-- A block of another type stays, whatever a store does. -/
theorem TurO.blk {base : Nat} {w w' : World} (h : TurO base w w') {k ty : Nat} {cs : Array Value} {fz : Nat × Nat} (hc : w.heap[k]? = some (.cells cs ty fz)) (h1 : ty ≠ 66) (h2 : ty ≠ 56) (h3 : ty ≠ 5) : w'.heap[k]? = some (.cells cs ty fz) := by
  obtain ⟨S, hS, hk⟩ := h
  have hlt : k < w.heap.size := (Array.getElem?_eq_some_iff.1 hc).1
  rw [← hc]
  refine hS.kept.2 k hlt (fun hs => ?_)
  rcases (hk k hs).2 with ⟨cs', h⟩ | ⟨cs', h⟩ | ⟨cs', h⟩ <;> rw [hc] at h <;> simp only [Option.some.injEq, Obj.cells.injEq] at h
  · exact h1 h.2.1
  · exact h2 h.2.1
  · exact h3 h.2.1
/-- A cell of another type may be set beside a store. -/
theorem StW.set {base s N : Nat} {w : World} {r : List S68} (h : StW base w s r N) {g ty : Nat} {cs : Array Value} (hg : w.heap[g]? = some (.cells cs ty (0, 0))) (n1 : ty ≠ 66) (n2 : ty ≠ 56) (n3 : ty ≠ 5) (i : Nat) (v : Value) : StW base (w.setCell ⟨g, i, none⟩ v) s r N := by
  obtain ⟨t, T, ls, ⟨m, n, D, u, h1, h2, h3, h4⟩, h5⟩ := h
  have hk : Tur w (w.setCell ⟨g, i, none⟩ v) (fun k => k = g) := (Tur.refl w (fun k => k = g)).setCell (p := ⟨g, i, none⟩) (S := fun k => k = g) (.inl rfl) v
  refine ⟨t, T, ls, ⟨m, n, D, u, h1.kept hk ?_ ?_, TapeAt.kept h2 hk ?_ ?_, h3, h4⟩, h5⟩
  · exact blk_ne_ty h1.blk hg (fun e => n2 e.symm)
  · exact h1.map.ne hg
  · exact blk_ne_ty (TapeAt.blk h2) hg (fun e => n1 e.symm)
  · intro k hk2 he
    subst he
    exact TpAt.ne_cells h2 hg (fun e => n3 e.symm) hk2
end Go.Proofs.YtpoblffgclmmlaaDoor.X
end
section
set_option linter.unusedVariables false
set_option linter.unusedSimpArgs false
namespace Go.Proofs.YtpoblffgclmmlaaDoor.X
open Go.RowKit Go.WideMaps Go.Maps Go.Proofs.YtpoblffgclmmlaaDoorW.PrintWords Go.Proofs.YtpoblffgclmmlaaDoorW.PrintLast Go.Proofs.YtpoblffgclmmlaaDoorW.PrintMore Go.Proofs.YtpoblffgclmmlaaDoor.Q

theorem ucs_str (i : Nat) : strOfNums [97 + (i : Int) / 26, 97 + (i : Int) % 26] = ⟨#[UInt8.ofNat (97 + i / 26), UInt8.ofNat (97 + i % 26)]⟩ := by
  have e1 : (97 + (i : Int) / 26).toNat = 97 + i / 26 := by omega
  have e2 : (97 + (i : Int) % 26).toNat = 97 + i % 26 := by omega
  unfold strOfNums
  simp [e1, e2]
/-- The store's rows behind i rounds: so many links as there may be. -/
def FullW (base : Nat) (w : World) (s i : Nat) : Prop := ∃ r N, StW base w s r N ∧ N ≤ 3300000000200 + i ∧ Full r (min i 32)
theorem FullW.below {base s i : Nat} {w w' : World} (h : FullW base w s i) (hb : Below w.heap.size w w') : FullW base w' s i := by
  obtain ⟨r, N, h1, h2⟩ := h; exact ⟨r, N, h1.below hb, h2⟩
set_option maxHeartbeats 8000000 in
set_option maxRecDepth 100000 in
theorem LinkFull_walk (w : World) (n : Int) (hn : 0 ≤ n ∧ n < 256) (sub : ByteArray) (h0 : sub.size ≤ 140737488351232) (hGL : GL w) (hGP : GP w) :
    Calls Tryd.prog 3 #[.int .u8 n, .string sub] w fun e w' => e = .returned (.bool true) ∧ Below w.heap.size w w' := by
  have hans := fun w2 (hb : Below w.heap.size w w2) => answers15_says w2 (hGL.below hb) (hGP.below hb)
  have hst := stored15_says w none 0 [] ⟨rfl, by simp, fun h => absurd h (by simp)⟩ (Nat.le_refl _) (by simp) (by simp) hGL
  by_cases hbig : sub.size ≤ 100
  · have d1 : decide ((100 : Int) < (sub.size : Int)) = false := decide_eq_false (by omega)
    obtain ⟨m, hm⟩ : ∃ m : Nat, n.tmod 40 = (m : Int) ∧ m < 40 := ⟨(n % 40).toNat, by rw [Int.tmod_eq_emod_of_nonneg hn.1]; omega, by omega⟩
    obtain ⟨hm, hm40⟩ := hm
    have e1 : IntKind.u8.wrap (m : Int) = (m : Int) := by show ((m : Int) % 256) = _; omega
    have e2 : IntKind.i64.wrap (m : Int) = (m : Int) := IntWalk.i64_in _ (by omega)
    go_enter Tryd.func3, Tryd.ntmps3
    go_wp2_with fail
    refine hst.mono ?_
    clear hst
    rintro e w1 ⟨hb1, ⟨hsb, rfl⟩ | ⟨hsb, s, v, rfl, hS, hR⟩⟩
    · exact absurd hsb (by decide)
    · obtain ⟨Av, cv, rfl, _⟩ := hR.slice
      clear hsb hR
      have hz := heap_alloc_new w1 (.cells #[.string ⟨#[99]⟩, .string ⟨#[]⟩, .string ⟨#[]⟩, .string ⟨#[]⟩, .string ⟨#[]⟩, .bool true, .string ⟨#[]⟩] 29)
      have hB2 := below_alloc hb1 (.cells #[.string ⟨#[99]⟩, .string ⟨#[]⟩, .string ⟨#[]⟩, .string ⟨#[]⟩, .string ⟨#[]⟩, .bool true, .string ⟨#[]⟩] 29)
      have hF2 : FullW w.heap.size (w1.alloc (.cells #[.string ⟨#[99]⟩, .string ⟨#[]⟩, .string ⟨#[]⟩, .string ⟨#[]⟩, .string ⟨#[]⟩, .bool true, .string ⟨#[]⟩] 29)) s 0 := ⟨[], _, hS.below (below_alloc (Below.refl _ w1) _), by omega, Full.nil⟩
      clear hS
      go_wp2_with fail
      generalize w1.alloc (.cells #[.string ⟨#[99]⟩, .string ⟨#[]⟩, .string ⟨#[]⟩, .string ⟨#[]⟩, .string ⟨#[]⟩, .bool true, .string ⟨#[]⟩] 29) = w2 at hz hB2 hF2 ⊢
      go_loopw [10] (fun v10 wr => ∃ i : Nat, v10 = .int .i64 i ∧ i ≤ m ∧ FullW w.heap.size wr s i ∧ wr.heap[w1.heap.size]? = some (.cells #[.string ⟨#[99]⟩, .string ⟨#[]⟩, .string ⟨#[]⟩, .string ⟨#[]⟩, .string ⟨#[]⟩, .bool true, .string ⟨#[]⟩] 29 (0, 0)) ∧ Below w.heap.size w wr) (fun v10 _ => m - (intOf v10).toNat)
      case atStart => exact ⟨0, rfl, Nat.zero_le _, hF2, hz, hB2⟩
      case round =>
        clear hz hF2 hB2 hb1
        obtain ⟨i, rfl, hi, hF, hz, hB⟩ := hrel
        obtain ⟨r, N, hS, hN, hFu⟩ := hF
        have c0 : wr.cell? ⟨w1.heap.size, 0, none⟩ = some (.string ⟨#[99]⟩) := (blk_cell hz 0).trans rfl
        have c1 : wr.cell? ⟨w1.heap.size, 1, none⟩ = some (.string ⟨#[]⟩) := (blk_cell hz 1).trans rfl
        have c2 : wr.cell? ⟨w1.heap.size, 2, none⟩ = some (.string ⟨#[]⟩) := (blk_cell hz 2).trans rfl
        have c3 : wr.cell? ⟨w1.heap.size, 3, none⟩ = some (.string ⟨#[]⟩) := (blk_cell hz 3).trans rfl
        have c4 : wr.cell? ⟨w1.heap.size, 4, none⟩ = some (.string ⟨#[]⟩) := (blk_cell hz 4).trans rfl
        have c5 : wr.cell? ⟨w1.heap.size, 5, none⟩ = some (.bool true) := (blk_cell hz 5).trans rfl
        have c6 : wr.cell? ⟨w1.heap.size, 6, none⟩ = some (.string ⟨#[]⟩) := (blk_cell hz 6).trans rfl
        by_cases hlt : i < m
        · have d2 : decide ((i : Int) < (m : Int)) = true := decide_eq_true (by omega)
          have t1 : (i : Int).tdiv 26 = ((i / 26 : Nat) : Int) := by rw [Int.tdiv_eq_ediv_of_nonneg (by omega)]; rfl
          have t2 : (i : Int).tmod 26 = ((i % 26 : Nat) : Int) := by rw [Int.tmod_eq_emod_of_nonneg (by omega)]; rfl
          have u0 : IntKind.i64.wrap ((i / 26 : Nat) : Int) = ((i / 26 : Nat) : Int) := IntWalk.i64_in _ (by omega)
          have u1 : IntKind.u8.wrap ((i / 26 : Nat) : Int) = ((i / 26 : Nat) : Int) := by show (((i / 26 : Nat) : Int) % 256) = _; omega
          have u2 : IntKind.u8.wrap ((i % 26 : Nat) : Int) = ((i % 26 : Nat) : Int) := by show (((i % 26 : Nat) : Int) % 256) = _; omega
          have u3 : IntKind.u8.wrap (97 + ((i / 26 : Nat) : Int)) = 97 + ((i / 26 : Nat) : Int) := by show ((97 + ((i / 26 : Nat) : Int)) % 256) = _; omega
          have u4 : IntKind.u8.wrap (97 + ((i % 26 : Nat) : Int)) = 97 + ((i % 26 : Nat) : Int) := by show ((97 + ((i % 26 : Nat) : Int)) % 256) = _; omega
          have u5 : IntKind.i64.wrap ((i : Int) + 1) = (i : Int) + 1 := IntWalk.i64_in _ (by omega)
          have hR := C_made (d := Kd.int .u8) (e := 5) wr [97 + (i : Int) / 26, 97 + (i : Int) % 26] [.int .u8 (97 + (i : Int) / 26), .int .u8 (97 + (i : Int) % 26)] (show (2 : Nat) ≤ maxLen by decide) (Reps.one rfl (Reps.one rfl (Reps.none _ _)))
          have hcv : Sem.run Tryd.prog (convert 34 9 (.slice (some ⟨wr.heap.size, 0, none⟩) 2 2)) (wr.alloc (.cells #[.int .u8 (97 + (i : Int) / 26), .int .u8 (97 + (i : Int) % 26)] 5)) = .ok (.string (strOfNums [97 + (i : Int) / 26, 97 + (i : Int) % 26])) (wr.alloc (.cells #[.int .u8 (97 + (i : Int) / 26), .int .u8 (97 + (i : Int) % 26)] 5)) := own_string (P := Tryd.prog) (dst := 9) Tryd.underlying34 Tryd.underlying5 Tryd.underlying9 (Kd.own_of_R hR)
          have hks0 : strOfNums [97 + (i : Int) / 26, 97 + (i : Int) % 26] = ⟨#[UInt8.ofNat (97 + i / 26), UInt8.ofNat (97 + i % 26)]⟩ := ucs_str i
          obtain ⟨t, ht⟩ : ∃ t, strOfNums [97 + (i : Int) / 26, 97 + (i : Int) % 26] = t := ⟨_, rfl⟩
          rw [ht] at hks0 hcv
          have hcat : (⟨#[117]⟩ : ByteArray) ++ t = ucs i := by rw [hks0]; rfl
          have hts : t.size = 2 := by rw [hks0]; rfl
          have q1 : ((1 : Nat) + t.size ≤ 9223372036854775807) = True := eq_true (by omega)
          have q2 : (9223372036854775807 < (1 : Nat) + t.size) = False := eq_false (by omega)
          have hus : (ucs i).size = 3 := rfl
          have h99 : (⟨#[99]⟩ : ByteArray).size = 1 := rfl
          have hks := lkey_size ⟨#[99]⟩ (ucs i) (by omega)
          have hlu := luser_size ⟨#[99]⟩ (ucs i)
          have hB3 := below_alloc hB (.cells #[.int .u8 (97 + (i : Int) / 26), .int .u8 (97 + (i : Int) % 26)] 5)
          have hS3 := hS.below (below_alloc (Below.refl _ wr) (.cells #[.int .u8 (97 + (i : Int) / 26), .int .u8 (97 + (i : Int) % 26)] 5))
          have hz3 := blk_below hz (below_alloc (Below.refl _ wr) (.cells #[.int .u8 (97 + (i : Int) / 26), .int .u8 (97 + (i : Int) % 26)] 5))
          have hl := fun w' hS' hG => lres_says w.heap.size s N r ⟨#[99]⟩ ⟨#[]⟩ ⟨#[]⟩ ⟨#[]⟩ ⟨#[]⟩ true ⟨#[]⟩ (ucs i) (by omega) w' hS' (by omega) hG
          by_cases h32 : i < 32
          · have d3 : decide ((i : Int) < 32) = true := decide_eq_true (by omega)
            rw [Nat.min_eq_left (by omega)] at hFu
            have hres := resR_new (hFu.none (s := ucs i) (fun j hj e => by have := ucs_inj (by omega) (by omega) e; omega)) (by rw [hFu.pre]; exact h32)
            rw [hres] at hl
            simp only at hl
            have hst := hFu.step (by omega) (luser ⟨#[99]⟩ (ucs i)) (by omega)
            have hdo := fun A c w' (hB' : Below w.heap.size w w') (hS' : StW w.heap.size w' s r N) (hC : Kd.C k41 w' A 1 [⟨lkey ⟨#[99]⟩ (ucs i), luser ⟨#[99]⟩ (ucs i), false⟩]) (hc : 1 ≤ c) =>
              wdo_says s N r A c [⟨lkey ⟨#[99]⟩ (ucs i), luser ⟨#[99]⟩ (ucs i), false⟩] w w' hGL hB' hS' hC hc (by simp; omega) (rec_one _ _ _ (by omega)) (by have := hst.wgt; show 4 + wgt (turn1 r _) ≤ _; omega) (by have := hFu.wgt; rw [wgtC_one]; omega) (by intro x hx; simp only [List.mem_singleton] at hx; subst hx; unfold maxLen; simp only; omega)
            have Hst := Lib.hid hst
            have HN := Lib.hid hN
            have Hi := Lib.hid (show i + 1 ≤ m by omega)
            have H32 := Lib.hid h32
            have Hm := Lib.hid hm40
            clear hst hN hres hFu hks0 ht hR hks hlu hus hts h32 hi hlt
            generalize lkey ⟨#[99]⟩ (ucs i) = KK at *
            generalize luser ⟨#[99]⟩ (ucs i) = UU at *
            generalize ucs i = K at *
            go_wp2_with fail
            refine (hl _ hS3 (hGP.below hB3)).mono ?_
            clear hcv
            generalize wr.alloc (.cells #[.int .u8 (97 + (i : Int) / 26), .int .u8 (97 + (i : Int) % 26)] 5) = w3 at hB3 hS3 hz3 ⊢
            rintro e w4 ⟨v4, rfl, hr4, hb4⟩
            obtain ⟨A4, q4, e4⟩ := Kd.R_slice hr4
            subst e4
            have hd4 := Kd.R_reads' hr4
            simp only [List.length_singleton] at hd4 ⊢
            have hB4 := below_then hB3 hB3.size hb4
            have hS4 := hS3.below hb4
            have hz4 := blk_below hz3 hb4
            go_wp2_with fail
            refine (hdo A4 q4 w4 hB4 hS4 hd4.2.2 hd4.2.1).mono ?_
            rintro e w5 ⟨rfl, ht5, hS5⟩
            have hB5 := hB4.trans (ht5.below hB4.size)
            have hz5 := ht5.blk hz4 (by decide) (by decide) (by decide)
            go_wp2_with fail
            refine ⟨⟨i + 1, rfl, Hi.out, ⟨_, _, hS5, ?_, ?_⟩, hz5, hB5⟩, ?_⟩
            · have := HN.out; simp; omega
            · have := H32.out; rw [Nat.min_eq_left (by omega)]; exact Hst.out
            · have := Hi.out; simp only [intOf]; omega
          · have d3 : decide ((i : Int) < 32) = false := decide_eq_false (by omega)
            rw [Nat.min_eq_right (by omega)] at hFu
            have hres := resR_full (hFu.none (s := ucs i) (fun j hj e => by have := ucs_inj (by omega) (by omega) e; omega)) (by rw [hFu.pre]; exact Nat.le_refl _)
            rw [hres] at hl
            simp only at hl
            have hdo := fun A c w' (hB' : Below w.heap.size w w') (hS' : StW w.heap.size w' s r N) (hC : Kd.C k41 w' A 0 []) (hc : 0 ≤ c) =>
              wdo_says s N r A c [] w w' hGL hB' hS' hC hc (by simp; omega) (by decide) (by have := hFu.wgt; show 4 + wgt r ≤ _; omega) (by have := hFu.wgt; show 4 + wgt r + 0 ≤ _; omega) (by simp)
            have HF := Lib.hid hFu
            have HN := Lib.hid hN
            have Hi := Lib.hid (show i + 1 ≤ m by omega)
            have H32 := Lib.hid h32
            clear hN hres hFu hks0 ht hR hks hlu hus hts h32 hi hlt
            generalize ucs i = K at *
            go_wp2_with fail
            refine (hl _ hS3 (hGP.below hB3)).mono ?_
            clear hcv
            generalize wr.alloc (.cells #[.int .u8 (97 + (i : Int) / 26), .int .u8 (97 + (i : Int) % 26)] 5) = w3 at hB3 hS3 hz3 ⊢
            rintro e w4 ⟨v4, rfl, hr4, hb4⟩
            obtain ⟨A4, q4, e4⟩ := Kd.R_slice hr4
            subst e4
            have hd4 := Kd.R_reads' hr4
            simp only [List.length_nil] at hd4 ⊢
            have hB4 := below_then hB3 hB3.size hb4
            have hS4 := hS3.below hb4
            have hz4 := blk_below hz3 hb4
            go_wp2_with fail
            refine (hdo A4 q4 w4 hB4 hS4 hd4.2.2 hd4.2.1).mono ?_
            rintro e w5 ⟨rfl, ht5, hS5⟩
            have hB5 := hB4.trans (ht5.below hB4.size)
            have hz5 := ht5.blk hz4 (by decide) (by decide) (by decide)
            go_wp2_with fail
            refine ⟨⟨i + 1, rfl, Hi.out, ⟨_, _, hS5, ?_, ?_⟩, hz5, hB5⟩, ?_⟩
            · have := HN.out; simp; omega
            · have := H32.out; rw [Nat.min_eq_right (by omega)]; exact HF.out
            · have := Hi.out; simp only [intOf]; omega
        · have d2 : decide ((i : Int) < (m : Int)) = false := decide_eq_false (by omega)
          have him : i = m := by omega
          subst him
          have hus : (ucs 0).size = 3 := rfl
          have h99 : (⟨#[99]⟩ : ByteArray).size = 1 := rfl
          have h118 : (⟨#[118]⟩ : ByteArray).size = 1 := rfl
          have hvs : ((⟨#[118]⟩ : ByteArray) ++ sub).size = 1 + sub.size := by rw [ByteArray.size_append]; rfl
          have q1 : ((1 : Nat) + sub.size ≤ 9223372036854775807) = True := eq_true (by omega)
          have q2 : (9223372036854775807 < (1 : Nat) + sub.size) = False := eq_false (by omega)
          have hpre := hFu.pre
          have hnv : getR r (lkey ⟨#[99]⟩ ((⟨#[118]⟩ : ByteArray) ++ sub)) = none := hFu.none (fun j _ e => ucs_not j sub e.symm)
          have hres1 : ∃ U L, resR r ⟨#[99]⟩ (ucs 0) true = (U, L, 0) := by
            by_cases hi0 : 0 < i
            · obtain ⟨v, hv⟩ := hFu.some (j := 0) (by omega)
              exact ⟨_, _, resR_old hv⟩
            · exact ⟨_, _, resR_new (hFu.none (fun j hj => by omega)) (by rw [hpre]; omega)⟩
          have hres2 : ∃ U L, resR r ⟨#[99]⟩ ((⟨#[118]⟩ : ByteArray) ++ sub) true = (U, L, if i < 32 then 0 else 7) := by
            by_cases h32 : i < 32
            · rw [if_pos h32]; exact ⟨_, _, resR_new hnv (by rw [hpre]; omega)⟩
            · rw [if_neg h32]; exact ⟨_, _, resR_full hnv (by rw [hpre]; omega)⟩
          obtain ⟨U1, L1, hres1⟩ := hres1
          obtain ⟨U2, L2, hres2⟩ := hres2
          have hl1 := fun w' hS' hG => lres_says w.heap.size s N r ⟨#[99]⟩ ⟨#[]⟩ ⟨#[]⟩ ⟨#[]⟩ ⟨#[]⟩ true ⟨#[]⟩ (ucs 0) (by omega) w' hS' (by omega) hG
          have hl2 := fun w' hS' hG => lres_says w.heap.size s N r ⟨#[99]⟩ ⟨#[]⟩ ⟨#[]⟩ ⟨#[]⟩ ⟨#[]⟩ true ⟨#[]⟩ ((⟨#[118]⟩ : ByteArray) ++ sub) (by omega) w' hS' (by omega) hG
          rw [hres1] at hl1
          rw [hres2] at hl2
          simp only at hl1 hl2
          rw [show ucs 0 = ⟨#[117, 97, 97]⟩ from rfl] at hl1
          obtain ⟨E, hE⟩ : ∃ E : Int, E = if i < 32 then 0 else 7 := ⟨_, rfl⟩
          rw [← hE] at hl2
          have HE := Lib.hid hE
          clear hE hres1 hres2 hnv hpre hFu
          go_wp2_with fail
          refine (hl1 _ hS (hGP.below hB)).mono ?_
          rintro e w4 ⟨v4, rfl, hr4, hb4⟩
          clear c0 c1 c2 c3 c4 c5 c6
          have hB4 := below_then hB hB.size hb4
          have hS4 := hS.below hb4
          have hz4 := blk_below hz hb4
          have c0 : w4.cell? ⟨w1.heap.size, 0, none⟩ = some (.string ⟨#[99]⟩) := (blk_cell hz4 0).trans rfl
          have c1 : w4.cell? ⟨w1.heap.size, 1, none⟩ = some (.string ⟨#[]⟩) := (blk_cell hz4 1).trans rfl
          have c2 : w4.cell? ⟨w1.heap.size, 2, none⟩ = some (.string ⟨#[]⟩) := (blk_cell hz4 2).trans rfl
          have c3 : w4.cell? ⟨w1.heap.size, 3, none⟩ = some (.string ⟨#[]⟩) := (blk_cell hz4 3).trans rfl
          have c4 : w4.cell? ⟨w1.heap.size, 4, none⟩ = some (.string ⟨#[]⟩) := (blk_cell hz4 4).trans rfl
          have c5 : w4.cell? ⟨w1.heap.size, 5, none⟩ = some (.bool true) := (blk_cell hz4 5).trans rfl
          have c6 : w4.cell? ⟨w1.heap.size, 6, none⟩ = some (.string ⟨#[]⟩) := (blk_cell hz4 6).trans rfl
          go_wp2_with fail
          refine (hl2 _ hS4 (hGP.below hB4)).mono ?_
          rintro e w5 ⟨v5, rfl, hr5, hb5⟩
          clear c0 c1 c2 c3 c4 c5 c6
          have hB5 := below_then hB4 hB4.size hb5
          go_wp2_with fail
          refine (hans w5 hB5).mono ?_
          rintro e w6 ⟨rfl, hb6⟩
          have hB6 := below_then hB5 hB5.size hb6
          clear hl1 hl2 hans
          by_cases hi0 : 0 < i
          · have d4 : decide (0 < (i : Int)) = true := decide_eq_true (by omega)
            have d4' : decide (0 < i) = true := decide_eq_true hi0
            have d4'' : (0 < i) = True := eq_true hi0
            by_cases h32 : i < 32
            · have d5 : decide ((i : Int) < 32) = true := decide_eq_true (by omega)
              have hE : E = 0 := by rw [HE.out, if_pos h32]
              subst hE
              clear h32 hi0
              go_wp2_with fail
              go_ret
              exact ⟨rfl, hB6⟩
            · have d5 : decide ((i : Int) < 32) = false := decide_eq_false (by omega)
              have hE : E = 7 := by rw [HE.out, if_neg h32]
              subst hE
              clear h32 hi0
              go_wp2_with fail
              go_ret
              exact ⟨rfl, hB6⟩
          · have d4 : decide (0 < (i : Int)) = false := decide_eq_false (by omega)
            have d4' : decide (0 < i) = false := decide_eq_false hi0
            have d4'' : (0 < i) = False := eq_false hi0
            have d5 : decide ((i : Int) < 32) = true := decide_eq_true (by omega)
            have hE : E = 0 := by rw [HE.out, if_pos (by omega)]
            subst hE
            clear hi0
            go_wp2_with fail
            go_ret
            exact ⟨rfl, hB6⟩
  · have d1 : decide ((100 : Int) < (sub.size : Int)) = true := decide_eq_true (by omega)
    go_enter Tryd.func3, Tryd.ntmps3
    go_wp2_with fail
    refine hst.mono ?_
    clear hst
    rintro e w1 ⟨hb1, hor⟩
    rcases hor with ⟨hsb, rfl⟩ | ⟨hsb, s, v, rfl, hS, hR⟩
    · exact absurd hsb (by decide)
    · go_wp2_with fail
      refine (hans w1 hb1).mono ?_
      rintro e w2 ⟨rfl, hb2⟩
      go_wp2_with fail
      go_ret
      exact ⟨rfl, below_then hb1 hb1.size hb2⟩
theorem LinkFull_in (W : World) (n : Int) (hn : (Lit.int .u8 n).wf = true) (sub : ByteArray) (h0 : sub.size ≤ 140737488351232) (hGL : GL W) (hGP : GP W) :
    Calls Tryd.prog 3 #[.int .u8 n, .string sub] W fun e w' => e = .returned (.bool true) ∧ Below W.heap.size W w' :=
  LinkFull_walk W n (by simp [Lit.wf, IntKind.min, IntKind.max, IntKind.bits, IntKind.signed] at hn; omega) sub h0 hGL hGP
end Go.Proofs.YtpoblffgclmmlaaDoor.X
end
