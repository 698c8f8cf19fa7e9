/- LinkTwice: the tied card: whatever the input the law answers true and leaves it alone, the listed tables being as the program's text lays them; conditions: as the row's cells say ('laid') (part 21 of 24). -/
import Derived.Deep.RegionHeld3
import Derived.Test.YtpoblffgclmmlaaDoorPkPtw15
import Derived.Test.YtpoblffgclmmlaaDoorPkPtw18
import Derived.Test.YtpoblffgclmmlaaDoorPkPtw19
section
set_option linter.unusedVariables false
set_option linter.unusedSimpArgs false
namespace Go.Proofs.YtpoblffgclmmlaaDoor.X
open Go.RowKit Go.WideMaps Go.Maps Go.Proofs.YtpoblffgclmmlaaDoorW.PrintWords Go.Proofs.YtpoblffgclmmlaaDoorW.PrintLast Go.Proofs.YtpoblffgclmmlaaDoorW.PrintMore Go.Proofs.YtpoblffgclmmlaaDoor.Q

theorem ddLen (k : Nat) : ∀ n, n < 10 ^ (k + 1) → (dd n).length ≤ k + 1 := by
  induction k with
  | zero => intro n h; rw [dd_small (by simpa using h)]; exact Nat.le_refl _
  | succ k ih =>
    intro n h
    by_cases h10 : n < 10
    · rw [dd_small h10]; simp
    · rw [dd_big h10, List.length_append]
      have := ih (n / 10) (by rw [Nat.pow_succ] at h; omega)
      simp only [List.length_singleton]; omega
theorem ddLen20 (n : Nat) (h : n < 18446744073709551616) : (dd n).length ≤ 20 := ddLen 19 n (by omega)
theorem txs_len (l : List ByteArray) (h : ∀ x ∈ l, x.size < 18446744073709551616) : (txs l).length ≤ 21 * l.length + (l.map fun x => x.size).sum := by
  induction l with
  | nil => simp [txs]
  | cons s l ih =>
    have h1 := ddLen20 s.size (h s (List.mem_cons_self ..))
    have h2 := ih (fun x hx => h x (List.mem_cons_of_mem _ hx))
    rw [txs_cons]
    simp only [List.length_append, List.length_cons, Array.length_toList, ByteArray.size_data, List.map_cons, List.sum_cons]
    omega
theorem mkB_size (l : List UInt8) : (⟨l.toArray⟩ : ByteArray).size = l.length := by show (List.toArray _).size = _; simp
theorem cell_later {w w1 : World} {a : Addr} {v : Value} (hb : Below w.heap.size w w1) (h : w.cell? a = some v) : w1.cell? a = some v := (hb.cell (World.block_lt_of_cell? _ _ h)).trans h
/-- A link's key. -/
def lkey (conn sub : ByteArray) : ByteArray := ⟨(108 :: txs [conn, sub]).toArray⟩
theorem lkey_len (conn sub : ByteArray) (h : conn.size + sub.size ≤ 1000000) : (txs [conn, sub]).length ≤ 42 + (conn.size + sub.size) := by
  have := txs_len [conn, sub] (by
    intro x hx
    simp only [List.mem_cons, List.not_mem_nil, or_false] at hx
    rcases hx with e | e <;> subst e <;> omega)
  simpa using this
theorem lkey_size (conn sub : ByteArray) (h : conn.size + sub.size ≤ 1000000) : (lkey conn sub).size ≤ 43 + (conn.size + sub.size) := by
  have := lkey_len conn sub h
  unfold lkey
  rw [mkB_size, List.length_cons]; omega
theorem lkey_f (conn sub : ByteArray) (h : conn.size + sub.size ≤ 1000000) : link_Key.f conn sub = some (lkey conn sub) := by
  have := lkey_len conn sub h
  unfold link_Key.f row_Texts.f
  rw [if_pos (by omega), Option.bind_some, mkB_size, if_pos (by omega)]
  rfl
theorem lkey_says (conn sub : ByteArray) (h : conn.size + sub.size ≤ 1000000) (w : World) (hGP : GP w) :
    Calls Tryd.prog 15 #[.string conn, .string sub] w fun e w' => e = .returned (.string (lkey conn sub)) ∧ Below w.heap.size w w' :=
  link_Key.calls conn sub _ w (lkey_f conn sub h) hGP
set_option maxHeartbeats 4000000 in
theorem lfind_says (base s N : Nat) (r : List S68) (conn sub : ByteArray) (h : conn.size + sub.size ≤ 1000000) (w : World) (hS : StW base w s r N) (hGP : GP w) :
    Calls Tryd.prog 13 #[.pointer (some ⟨s, 0, none⟩), .string conn, .string sub] w fun e w' => e = .returned (.tuple #[.string ((getR r (lkey conn sub)).getD ⟨#[]⟩), .bool (getR r (lkey conn sub)).isSome]) ∧ Below w.heap.size w w' := by
  have hks := lkey_size conn sub h
  have hk := lkey_says conn sub h w hGP
  obtain ⟨K, hK⟩ : ∃ K, K = lkey conn sub := ⟨_, rfl⟩
  rw [← hK] at hk hks ⊢
  clear hK
  have hg := fun w1 (hb : Below w.heap.size w w1) => wget_says base s N r K (by unfold maxLen; omega) w1 (hS.below hb)
  go_enter Tryd.func13, Tryd.ntmps13
  go_wp2_with fail
  refine hk.mono ?_
  rintro e w1 ⟨rfl, hb1⟩
  have hg := hg w1 hb1
  go_wp2_with fail
  refine hg.mono ?_
  rintro e w2 ⟨rfl, rfl⟩
  go_wp2_with fail
  go_ret2
  exact ⟨rfl, hb1⟩
def cnt (r : List S68) (p : ByteArray) : List ByteArray := (r.map fun x => x.f0).filter fun k => preB k p
def luser (id sub : ByteArray) : ByteArray := (id ++ ⟨#[58]⟩) ++ sub
/-- Resolve, of rows alone. -/
def resR (r : List S68) (id sub : ByteArray) (op : Bool) : ByteArray × List S41 × Int :=
  match getR r (lkey id sub) with
  | some v => (v, [], 0)
  | none => if op = true then (if 32 ≤ (cnt r ⟨#[108]⟩).length then (⟨#[]⟩, [], 7) else (luser id sub, [⟨lkey id sub, luser id sub, false⟩], 0)) else (⟨#[]⟩, [], 6)
set_option maxHeartbeats 8000000 in
theorem lres_says (base s N : Nat) (r : List S68) (x0 x1 x2 x3 x4 : ByteArray) (op : Bool) (x6 sub : ByteArray) (h : x0.size + sub.size ≤ 1000000) (w : World) (hS : StW base w s r N) (hN : N ≤ 3400000000000) (hGP : GP w) :
    Calls Tryd.prog 7 #[.pointer (some ⟨s, 0, none⟩), .agg #[.string x0, .string x1, .string x2, .string x3, .string x4, .bool op, .string x6], .string sub] w fun e w' => ∃ v, e = .returned (.tuple #[.string (resR r x0 sub op).1, v, .int .i64 (resR r x0 sub op).2.2]) ∧
      Kd.R k41 41 w' w.heap.size (fun _ => True) v (resR r x0 sub op).2.1 ∧ Below w.heap.size w w' := by
  have hB0 : Below w.heap.size w (w.alloc (.cells #[.string x0, .string x1, .string x2, .string x3, .string x4, .bool op, .string x6] 29)) := (Below.refl _ w).alloc (Nat.le_refl _) _
  have hfind := lfind_says base s N r x0 sub h _ (hS.below hB0) (hGP.below hB0)
  have hkeys := fun w1 (hb : Below w.heap.size w w1) => wkeys_says base s N r ⟨#[108]⟩ w1 (hS.below hb) hN
  have hkey := fun w1 (hb : Below w.heap.size w w1) => lkey_says x0 sub h w1 (hGP.below hb)
  have hz := heap_alloc_new w (.cells #[.string x0, .string x1, .string x2, .string x3, .string x4, .bool op, .string x6] 29)
  have hu : x0.size + 1 ≤ 9223372036854775807 := by omega
  have hu2 : (x0 ++ (⟨#[58]⟩ : ByteArray)).size + sub.size ≤ 9223372036854775807 := by rw [ByteArray.size_append]; show _ + 1 + _ ≤ _; omega
  have huT := eq_true hu
  have huF : (9223372036854775807 < x0.size + 1) = False := eq_false (Nat.not_lt.2 hu)
  have hu2T := eq_true hu2
  have hu2F : (9223372036854775807 < (x0 ++ (⟨#[58]⟩ : ByteArray)).size + sub.size) = False := eq_false (Nat.not_lt.2 hu2)
  clear hu hu2
  cases hgv : getR r (lkey x0 sub) with
  | some v =>
    have hres : resR r x0 sub op = (v, [], 0) := by unfold resR; rw [hgv]
    rw [hres]
    rw [hgv] at hfind
    simp only [Option.getD_some, Option.isSome_some] at hfind
    clear hres hgv
    go_enter Tryd.func7, Tryd.ntmps7
    go_wp2_with fail
    refine hfind.mono ?_
    rintro e w1 ⟨rfl, hb1⟩
    go_wp2_with fail
    go_ret3
    exact ⟨_, rfl, Kd.R_nil _ _ _ _ _, below_then hB0 hB0.size hb1⟩
  | none =>
    rw [hgv] at hfind
    simp only [Option.getD_none, Option.isSome_none] at hfind
    cases op with
    | false =>
      have hres : resR r x0 sub false = (⟨#[]⟩, [], 6) := by unfold resR; rw [hgv]; rfl
      rw [hres]
      clear hres hgv
      go_enter Tryd.func7, Tryd.ntmps7
      go_wp2_with fail
      refine hfind.mono ?_
      rintro e w1 ⟨rfl, hb1⟩
      have hc5 := (cell_later hb1 (blk_cell hz 5))
      go_wp2_with fail
      go_ret3
      exact ⟨_, rfl, Kd.R_nil _ _ _ _ _, below_then hB0 hB0.size hb1⟩
    | true =>
      by_cases hn : 32 ≤ (cnt r ⟨#[108]⟩).length
      · have hres : resR r x0 sub true = (⟨#[]⟩, [], 7) := by unfold resR; rw [hgv]; simp only [if_true]; rw [if_pos hn]
        rw [hres]
        clear hres hgv
        have hn' : 32 ≤ ((r.map fun x => x.f0).filter fun k => preB k ⟨#[108]⟩).length := hn
        generalize ((r.map fun x => x.f0).filter fun k => preB k ⟨#[108]⟩) = ks at hkeys hn'
        go_enter Tryd.func7, Tryd.ntmps7
        go_wp2_with fail
        refine hfind.mono ?_
        rintro e w1 ⟨rfl, hb1⟩
        have hB1 := below_then hB0 hB0.size hb1
        have hc5 := (cell_later hb1 (blk_cell hz 5))
        have hkeys := hkeys w1 hB1
        go_wp2_with fail
        refine hkeys.mono ?_
        rintro e w2 ⟨v2, rfl, hr2, hb2⟩
        obtain ⟨A2, c2, e2⟩ := Kd.R_slice hr2
        subst e2
        have d1 : decide (32 ≤ (ks.length : Int)) = true := decide_eq_true (by omega)
        go_wp2_with fail
        go_ret3
        exact ⟨_, rfl, Kd.R_nil _ _ _ _ _, below_then hB1 hB1.size hb2⟩
      · have hres : resR r x0 sub true = (luser x0 sub, [⟨lkey x0 sub, luser x0 sub, false⟩], 0) := by unfold resR; rw [hgv]; simp only [if_true]; rw [if_neg hn]
        rw [hres]
        clear hres hgv
        have hn' : ¬ 32 ≤ ((r.map fun x => x.f0).filter fun k => preB k ⟨#[108]⟩).length := hn
        generalize ((r.map fun x => x.f0).filter fun k => preB k ⟨#[108]⟩) = ks at hkeys hn'
        obtain ⟨K, hK⟩ : ∃ K, K = lkey x0 sub := ⟨_, rfl⟩
        rw [← hK] at hkey ⊢
        clear hK
        have Hu := Lib.hid (show luser x0 sub = (x0 ++ ⟨#[58]⟩) ++ sub from rfl)
        go_enter Tryd.func7, Tryd.ntmps7
        go_wp2_with fail
        refine hfind.mono ?_
        rintro e w1 ⟨rfl, hb1⟩
        have hB1 := below_then hB0 hB0.size hb1
        have hc5 := (cell_later hb1 (blk_cell hz 5))
        have hkeys := hkeys w1 hB1
        go_wp2_with fail
        refine hkeys.mono ?_
        rintro e w2 ⟨v2, rfl, hr2, hb2⟩
        obtain ⟨A2, c2, e2⟩ := Kd.R_slice hr2
        subst e2
        have d1 : decide (32 ≤ (ks.length : Int)) = false := decide_eq_false (by omega)
        have hB2 := below_then hB1 hB1.size hb2
        have hkey := hkey w2 hB2
        have hc0 := cell_later hb2 (cell_later hb1 (blk_cell hz 0))
        go_wp2_with fail
        refine hkey.mono ?_
        rintro e w3 ⟨rfl, hb3⟩
        go_wp2_with fail
        go_ret3
        have hM := C_made (d := k41) (e := 41) w3 [(⟨K, (x0 ++ ⟨#[58]⟩) ++ sub, false⟩ : S41)] [.string K, .string ((x0 ++ ⟨#[58]⟩) ++ sub), .bool false] (show (1 : Nat) ≤ maxLen by decide) (Reps.c3 (k41_mkM _ _ _ (⟨K, (x0 ++ ⟨#[58]⟩) ++ sub, false⟩ : S41)) (Reps.none _ _))
        have hB3 := below_then hB2 hB2.size hb3
        rw [Hu.out]
        exact ⟨_, rfl, Kd.R_lower hM hB3.size, below_alloc hB3 _⟩
/-- Remove, of rows alone. -/
def remR (r : List S68) (conn sub : ByteArray) : List S41 := if (getR r (lkey conn sub)).isSome = true then [⟨lkey conn sub, ⟨#[]⟩, true⟩] else []
set_option maxHeartbeats 4000000 in
theorem lrem_says (base s N : Nat) (r : List S68) (conn sub : ByteArray) (h : conn.size + sub.size ≤ 1000000) (w : World) (hS : StW base w s r N) (hGP : GP w) :
    Calls Tryd.prog 9 #[.pointer (some ⟨s, 0, none⟩), .string conn, .string sub] w fun e w' => ∃ v, e = .returned (.tuple #[v, .bool (getR r (lkey conn sub)).isSome]) ∧
      Kd.R k41 41 w' w.heap.size (fun _ => True) v (remR r conn sub) ∧ Below w.heap.size w w' := by
  have hfind := lfind_says base s N r conn sub h w hS hGP
  have hkey := fun w1 (hb : Below w.heap.size w w1) => lkey_says conn sub h w1 (hGP.below hb)
  have Hr := Lib.hid (show remR r conn sub = if (getR r (lkey conn sub)).isSome = true then [⟨lkey conn sub, ⟨#[]⟩, true⟩] else [] from rfl)
  obtain ⟨K, hK⟩ : ∃ K, K = lkey conn sub := ⟨_, rfl⟩
  rw [← hK] at hkey hfind Hr ⊢
  clear hK
  obtain ⟨g, hg⟩ : ∃ g, g = getR r K := ⟨_, rfl⟩
  rw [← hg] at hfind Hr ⊢
  clear hg
  obtain ⟨R, hR⟩ : ∃ R, R = remR r conn sub := ⟨_, rfl⟩
  rw [← hR] at Hr ⊢
  clear hR
  cases g with
  | none =>
    simp only [Option.getD_none, Option.isSome_none] at hfind
    go_enter Tryd.func9, Tryd.ntmps9
    go_wp2_with fail
    refine hfind.mono ?_
    rintro e w1 ⟨rfl, hb1⟩
    go_wp2_with fail
    go_ret2
    rw [Hr.out]
    exact ⟨_, rfl, Kd.R_nil _ _ _ _ _, hb1⟩
  | some v =>
    simp only [Option.getD_some, Option.isSome_some] at hfind
    go_enter Tryd.func9, Tryd.ntmps9
    go_wp2_with fail
    refine hfind.mono ?_
    rintro e w1 ⟨rfl, hb1⟩
    have hkey := hkey w1 hb1
    go_wp2_with fail
    refine hkey.mono ?_
    rintro e w2 ⟨rfl, hb2⟩
    have hB2 := below_then hb1 hb1.size hb2
    go_wp2_with fail
    go_ret2
    have hM := C_made (d := k41) (e := 41) w2 [(⟨K, ⟨#[]⟩, true⟩ : S41)] [.string K, .string ⟨#[]⟩, .bool true] (show (1 : Nat) ≤ maxLen by decide) (Reps.c3 (k41_mkM _ _ _ (⟨K, ⟨#[]⟩, true⟩ : S41)) (Reps.none _ _))
    rw [Hr.out]
    exact ⟨_, rfl, Kd.R_lower hM hB2.size, below_alloc hB2 _⟩
end Go.Proofs.YtpoblffgclmmlaaDoor.X
end
section
set_option linter.unusedVariables false
set_option linter.unusedSimpArgs false
namespace Go.Proofs.YtpoblffgclmmlaaDoor.X
open Go.RowKit Go.WideMaps Go.Maps Go.Proofs.YtpoblffgclmmlaaDoorW.PrintWords Go.Proofs.YtpoblffgclmmlaaDoorW.PrintLast Go.Proofs.YtpoblffgclmmlaaDoorW.PrintMore Go.Proofs.YtpoblffgclmmlaaDoor.Q

set_option maxHeartbeats 4000000 in
theorem answers15_says (w : World) (hGL : GL w) (hGP : GP w) : Calls Tryd.prog 6 #[] w fun e w' => e = .returned (.bool true) ∧ Below w.heap.size w w' := by
  have hst := stored15_says w none 0 [] ⟨rfl, by simp, fun h => absurd h (by simp)⟩ (Nat.le_refl _) (by simp) (by simp) hGL
  have hres : resR [] ⟨#[99]⟩ ⟨#[120]⟩ true = (⟨#[99, 58, 120]⟩, [⟨lkey ⟨#[99]⟩ ⟨#[120]⟩, ⟨#[99, 58, 120]⟩, false⟩], 0) := rfl
  go_enter Tryd.func6, Tryd.ntmps6
  go_wp2_with fail
  refine hst.mono ?_
  rintro e w1 ⟨hb1, ⟨hsb, rfl⟩ | ⟨hsb, s, v, rfl, hS, hR⟩⟩
  · exact absurd hsb (by decide)
  · have hl := lres_says w.heap.size s 3300000000200 [] ⟨#[99]⟩ ⟨#[]⟩ ⟨#[]⟩ ⟨#[]⟩ ⟨#[]⟩ true ⟨#[]⟩ ⟨#[120]⟩ (by decide) w1 hS (by omega) (hGP.below hb1)
    rw [hres] at hl
    clear hst hres
    go_wp2_with fail
    refine hl.mono ?_
    rintro e w2 ⟨v2, rfl, hr2, hb2⟩
    obtain ⟨A2, c2, e2⟩ := Kd.R_slice hr2
    subst e2
    go_wp2_with fail
    go_ret
    exact ⟨rfl, below_then hb1 hb1.size hb2⟩
end Go.Proofs.YtpoblffgclmmlaaDoor.X
end
section
set_option linter.unusedVariables false
set_option linter.unusedSimpArgs false
namespace Go.Proofs.YtpoblffgclmmlaaDoor.X
open Go.RowKit Go.WideMaps Go.Maps Go.Proofs.YtpoblffgclmmlaaDoorW.PrintWords Go.Proofs.YtpoblffgclmmlaaDoorW.PrintLast Go.Proofs.YtpoblffgclmmlaaDoorW.PrintMore Go.Proofs.YtpoblffgclmmlaaDoor.Q

theorem lkey_inj {c a b : ByteArray} (h : lkey c a = lkey c b) : a = b := by
  have h2 : (108 :: txs [c, a]) = (108 :: txs [c, b]) := congrArg (fun x : ByteArray => x.data.toList) h
  have h3 := txs_inj (List.cons.inj h2).2
  simpa using h3
theorem lkey_pre (c s : ByteArray) : preB (lkey c s) ⟨#[108]⟩ = true := by
  unfold preB
  rw [show (lkey c s).data.toList = 108 :: txs [c, s] from rfl]
  simp [Lib.hasPrefix]
theorem getR_has_iff {r : List S68} {k : ByteArray} : (getR r k).isSome = true ↔ ∃ x ∈ r, x.f0 = k := by
  unfold getR
  rw [Option.isSome_map, List.find?_isSome]
  simp
theorem getR_no {r : List S68} {k : ByteArray} (h : ∀ x ∈ r, x.f0 ≠ k) : getR r k = none := by
  cases hg : getR r k with
  | none => rfl
  | some v =>
    obtain ⟨x, hx, he⟩ := getR_has_iff.1 (show (getR r k).isSome = true by rw [hg]; rfl)
    exact absurd he (h x hx)
theorem resR_old {r : List S68} {c s v : ByteArray} {op : Bool} (h : getR r (lkey c s) = some v) : resR r c s op = (v, [], 0) := by
  unfold resR; rw [h]
theorem resR_new {r : List S68} {c s : ByteArray} (h : getR r (lkey c s) = none) (hn : (cnt r ⟨#[108]⟩).length < 32) : resR r c s true = (luser c s, [⟨lkey c s, luser c s, false⟩], 0) := by
  unfold resR; rw [h]; simp only [if_true]; rw [if_neg (by omega)]
theorem resR_shut {r : List S68} {c s : ByteArray} (h : getR r (lkey c s) = none) : resR r c s false = (⟨#[]⟩, [], 6) := by
  unfold resR; rw [h]; rfl
theorem turn_one (K U : ByteArray) : turnR [] [⟨K, U, false⟩] = [⟨K, U⟩] := rfl
theorem turn_gone1 (K U : ByteArray) : turnR [⟨K, U⟩] [⟨K, ⟨#[]⟩, true⟩] = [] := by
  show turn1 [⟨K, U⟩] ⟨K, ⟨#[]⟩, true⟩ = []
  rw [turn1_gone _ _ rfl]
  simp [other]
theorem get_one (K U : ByteArray) : getR [⟨K, U⟩] K = some U := by simp [getR]
theorem get_one_no {K K' U : ByteArray} (h : K ≠ K') : getR [⟨K, U⟩] K' = none := getR_no (by simp; exact h)
theorem rec_one (K U : ByteArray) (g : Bool) (h : K.size + U.size ≤ 30000) : (recL [(⟨K, U, g⟩ : S41)]).length ≤ 32768 := by
  have := recL_small [(⟨K, U, g⟩ : S41)]
  simp [wgtS] at this
  omega
theorem wgtC_one (K U : ByteArray) (g : Bool) : wgtC [(⟨K, U, g⟩ : S41)] = 12 + K.size + U.size := by simp [wgtC]
theorem luser_size (c s : ByteArray) : (luser c s).size = c.size + 1 + s.size := by
  unfold luser; rw [ByteArray.size_append, ByteArray.size_append]; rfl
def ucs (j : Nat) : ByteArray := ⟨#[117, UInt8.ofNat (97 + j / 26), UInt8.ofNat (97 + j % 26)]⟩
theorem ucs_inj {i j : Nat} (hi : i < 60) (hj : j < 60) (h : ucs i = ucs j) : i = j := by
  have h2 := congrArg (fun x : ByteArray => x.data.toList) h
  simp only [ucs, List.cons.injEq, and_true, true_and] at h2
  obtain ⟨a, b⟩ := h2
  have a' := congrArg UInt8.toNat a
  have b' := congrArg UInt8.toNat b
  simp only [UInt8.toNat_ofNat'] at a' b'
  omega
/-- Rows of m links. -/
structure Full (r : List S68) (m : Nat) : Prop where
  ris : Ris r
  len : r.length = m
  mem : ∀ k : ByteArray, (∃ x ∈ r, x.f0 = k) ↔ ∃ j, j < m ∧ k = lkey ⟨#[99]⟩ (ucs j)
  wgt : wgt r ≤ 200 * m
theorem Full.nil : Full [] 0 := ⟨List.Pairwise.nil, rfl, by simp, by simp [X.wgt]⟩
theorem Full.pre {r : List S68} {m : Nat} (h : Full r m) : (cnt r ⟨#[108]⟩).length = m := by
  unfold cnt
  rw [List.filter_eq_self.2, List.length_map, h.len]
  intro k hk
  obtain ⟨x, hx, rfl⟩ := List.mem_map.1 hk
  obtain ⟨j, _, e⟩ := (h.mem x.f0).1 ⟨x, hx, rfl⟩
  rw [e]; exact lkey_pre _ _
theorem Full.none {r : List S68} {m : Nat} (h : Full r m) {s : ByteArray} (hs : ∀ j, j < m → s ≠ ucs j) : getR r (lkey ⟨#[99]⟩ s) = Option.none := by
  refine getR_no fun x hx e => ?_
  obtain ⟨j, hj, e2⟩ := (h.mem (lkey ⟨#[99]⟩ s)).1 ⟨x, hx, e⟩
  exact hs j hj (lkey_inj e2)
theorem Full.some {r : List S68} {m : Nat} (h : Full r m) {j : Nat} (hj : j < m) : ∃ v, getR r (lkey ⟨#[99]⟩ (ucs j)) = Option.some v :=
  Option.isSome_iff_exists.1 (getR_has_iff.2 ((h.mem _).2 ⟨j, hj, rfl⟩))
theorem Full.step {r : List S68} {m : Nat} (h : Full r m) (hm : m < 60) (V : ByteArray) (hV : V.size ≤ 100) : Full (turn1 r ⟨lkey ⟨#[99]⟩ (ucs m), V, false⟩) (m + 1) := by
  have hno : ∀ x ∈ r, x.f0 ≠ lkey ⟨#[99]⟩ (ucs m) := by
    intro x hx e
    obtain ⟨j, hj, e2⟩ := (h.mem _).1 ⟨x, hx, e⟩
    have := ucs_inj (by omega) (by omega) (lkey_inj e2)
    omega
  refine ⟨h.ris.turn1 _, ?_, ?_, ?_⟩
  · obtain ⟨p1, p2, e, h1, h2, h3⟩ := turn1_put r ⟨lkey ⟨#[99]⟩ (ucs m), V, false⟩ rfl h.ris
    have ho : other (lkey ⟨#[99]⟩ (ucs m)) p2 = p2 := by
      unfold other
      rw [List.filter_eq_self]
      intro x hx
      exact decide_eq_true (hno x (by rw [e]; exact List.mem_append_right _ hx))
    rw [h3, ho]
    have := h.len
    rw [e] at this
    rw [List.length_append] at this ⊢
    rw [List.length_cons]; omega
  · intro k
    constructor
    · rintro ⟨x, hx, rfl⟩
      rcases (turn1_mem h.ris _ x).1 hx with ⟨h1, _⟩ | ⟨_, h1⟩
      · obtain ⟨j, hj, e⟩ := (h.mem _).1 ⟨x, h1, rfl⟩
        exact ⟨j, by omega, e⟩
      · exact ⟨m, by omega, by rw [h1]⟩
    · rintro ⟨j, hj, rfl⟩
      by_cases hjm : j = m
      · subst hjm
        exact ⟨⟨_, _⟩, (turn1_mem h.ris _ _).2 (.inr ⟨rfl, rfl⟩), rfl⟩
      · obtain ⟨x, hx, e⟩ := (h.mem (lkey ⟨#[99]⟩ (ucs j))).2 ⟨j, by omega, rfl⟩
        exact ⟨x, (turn1_mem h.ris _ _).2 (.inl ⟨hx, hno x hx⟩), e⟩
  · have h1 := wgt_turn1 h.ris ⟨lkey ⟨#[99]⟩ (ucs m), V, false⟩
    have h2 := lkey_size ⟨#[99]⟩ (ucs m) (by show 1 + 3 ≤ _; omega)
    have h3 := h.wgt
    have h4 : (ucs m).size = 3 := rfl
    have h5 : (⟨#[99]⟩ : ByteArray).size = 1 := rfl
    simp only at h1
    omega
/-- A block of another type stays, whatever a store does. -/
theorem TurO.blk {base : Nat} {w w' : World} (h : TurO base w w') {k ty : Nat} {cs : Array Value} {fz : Nat × Nat} (hc : w.heap[k]? = some (.cells cs ty fz)) (h1 : ty ≠ 66) (h2 : ty ≠ 56) (h3 : ty ≠ 5) : w'.heap[k]? = some (.cells cs ty fz) := by
  obtain ⟨S, hS, hk⟩ := h
  have hlt : k < w.heap.size := (Array.getElem?_eq_some_iff.1 hc).1
  rw [← hc]
  refine hS.kept.2 k hlt (fun hs => ?_)
  rcases (hk k hs).2 with ⟨cs', h⟩ | ⟨cs', h⟩ | ⟨cs', h⟩ <;> rw [hc] at h <;> simp only [Option.some.injEq, Obj.cells.injEq] at h
  · exact h1 h.2.1
  · exact h2 h.2.1
  · exact h3 h.2.1
/-- A cell of another type may be set beside a store. -/
theorem StW.set {base s N : Nat} {w : World} {r : List S68} (h : StW base w s r N) {g ty : Nat} {cs : Array Value} (hg : w.heap[g]? = some (.cells cs ty (0, 0))) (n1 : ty ≠ 66) (n2 : ty ≠ 56) (n3 : ty ≠ 5) (i : Nat) (v : Value) : StW base (w.setCell ⟨g, i, none⟩ v) s r N := by
  obtain ⟨t, T, ls, ⟨m, n, D, u, h1, h2, h3, h4⟩, h5⟩ := h
  have hk : Tur w (w.setCell ⟨g, i, none⟩ v) (fun k => k = g) := (Tur.refl w (fun k => k = g)).setCell (p := ⟨g, i, none⟩) (S := fun k => k = g) (.inl rfl) v
  refine ⟨t, T, ls, ⟨m, n, D, u, h1.kept hk ?_ ?_, TapeAt.kept h2 hk ?_ ?_, h3, h4⟩, h5⟩
  · exact blk_ne_ty h1.blk hg (fun e => n2 e.symm)
  · exact h1.map.ne hg
  · exact blk_ne_ty (TapeAt.blk h2) hg (fun e => n1 e.symm)
  · intro k hk2 he
    subst he
    exact TpAt.ne_cells h2 hg (fun e => n3 e.symm) hk2
end Go.Proofs.YtpoblffgclmmlaaDoor.X
end
section
set_option linter.unusedVariables false
set_option linter.unusedSimpArgs false
namespace Go.Proofs.YtpoblffgclmmlaaDoor.X
open Go.RowKit Go.WideMaps Go.Maps Go.Proofs.YtpoblffgclmmlaaDoorW.PrintWords Go.Proofs.YtpoblffgclmmlaaDoorW.PrintLast Go.Proofs.YtpoblffgclmmlaaDoorW.PrintMore Go.Proofs.YtpoblffgclmmlaaDoor.Q

set_option maxHeartbeats 8000000 in
set_option maxRecDepth 100000 in
theorem LinkTwice_walk (w : World) (conn a b : ByteArray) (h0 : conn.size ≤ 140737488351232) (h1 : a.size ≤ 140737488351232) (h2 : b.size ≤ 140737488351232) (hGL : GL w) (hGP : GP w) :
    Calls Tryd.prog 4 #[.string conn, .string a, .string b] w fun e w' => e = .returned (.bool true) ∧ Below w.heap.size w w' := by
  have e1 : IntKind.i64.wrap ((conn.size : Int) + (a.size : Int)) = (conn.size : Int) + (a.size : Int) := IntWalk.i64_in _ (by omega)
  have e2 : IntKind.i64.wrap ((conn.size : Int) + (a.size : Int) + (b.size : Int)) = (conn.size : Int) + (a.size : Int) + (b.size : Int) := IntWalk.i64_in _ (by omega)
  have hans := fun w2 (hb : Below w.heap.size w w2) => answers15_says w2 (hGL.below hb) (hGP.below hb)
  have hst := stored15_says w none 0 [] ⟨rfl, by simp, fun h => absurd h (by simp)⟩ (Nat.le_refl _) (by simp) (by simp) hGL
  by_cases hbig : conn.size + a.size + b.size ≤ 1000
  · have d1 : decide ((1000 : Int) < (conn.size : Int) + (a.size : Int) + (b.size : Int)) = false := decide_eq_false (by omega)
    -- what each call comes to, of rows alone
    have hsa : conn.size + a.size ≤ 1000000 := by omega
    have hsb2 : conn.size + b.size ≤ 1000000 := by omega
    have hK := lkey_size conn a hsa
    have hU := luser_size conn a
    have r1 : resR [] conn a true = (luser conn a, [⟨lkey conn a, luser conn a, false⟩], 0) := resR_new rfl (by decide)
    have r2 : resR [⟨lkey conn a, luser conn a⟩] conn a false = (luser conn a, [], 0) := resR_old (get_one _ _)
    have r3 : ∃ (ub : ByteArray) (cd : Int), resR [⟨lkey conn a, luser conn a⟩] conn b false = (ub, [], cd) ∧ cd = if a = b then 0 else 6 := by
      by_cases hab : a = b
      · subst hab; exact ⟨_, _, r2, by rw [if_pos rfl]⟩
      · exact ⟨_, _, resR_shut (get_one_no (fun e => hab (lkey_inj e))), by rw [if_neg hab]⟩
    have r4 : resR [] conn a false = (⟨#[]⟩, [], 6) := resR_shut rfl
    have r5 : remR [⟨lkey conn a, luser conn a⟩] conn a = [⟨lkey conn a, ⟨#[]⟩, true⟩] := by unfold remR; rw [get_one]; rfl
    have r6 : (getR [(⟨lkey conn a, luser conn a⟩ : S68)] (lkey conn a)).isSome = true := by rw [get_one]; rfl
    have t1 := turn_one (lkey conn a) (luser conn a)
    have t2 := turn_gone1 (lkey conn a) (luser conn a)
    have m1 := rec_one (lkey conn a) (luser conn a) false (by omega)
    have m2 := rec_one (lkey conn a) ⟨#[]⟩ true (by show _ + 0 ≤ _; omega)
    have m3 := wgtC_one (lkey conn a) (luser conn a) false
    have m4 := wgtC_one (lkey conn a) ⟨#[]⟩ true
    have m5 : wgt [(⟨lkey conn a, luser conn a⟩ : S68)] = 12 + (lkey conn a).size + (luser conn a).size := by simp [wgt]
    have m6 : ((⟨#[]⟩ : ByteArray)).size = 0 := rfl
    have hl1 := fun s N w' (hS : StW w.heap.size w' s [] N) (hN : N ≤ 3400000000000) (hG : GP w') => lres_says w.heap.size s N [] conn ⟨#[]⟩ ⟨#[]⟩ ⟨#[]⟩ ⟨#[]⟩ true ⟨#[]⟩ a hsa w' hS hN hG
    have hl2 := fun s N w' (hS : StW w.heap.size w' s [⟨lkey conn a, luser conn a⟩] N) (hN : N ≤ 3400000000000) (hG : GP w') => lres_says w.heap.size s N [⟨lkey conn a, luser conn a⟩] conn ⟨#[]⟩ ⟨#[]⟩ ⟨#[]⟩ ⟨#[]⟩ false ⟨#[]⟩ a hsa w' hS hN hG
    have hl3 := fun s N w' (hS : StW w.heap.size w' s [⟨lkey conn a, luser conn a⟩] N) (hN : N ≤ 3400000000000) (hG : GP w') => lres_says w.heap.size s N [⟨lkey conn a, luser conn a⟩] conn ⟨#[]⟩ ⟨#[]⟩ ⟨#[]⟩ ⟨#[]⟩ false ⟨#[]⟩ b hsb2 w' hS hN hG
    have hl4 := fun s N w' (hS : StW w.heap.size w' s [] N) (hN : N ≤ 3400000000000) (hG : GP w') => lres_says w.heap.size s N [] conn ⟨#[]⟩ ⟨#[]⟩ ⟨#[]⟩ ⟨#[]⟩ false ⟨#[]⟩ a hsa w' hS hN hG
    have hrm := fun s N w' (hS : StW w.heap.size w' s [⟨lkey conn a, luser conn a⟩] N) (hG : GP w') => lrem_says w.heap.size s N [⟨lkey conn a, luser conn a⟩] conn a hsa w' hS hG
    simp only [r1] at hl1
    simp only [r2] at hl2
    obtain ⟨ub, cd, r3, hcd⟩ := r3
    have Hcd := Lib.hid hcd
    clear hcd
    simp only [r3] at hl3
    simp only [r4] at hl4
    simp only [r5, r6] at hrm
    have hd1 := fun s A c w' (hB : Below w.heap.size w w') (hS : StW w.heap.size w' s [] 3300000000200) (hC : Kd.C k41 w' A 1 [⟨lkey conn a, luser conn a, false⟩]) (hc : 1 ≤ c) =>
      wdo_says s 3300000000200 [] A c [⟨lkey conn a, luser conn a, false⟩] w w' hGL hB hS hC hc (by simp) m1 (by rw [t1, m5]; omega) (by rw [m3]; show 4 + 0 + _ ≤ _; omega) (by intro x hx; simp only [List.mem_singleton] at hx; subst hx; unfold maxLen; simp only; omega)
    have hd2 := fun s A c w' (hB : Below w.heap.size w w') (hS : StW w.heap.size w' s [⟨lkey conn a, luser conn a⟩] 3300000000201) (hC : Kd.C k41 w' A 1 [⟨lkey conn a, ⟨#[]⟩, true⟩]) (hc : 1 ≤ c) =>
      wdo_says s 3300000000201 [⟨lkey conn a, luser conn a⟩] A c [⟨lkey conn a, ⟨#[]⟩, true⟩] w w' hGL hB hS hC hc (by simp) m2 (by rw [t2]; show 4 + 0 ≤ _; omega) (by rw [m4, m5, m6]; omega) (by intro x hx; simp only [List.mem_singleton] at hx; subst hx; unfold maxLen; simp only [m6]; omega)
    simp only [t1] at hd1
    simp only [t2] at hd2
    generalize lkey conn a = K at *
    generalize luser conn a = U at *
    clear r1 r2 r3 r4 r5 r6 t1 t2 m1 m2 m3 m4 m5 m6 hK hU hsa hsb2 hbig
    go_enter Tryd.func4, Tryd.ntmps4
    go_wp2_with fail
    refine hst.mono ?_
    clear hst
    rintro e w1 ⟨hb1, ⟨hsb, rfl⟩ | ⟨hsb, s, v, rfl, hS, hR⟩⟩
    · exact absurd hsb (by decide)
    · obtain ⟨Av, cv, rfl, _⟩ := hR.slice
      clear hsb hR
      have hz := heap_alloc_new w1 (.cells #[.string conn, .string ⟨#[]⟩, .string ⟨#[]⟩, .string ⟨#[]⟩, .string ⟨#[]⟩, .bool true, .string ⟨#[]⟩] 29)
      have hB2 := below_alloc hb1 (.cells #[.string conn, .string ⟨#[]⟩, .string ⟨#[]⟩, .string ⟨#[]⟩, .string ⟨#[]⟩, .bool true, .string ⟨#[]⟩] 29)
      have hS2 := hS.below (below_alloc (Below.refl _ w1) (.cells #[.string conn, .string ⟨#[]⟩, .string ⟨#[]⟩, .string ⟨#[]⟩, .string ⟨#[]⟩, .bool true, .string ⟨#[]⟩] 29))
      have c0 : (w1.alloc (.cells #[.string conn, .string ⟨#[]⟩, .string ⟨#[]⟩, .string ⟨#[]⟩, .string ⟨#[]⟩, .bool true, .string ⟨#[]⟩] 29)).cell? ⟨w1.heap.size, 0, none⟩ = some (.string conn) := (blk_cell hz 0).trans rfl
      have c1 : (w1.alloc (.cells #[.string conn, .string ⟨#[]⟩, .string ⟨#[]⟩, .string ⟨#[]⟩, .string ⟨#[]⟩, .bool true, .string ⟨#[]⟩] 29)).cell? ⟨w1.heap.size, 1, none⟩ = some (.string ⟨#[]⟩) := (blk_cell hz 1).trans rfl
      have c2 : (w1.alloc (.cells #[.string conn, .string ⟨#[]⟩, .string ⟨#[]⟩, .string ⟨#[]⟩, .string ⟨#[]⟩, .bool true, .string ⟨#[]⟩] 29)).cell? ⟨w1.heap.size, 2, none⟩ = some (.string ⟨#[]⟩) := (blk_cell hz 2).trans rfl
      have c3 : (w1.alloc (.cells #[.string conn, .string ⟨#[]⟩, .string ⟨#[]⟩, .string ⟨#[]⟩, .string ⟨#[]⟩, .bool true, .string ⟨#[]⟩] 29)).cell? ⟨w1.heap.size, 3, none⟩ = some (.string ⟨#[]⟩) := (blk_cell hz 3).trans rfl
      have c4 : (w1.alloc (.cells #[.string conn, .string ⟨#[]⟩, .string ⟨#[]⟩, .string ⟨#[]⟩, .string ⟨#[]⟩, .bool true, .string ⟨#[]⟩] 29)).cell? ⟨w1.heap.size, 4, none⟩ = some (.string ⟨#[]⟩) := (blk_cell hz 4).trans rfl
      have c5 : (w1.alloc (.cells #[.string conn, .string ⟨#[]⟩, .string ⟨#[]⟩, .string ⟨#[]⟩, .string ⟨#[]⟩, .bool true, .string ⟨#[]⟩] 29)).cell? ⟨w1.heap.size, 5, none⟩ = some (.bool true) := (blk_cell hz 5).trans rfl
      have c6 : (w1.alloc (.cells #[.string conn, .string ⟨#[]⟩, .string ⟨#[]⟩, .string ⟨#[]⟩, .string ⟨#[]⟩, .bool true, .string ⟨#[]⟩] 29)).cell? ⟨w1.heap.size, 6, none⟩ = some (.string ⟨#[]⟩) := (blk_cell hz 6).trans rfl
      go_wp2_with fail
      refine (hl1 s _ _ hS2 (by omega) (hGP.below hB2)).mono ?_
      clear c0 c1 c2 c3 c4 c5 c6
      generalize w1.alloc (.cells #[.string conn, .string ⟨#[]⟩, .string ⟨#[]⟩, .string ⟨#[]⟩, .string ⟨#[]⟩, .bool true, .string ⟨#[]⟩] 29) = w2 at hz hB2 hS2 ⊢
      rintro e w3 ⟨v3, rfl, hr3, hb3⟩
      have hB3 := below_then hB2 hB2.size hb3
      have hS3 := hS2.below hb3
      have hz3 := blk_below hz hb3
      obtain ⟨A3, c3, e3⟩ := Kd.R_slice hr3
      subst e3
      have hd3 := Kd.R_reads' hr3
      simp only [List.length_singleton] at hd3 ⊢
      go_wp2_with fail
      refine (hd1 s A3 c3 w3 hB3 hS3 hd3.2.2 hd3.2.1).mono ?_
      rintro e w4 ⟨rfl, ht4, hS4⟩
      have hS4 := hS4.mono (N' := 3300000000201) (by simp)
      have hB4 := hB3.trans (ht4.below hB3.size)
      have hz4 := ht4.blk hz3 (by decide) (by decide) (by decide)
      have hS5 := hS4.set hz4 (by decide) (by decide) (by decide) 5 (.bool false)
      have hB5 : Below w.heap.size w (w4.setCell ⟨w1.heap.size, 5, none⟩ (.bool false)) := below_set hB4 hb1.size
      have hz5 : (w4.setCell ⟨w1.heap.size, 5, none⟩ (.bool false)).heap[w1.heap.size]? = some (.cells #[.string conn, .string ⟨#[]⟩, .string ⟨#[]⟩, .string ⟨#[]⟩, .string ⟨#[]⟩, .bool false, .string ⟨#[]⟩] 29 (0, 0)) := blk_put hz4 5 (.bool false) rfl
      have c0 : w4.cell? ⟨w1.heap.size, 0, none⟩ = some (.string conn) := (blk_cell hz4 0).trans rfl
      have c1 : w4.cell? ⟨w1.heap.size, 1, none⟩ = some (.string ⟨#[]⟩) := (blk_cell hz4 1).trans rfl
      have c2 : w4.cell? ⟨w1.heap.size, 2, none⟩ = some (.string ⟨#[]⟩) := (blk_cell hz4 2).trans rfl
      have c3 : w4.cell? ⟨w1.heap.size, 3, none⟩ = some (.string ⟨#[]⟩) := (blk_cell hz4 3).trans rfl
      have c4 : w4.cell? ⟨w1.heap.size, 4, none⟩ = some (.string ⟨#[]⟩) := (blk_cell hz4 4).trans rfl
      have c5 : w4.cell? ⟨w1.heap.size, 5, none⟩ = some (.bool true) := (blk_cell hz4 5).trans rfl
      have c6 : w4.cell? ⟨w1.heap.size, 6, none⟩ = some (.string ⟨#[]⟩) := (blk_cell hz4 6).trans rfl
      have f5 := blk_frozen hz4 5
      have b0 := c0
      have b1 := c1
      have b2 := c2
      have b3 := c3
      have b4 := c4
      have b5 := c5
      have b6 := c6
      clear c0 c1 c2 c3 c4 c5 c6
      have c0 : (w4.setCell ⟨w1.heap.size, 5, none⟩ (.bool false)).cell? ⟨w1.heap.size, 0, none⟩ = some (.string conn) := (blk_cell hz5 0).trans rfl
      have c1 : (w4.setCell ⟨w1.heap.size, 5, none⟩ (.bool false)).cell? ⟨w1.heap.size, 1, none⟩ = some (.string ⟨#[]⟩) := (blk_cell hz5 1).trans rfl
      have c2 : (w4.setCell ⟨w1.heap.size, 5, none⟩ (.bool false)).cell? ⟨w1.heap.size, 2, none⟩ = some (.string ⟨#[]⟩) := (blk_cell hz5 2).trans rfl
      have c3 : (w4.setCell ⟨w1.heap.size, 5, none⟩ (.bool false)).cell? ⟨w1.heap.size, 3, none⟩ = some (.string ⟨#[]⟩) := (blk_cell hz5 3).trans rfl
      have c4 : (w4.setCell ⟨w1.heap.size, 5, none⟩ (.bool false)).cell? ⟨w1.heap.size, 4, none⟩ = some (.string ⟨#[]⟩) := (blk_cell hz5 4).trans rfl
      have c5 : (w4.setCell ⟨w1.heap.size, 5, none⟩ (.bool false)).cell? ⟨w1.heap.size, 5, none⟩ = some (.bool false) := (blk_cell hz5 5).trans rfl
      have c6 : (w4.setCell ⟨w1.heap.size, 5, none⟩ (.bool false)).cell? ⟨w1.heap.size, 6, none⟩ = some (.string ⟨#[]⟩) := (blk_cell hz5 6).trans rfl
      go_wp2_with fail
      refine (hl2 s _ _ hS5 (by omega) (hGP.below hB5)).mono ?_
      clear b0 b1 b2 b3 b4 b5 b6 c0 c1 c2 c3 c4 c5 c6 f5
      generalize w4.setCell ⟨w1.heap.size, 5, none⟩ (.bool false) = w5 at hz5 hB5 hS5 ⊢
      rintro e w6 ⟨v6, rfl, hr6, hb6⟩
      obtain ⟨A6, q6, e6⟩ := Kd.R_slice hr6
      subst e6
      have hB6 := below_then hB5 hB5.size hb6
      have hS6 := hS5.below hb6
      have hz6 := blk_below hz5 hb6
      have c0 : w6.cell? ⟨w1.heap.size, 0, none⟩ = some (.string conn) := (blk_cell hz6 0).trans rfl
      have c1 : w6.cell? ⟨w1.heap.size, 1, none⟩ = some (.string ⟨#[]⟩) := (blk_cell hz6 1).trans rfl
      have c2 : w6.cell? ⟨w1.heap.size, 2, none⟩ = some (.string ⟨#[]⟩) := (blk_cell hz6 2).trans rfl
      have c3 : w6.cell? ⟨w1.heap.size, 3, none⟩ = some (.string ⟨#[]⟩) := (blk_cell hz6 3).trans rfl
      have c4 : w6.cell? ⟨w1.heap.size, 4, none⟩ = some (.string ⟨#[]⟩) := (blk_cell hz6 4).trans rfl
      have c5 : w6.cell? ⟨w1.heap.size, 5, none⟩ = some (.bool false) := (blk_cell hz6 5).trans rfl
      have c6 : w6.cell? ⟨w1.heap.size, 6, none⟩ = some (.string ⟨#[]⟩) := (blk_cell hz6 6).trans rfl
      go_wp2_with fail
      refine (hl3 s _ _ hS6 (by omega) (hGP.below hB6)).mono ?_
      rintro e w7 ⟨v7, rfl, hr7, hb7⟩
      clear c0 c1 c2 c3 c4 c5 c6
      obtain ⟨A7, q7, e7⟩ := Kd.R_slice hr7
      subst e7
      have hB7 := below_then hB6 hB6.size hb7
      have hS7 := hS6.below hb7
      have hz7 := blk_below hz6 hb7
      go_wp2_with fail
      refine (hrm s _ _ hS7 (hGP.below hB7)).mono ?_
      rintro e w8 ⟨v8, rfl, hr8, hb8⟩
      obtain ⟨A8, q8, e8⟩ := Kd.R_slice hr8
      subst e8
      have hd8 := Kd.R_reads' hr8
      simp only [List.length_singleton] at hd8 ⊢
      have hB8 := below_then hB7 hB7.size hb8
      have hS8 := hS7.below hb8
      have hz8 := blk_below hz7 hb8
      go_wp2_with fail
      refine (hd2 s A8 q8 w8 hB8 hS8 hd8.2.2 hd8.2.1).mono ?_
      rintro e w9 ⟨rfl, ht9, hS9⟩
      have hS9 := hS9.mono (N' := 3300000000202) (by simp)
      have hB9 := hB8.trans (ht9.below hB8.size)
      have hz9 := ht9.blk hz8 (by decide) (by decide) (by decide)
      have c0 : w9.cell? ⟨w1.heap.size, 0, none⟩ = some (.string conn) := (blk_cell hz9 0).trans rfl
      have c1 : w9.cell? ⟨w1.heap.size, 1, none⟩ = some (.string ⟨#[]⟩) := (blk_cell hz9 1).trans rfl
      have c2 : w9.cell? ⟨w1.heap.size, 2, none⟩ = some (.string ⟨#[]⟩) := (blk_cell hz9 2).trans rfl
      have c3 : w9.cell? ⟨w1.heap.size, 3, none⟩ = some (.string ⟨#[]⟩) := (blk_cell hz9 3).trans rfl
      have c4 : w9.cell? ⟨w1.heap.size, 4, none⟩ = some (.string ⟨#[]⟩) := (blk_cell hz9 4).trans rfl
      have c5 : w9.cell? ⟨w1.heap.size, 5, none⟩ = some (.bool false) := (blk_cell hz9 5).trans rfl
      have c6 : w9.cell? ⟨w1.heap.size, 6, none⟩ = some (.string ⟨#[]⟩) := (blk_cell hz9 6).trans rfl
      go_wp2_with fail
      refine (hl4 s _ _ hS9 (by omega) (hGP.below hB9)).mono ?_
      rintro e w10 ⟨v10, rfl, hr10, hb10⟩
      clear c0 c1 c2 c3 c4 c5 c6
      have hB10 := below_then hB9 hB9.size hb10
      go_wp2_with fail
      refine (hans w10 hB10).mono ?_
      rintro e w11 ⟨rfl, hb11⟩
      have hB11 := below_then hB10 hB10.size hb11
      clear hl1 hl2 hl3 hl4 hrm hd1 hd2 hans hz hz3 hz4 hz5 hz6 hz7 hz8 hz9 hS hS2 hS3 hS4 hS5 hS6 hS7 hS8 hS9 hr3 hr6 hr7 hr8 hr10 hd3 hd8
      by_cases hab : a = b
      · have hcd : cd = 0 := by rw [Hcd.out, if_pos hab]
        subst hab
        subst hcd
        go_wp2_with fail
        go_ret
        exact ⟨rfl, hB11⟩
      · have hq : decide (a.toList = b.toList) = false := decide_eq_false (fun e => hab (kl_inj (bytes_list.1 e)))
        have hq2 : (a.toList == b.toList) = false := beq_eq_false_iff_ne.2 (fun e => hab (kl_inj (bytes_list.1 e)))
        have hcd : cd = 6 := by rw [Hcd.out, if_neg hab]
        subst hcd
        go_wp2_with fail
        go_ret
        exact ⟨rfl, hB11⟩
  · have d1 : decide ((1000 : Int) < (conn.size : Int) + (a.size : Int) + (b.size : Int)) = true := decide_eq_true (by omega)
    clear hst
    go_enter Tryd.func4, Tryd.ntmps4
    go_wp2_with fail
    refine (hans w (Below.refl _ _)).mono ?_
    rintro e w2 ⟨rfl, hb2⟩
    go_wp2_with fail
    go_ret
    exact ⟨rfl, hb2⟩
theorem LinkTwice_in (W : World) (conn : ByteArray) (h0 : conn.size ≤ 140737488351232) (a : ByteArray) (h1 : a.size ≤ 140737488351232) (b : ByteArray) (h2 : b.size ≤ 140737488351232) (hGL : GL W) (hGP : GP W) :
    Calls Tryd.prog 4 #[.string conn, .string a, .string b] W fun e w' => e = .returned (.bool true) ∧ Below W.heap.size W w' := LinkTwice_walk W conn a b h0 h1 h2 hGL hGP
end Go.Proofs.YtpoblffgclmmlaaDoor.X
end
