/- LinkFinds: the tied card: whatever the input the law answers true and leaves it alone, the listed tables being as the program's text lays them; conditions: as the row's cells say ('laid') (part 22 of 25). -/
import Derived.Deep.RegionHeld3
import Derived.Test.YtpoblffgclmmlaaGreatDoorPkLF15
import Derived.Test.YtpoblffgclmmlaaGreatDoorPkLF17
import Derived.Test.YtpoblffgclmmlaaGreatDoorPkLF19
import Derived.Test.YtpoblffgclmmlaaGreatDoorPkLF20
section
set_option linter.unusedVariables false
set_option linter.unusedSimpArgs false
namespace Go.Proofs.YtpoblffgclmmlaaGreatDoor.X
open Go.RowKit Go.WideMaps Go.Maps Go.Proofs.YtpoblffgclmmlaaGreatDoorW.PrintWords Go.Proofs.YtpoblffgclmmlaaGreatDoorW.PrintLast Go.Proofs.YtpoblffgclmmlaaGreatDoorW.PrintMore Go.Proofs.YtpoblffgclmmlaaGreatDoor.Q

theorem txs_len (l : List ByteArray) (h : ∀ x ∈ l, x.size < 18446744073709551616) : (txs l).length ≤ 21 * l.length + (l.map fun x => x.size).sum := by
  induction l with
  | nil => simp [txs]
  | cons s l ih =>
    have h1 := dd_len20 s.size (h s (List.mem_cons_self ..))
    have h2 := ih (fun x hx => h x (List.mem_cons_of_mem _ hx))
    rw [txs_cons]
    simp only [List.length_append, List.length_cons, Array.length_toList, ByteArray.size_data, List.map_cons, List.sum_cons]
    omega
theorem mkB_size (l : List UInt8) : (⟨l.toArray⟩ : ByteArray).size = l.length := by show (List.toArray _).size = _; simp
theorem cell_later {w w1 : World} {a : Addr} {v : Value} (hb : Below w.heap.size w w1) (h : w.cell? a = some v) : w1.cell? a = some v := (hb.cell (World.block_lt_of_cell? _ _ h)).trans h
/-- A link's key. -/
def lkey (conn sub : ByteArray) : ByteArray := ⟨(108 :: txs [conn, sub]).toArray⟩
theorem lkey_len (conn sub : ByteArray) (h : conn.size + sub.size ≤ 1000000) : (txs [conn, sub]).length ≤ 42 + (conn.size + sub.size) := by
  have := txs_len [conn, sub] (by
    intro x hx
    simp only [List.mem_cons, List.not_mem_nil, or_false] at hx
    rcases hx with e | e <;> subst e <;> omega)
  simpa using this
theorem lkey_size (conn sub : ByteArray) (h : conn.size + sub.size ≤ 1000000) : (lkey conn sub).size ≤ 43 + (conn.size + sub.size) := by
  have := lkey_len conn sub h
  unfold lkey
  rw [mkB_size, List.length_cons]; omega
theorem lkey_f (conn sub : ByteArray) (h : conn.size + sub.size ≤ 1000000) : link_Key.f conn sub = some (lkey conn sub) := by
  have := lkey_len conn sub h
  unfold link_Key.f row_Texts.f
  rw [if_pos (by omega), Option.bind_some, mkB_size, if_pos (by omega)]
  rfl
theorem rlkey_f (conn sub : ByteArray) (h : conn.size + sub.size ≤ 1000000) : exequaturref13_LinkKey.f conn sub = some (lkey conn sub) := by
  have := lkey_len conn sub h
  unfold exequaturref13_LinkKey.f exequaturref13_Texts.f
  rw [if_pos (by omega), Option.bind_some, mkB_size, if_pos (by omega)]
  rfl
theorem lkey_says (conn sub : ByteArray) (h : conn.size + sub.size ≤ 1000000) (w : World) (hGP : GP w) :
    Calls Tryz.prog 39 #[.string conn, .string sub] w fun e w' => e = .returned (.string (lkey conn sub)) ∧ Below w.heap.size w w' :=
  link_Key.calls conn sub _ w (lkey_f conn sub h) hGP
theorem rlkey_says (conn sub : ByteArray) (h : conn.size + sub.size ≤ 1000000) (w : World) :
    Calls Tryz.prog 37 #[.string conn, .string sub] w fun e w' => e = .returned (.string (lkey conn sub)) ∧ Below w.heap.size w w' :=
  exequaturref13_LinkKey.calls conn sub _ w (rlkey_f conn sub h)
theorem rget_ev (rows : List S82) (key : ByteArray) (hl : rows.length ≤ 1000000000) : ∀ d i : Nat, i + d = rows.length →
    ∃ p : Int × Bool, Ev (fun k => exequaturref10_Rows_Get.l0 k rows key (i : Int)) p ∧ (p.2 = true → 0 ≤ p.1 ∧ p.1 < (rows.length : Int) ∧ getR (rows.drop i) key = some (rd_T82 rows p.1).f1) ∧ (p.2 = false → getR (rows.drop i) key = none) := by
  intro d
  induction d with
  | zero =>
    intro i hi
    refine ⟨(0, false), Ev.step (fun k => ?_) (evNow (r' := ((0 : Int), false)) rfl), (fun h => by cases h), fun _ => ?_⟩
    · show exequaturref10_Rows_Get.l0 (k + 1) rows key (i : Int) = some (0, false)
      simp only [exequaturref10_Rows_Get.l0]
      rw [if_neg (by omega)]
    · rw [List.drop_of_length_le (by omega)]; rfl
  | succ d ih =>
    intro i hi
    have hw : wrap64 ((i : Int) + 1) = ((i + 1 : Nat) : Int) := by rw [w64 (by omega) (by omega)]; rfl
    have ra : rd_T82 rows (i : Int) = rows.getD i z82 := by unfold rd_T82; rw [Int.toNat_natCast]
    obtain ⟨x, hx⟩ : ∃ x, x = rows.getD i z82 := ⟨_, rfl⟩
    have hd := drop_cons rows i (by omega) z82
    rw [← hx] at ra hd
    by_cases hc : x.f0.toList = key.toList
    · have hk : x.f0 = key := kl_inj (bytes_list.1 hc)
      refine ⟨((i : Int), true), Ev.step (f := fun k => some ((i : Int), true)) (fun k => ?_) (evNow rfl), fun _ => ⟨by omega, by omega, ?_⟩, fun h => by cases h⟩
      · show exequaturref10_Rows_Get.l0 (k + 1) rows key (i : Int) = _
        simp only [exequaturref10_Rows_Get.l0]
        rw [if_pos (by omega), if_pos (by omega), ra, if_pos hc]
      · rw [hd, ra]; unfold getR; rw [List.find?_cons, decide_eq_true hk]; rfl
    · have hk : ¬ x.f0 = key := fun e => hc (by rw [e])
      obtain ⟨p, h1, h2, h3⟩ := ih (i + 1) (by omega)
      have hg : getR (rows.drop i) key = getR (rows.drop (i + 1)) key := by rw [hd]; unfold getR; rw [List.find?_cons, decide_eq_false hk]
      refine ⟨p, Ev.step (f := fun k => exequaturref10_Rows_Get.l0 k rows key ((i + 1 : Nat) : Int)) (fun k => ?_) h1, fun h => by rw [hg]; exact h2 h, fun h => by rw [hg]; exact h3 h⟩
      show exequaturref10_Rows_Get.l0 (k + 1) rows key (i : Int) = _
      simp only [exequaturref10_Rows_Get.l0]
      rw [if_pos (by omega), if_pos (by omega), ra, if_neg hc, hw]
theorem rval_ev (rows : List S82) (key : ByteArray) (hl : rows.length ≤ 1000000000) : Ev (fun k => exequaturref10_Rows_Value.f k rows key) ((getR rows key).getD ⟨#[]⟩, (getR rows key).isSome) := by
  obtain ⟨p, ⟨K, h1⟩, h2, h3⟩ := rget_ev rows key hl rows.length 0 (by omega)
  rw [List.drop_zero] at h2 h3
  refine ⟨K, fun k hk => ?_⟩
  have h := h1 k hk
  show exequaturref10_Rows_Value.f k rows key = _
  unfold exequaturref10_Rows_Value.f exequaturref10_Rows_Get.f
  rw [show exequaturref10_Rows_Get.l0 k rows key 0 = some p from h, Option.bind_some]
  cases hp : p.2 with
  | true =>
    obtain ⟨a, b, c⟩ := h2 hp
    rw [c, if_pos rfl, if_pos a, if_pos b]; rfl
  | false => rw [h3 hp, if_neg (by decide)]; rfl
theorem rval_says (A0 : Option Addr) (c0 : Nat) (rows : List S82) (key : ByteArray) (w : World) (h0 : Kd.C k82 w A0 rows.length rows) (hc0 : rows.length ≤ c0) (hl : rows.length ≤ 1000000000) :
    Calls Tryz.prog 36 #[.slice A0 rows.length c0, .string key] w fun e w' => e = .returned (.tuple #[.string ((getR rows key).getD ⟨#[]⟩), .bool (getR rows key).isSome]) ∧ Below w.heap.size w w' := by
  obtain ⟨k, hk⟩ := (rval_ev rows key hl).rounds
  refine (exequaturref10_Rows_Value.calls k A0 c0 rows key _ _ w h0 hc0 hk).mono ?_
  rintro e w' ⟨h, hd⟩
  exact ⟨h, hd.below⟩
set_option maxHeartbeats 4000000 in
theorem lfind_says (base s N : Nat) (r : List S82) (conn sub : ByteArray) (h : conn.size + sub.size ≤ 1000000) (w : World) (hS : StW base w s r N) (hGP : GP w) :
    Calls Tryz.prog 35 #[.pointer (some ⟨s, 0, none⟩), .string conn, .string sub] w fun e w' => e = .returned (.tuple #[.string ((getR r (lkey conn sub)).getD ⟨#[]⟩), .bool (getR r (lkey conn sub)).isSome]) ∧ Below w.heap.size w w' := by
  have hks := lkey_size conn sub h
  have hk := lkey_says conn sub h w hGP
  obtain ⟨K, hK⟩ : ∃ K, K = lkey conn sub := ⟨_, rfl⟩
  rw [← hK] at hk hks ⊢
  clear hK
  have hg := fun w1 (hb : Below w.heap.size w w1) => wget_says base s N r K (by unfold maxLen; omega) w1 (hS.below hb)
  go_enter Tryz.func35, Tryz.ntmps35
  go_wp2_with fail
  refine hk.mono ?_
  rintro e w1 ⟨rfl, hb1⟩
  have hg := hg w1 hb1
  go_wp2_with fail
  refine hg.mono ?_
  rintro e w2 ⟨rfl, rfl⟩
  go_wp2_with fail
  go_ret2
  exact ⟨rfl, hb1⟩
def cnt (r : List S82) (p : ByteArray) : List ByteArray := (r.map fun x => x.f0).filter fun k => preB k p
def luser (id sub : ByteArray) : ByteArray := (id ++ ⟨#[58]⟩) ++ sub
/-- Resolve, of rows alone. -/
def resR (r : List S82) (id sub : ByteArray) (op : Bool) : ByteArray × List S69 × Int :=
  match getR r (lkey id sub) with
  | some v => (v, [], 0)
  | none => if op = true then (if 32 ≤ (cnt r ⟨#[108]⟩).length then (⟨#[]⟩, [], 7) else (luser id sub, [⟨lkey id sub, luser id sub, false⟩], 0)) else (⟨#[]⟩, [], 6)
set_option maxHeartbeats 8000000 in
theorem lres_says (base s N : Nat) (r : List S82) (x0 x1 x2 x3 x4 : ByteArray) (op : Bool) (x6 sub : ByteArray) (h : x0.size + sub.size ≤ 1000000) (w : World) (hS : StW base w s r N) (hN : N ≤ 3400000000000) (hGP : GP w) :
    Calls Tryz.prog 32 #[.pointer (some ⟨s, 0, none⟩), .agg #[.string x0, .string x1, .string x2, .string x3, .string x4, .bool op, .string x6], .string sub] w fun e w' => ∃ v, e = .returned (.tuple #[.string (resR r x0 sub op).1, v, .int .i64 (resR r x0 sub op).2.2]) ∧
      Kd.R k69 69 w' w.heap.size (fun _ => True) v (resR r x0 sub op).2.1 ∧ Below w.heap.size w w' := by
  have hB0 : Below w.heap.size w (w.alloc (.cells #[.string x0, .string x1, .string x2, .string x3, .string x4, .bool op, .string x6] 54)) := (Below.refl _ w).alloc (Nat.le_refl _) _
  have hfind := lfind_says base s N r x0 sub h _ (hS.below hB0) (hGP.below hB0)
  have hkeys := fun w1 (hb : Below w.heap.size w w1) => wkeys_says base s N r ⟨#[108]⟩ w1 (hS.below hb) hN
  have hkey := fun w1 (hb : Below w.heap.size w w1) => lkey_says x0 sub h w1 (hGP.below hb)
  have hz := heap_alloc_new w (.cells #[.string x0, .string x1, .string x2, .string x3, .string x4, .bool op, .string x6] 54)
  have hu : x0.size + 1 ≤ 9223372036854775807 := by omega
  have hu2 : (x0 ++ (⟨#[58]⟩ : ByteArray)).size + sub.size ≤ 9223372036854775807 := by rw [ByteArray.size_append]; show _ + 1 + _ ≤ _; omega
  have huT := eq_true hu
  have huF : (9223372036854775807 < x0.size + 1) = False := eq_false (Nat.not_lt.2 hu)
  have hu2T := eq_true hu2
  have hu2F : (9223372036854775807 < (x0 ++ (⟨#[58]⟩ : ByteArray)).size + sub.size) = False := eq_false (Nat.not_lt.2 hu2)
  clear hu hu2
  cases hgv : getR r (lkey x0 sub) with
  | some v =>
    have hres : resR r x0 sub op = (v, [], 0) := by unfold resR; rw [hgv]
    rw [hres]
    rw [hgv] at hfind
    simp only [Option.getD_some, Option.isSome_some] at hfind
    clear hres hgv
    go_enter Tryz.func32, Tryz.ntmps32
    go_wp2_with fail
    refine hfind.mono ?_
    rintro e w1 ⟨rfl, hb1⟩
    go_wp2_with fail
    go_ret3
    exact ⟨_, rfl, Kd.R_nil _ _ _ _ _, below_then hB0 hB0.size hb1⟩
  | none =>
    rw [hgv] at hfind
    simp only [Option.getD_none, Option.isSome_none] at hfind
    cases op with
    | false =>
      have hres : resR r x0 sub false = (⟨#[]⟩, [], 6) := by unfold resR; rw [hgv]; rfl
      rw [hres]
      clear hres hgv
      go_enter Tryz.func32, Tryz.ntmps32
      go_wp2_with fail
      refine hfind.mono ?_
      rintro e w1 ⟨rfl, hb1⟩
      have hc5 := (cell_later hb1 (blk_cell hz 5))
      go_wp2_with fail
      go_ret3
      exact ⟨_, rfl, Kd.R_nil _ _ _ _ _, below_then hB0 hB0.size hb1⟩
    | true =>
      by_cases hn : 32 ≤ (cnt r ⟨#[108]⟩).length
      · have hres : resR r x0 sub true = (⟨#[]⟩, [], 7) := by unfold resR; rw [hgv]; simp only [if_true]; rw [if_pos hn]
        rw [hres]
        clear hres hgv
        have hn' : 32 ≤ ((r.map fun x => x.f0).filter fun k => preB k ⟨#[108]⟩).length := hn
        generalize ((r.map fun x => x.f0).filter fun k => preB k ⟨#[108]⟩) = ks at hkeys hn'
        go_enter Tryz.func32, Tryz.ntmps32
        go_wp2_with fail
        refine hfind.mono ?_
        rintro e w1 ⟨rfl, hb1⟩
        have hB1 := below_then hB0 hB0.size hb1
        have hc5 := (cell_later hb1 (blk_cell hz 5))
        have hkeys := hkeys w1 hB1
        go_wp2_with fail
        refine hkeys.mono ?_
        rintro e w2 ⟨v2, rfl, hr2, hb2⟩
        obtain ⟨A2, c2, e2⟩ := Kd.R_slice hr2
        subst e2
        have d1 : decide (32 ≤ (ks.length : Int)) = true := decide_eq_true (by omega)
        go_wp2_with fail
        go_ret3
        exact ⟨_, rfl, Kd.R_nil _ _ _ _ _, below_then hB1 hB1.size hb2⟩
      · have hres : resR r x0 sub true = (luser x0 sub, [⟨lkey x0 sub, luser x0 sub, false⟩], 0) := by unfold resR; rw [hgv]; simp only [if_true]; rw [if_neg hn]
        rw [hres]
        clear hres hgv
        have hn' : ¬ 32 ≤ ((r.map fun x => x.f0).filter fun k => preB k ⟨#[108]⟩).length := hn
        generalize ((r.map fun x => x.f0).filter fun k => preB k ⟨#[108]⟩) = ks at hkeys hn'
        obtain ⟨K, hK⟩ : ∃ K, K = lkey x0 sub := ⟨_, rfl⟩
        rw [← hK] at hkey ⊢
        clear hK
        have Hu := Lib.hid (show luser x0 sub = (x0 ++ ⟨#[58]⟩) ++ sub from rfl)
        go_enter Tryz.func32, Tryz.ntmps32
        go_wp2_with fail
        refine hfind.mono ?_
        rintro e w1 ⟨rfl, hb1⟩
        have hB1 := below_then hB0 hB0.size hb1
        have hc5 := (cell_later hb1 (blk_cell hz 5))
        have hkeys := hkeys w1 hB1
        go_wp2_with fail
        refine hkeys.mono ?_
        rintro e w2 ⟨v2, rfl, hr2, hb2⟩
        obtain ⟨A2, c2, e2⟩ := Kd.R_slice hr2
        subst e2
        have d1 : decide (32 ≤ (ks.length : Int)) = false := decide_eq_false (by omega)
        have hB2 := below_then hB1 hB1.size hb2
        have hkey := hkey w2 hB2
        have hc0 := cell_later hb2 (cell_later hb1 (blk_cell hz 0))
        go_wp2_with fail
        refine hkey.mono ?_
        rintro e w3 ⟨rfl, hb3⟩
        go_wp2_with fail
        go_ret3
        have hM := C_made (d := k69) (e := 69) w3 [(⟨K, (x0 ++ ⟨#[58]⟩) ++ sub, false⟩ : S69)] [.string K, .string ((x0 ++ ⟨#[58]⟩) ++ sub), .bool false] (show (1 : Nat) ≤ maxLen by decide) (Reps.c3 (k69_mkM _ _ _ (⟨K, (x0 ++ ⟨#[58]⟩) ++ sub, false⟩ : S69)) (Reps.none _ _))
        have hB3 := below_then hB2 hB2.size hb3
        rw [Hu.out]
        exact ⟨_, rfl, Kd.R_lower hM hB3.size, below_alloc hB3 _⟩
/-- Remove, of rows alone. -/
def remR (r : List S82) (conn sub : ByteArray) : List S69 := if (getR r (lkey conn sub)).isSome = true then [⟨lkey conn sub, ⟨#[]⟩, true⟩] else []
set_option maxHeartbeats 4000000 in
theorem lrem_says (base s N : Nat) (r : List S82) (conn sub : ByteArray) (h : conn.size + sub.size ≤ 1000000) (w : World) (hS : StW base w s r N) (hGP : GP w) :
    Calls Tryz.prog 38 #[.pointer (some ⟨s, 0, none⟩), .string conn, .string sub] w fun e w' => ∃ v, e = .returned (.tuple #[v, .bool (getR r (lkey conn sub)).isSome]) ∧
      Kd.R k69 69 w' w.heap.size (fun _ => True) v (remR r conn sub) ∧ Below w.heap.size w w' := by
  have hfind := lfind_says base s N r conn sub h w hS hGP
  have hkey := fun w1 (hb : Below w.heap.size w w1) => lkey_says conn sub h w1 (hGP.below hb)
  have Hr := Lib.hid (show remR r conn sub = if (getR r (lkey conn sub)).isSome = true then [⟨lkey conn sub, ⟨#[]⟩, true⟩] else [] from rfl)
  obtain ⟨K, hK⟩ : ∃ K, K = lkey conn sub := ⟨_, rfl⟩
  rw [← hK] at hkey hfind Hr ⊢
  clear hK
  obtain ⟨g, hg⟩ : ∃ g, g = getR r K := ⟨_, rfl⟩
  rw [← hg] at hfind Hr ⊢
  clear hg
  obtain ⟨R, hR⟩ : ∃ R, R = remR r conn sub := ⟨_, rfl⟩
  rw [← hR] at Hr ⊢
  clear hR
  cases g with
  | none =>
    simp only [Option.getD_none, Option.isSome_none] at hfind
    go_enter Tryz.func38, Tryz.ntmps38
    go_wp2_with fail
    refine hfind.mono ?_
    rintro e w1 ⟨rfl, hb1⟩
    go_wp2_with fail
    go_ret2
    rw [Hr.out]
    exact ⟨_, rfl, Kd.R_nil _ _ _ _ _, hb1⟩
  | some v =>
    simp only [Option.getD_some, Option.isSome_some] at hfind
    go_enter Tryz.func38, Tryz.ntmps38
    go_wp2_with fail
    refine hfind.mono ?_
    rintro e w1 ⟨rfl, hb1⟩
    have hkey := hkey w1 hb1
    go_wp2_with fail
    refine hkey.mono ?_
    rintro e w2 ⟨rfl, hb2⟩
    have hB2 := below_then hb1 hb1.size hb2
    go_wp2_with fail
    go_ret2
    have hM := C_made (d := k69) (e := 69) w2 [(⟨K, ⟨#[]⟩, true⟩ : S69)] [.string K, .string ⟨#[]⟩, .bool true] (show (1 : Nat) ≤ maxLen by decide) (Reps.c3 (k69_mkM _ _ _ (⟨K, ⟨#[]⟩, true⟩ : S69)) (Reps.none _ _))
    rw [Hr.out]
    exact ⟨_, rfl, Kd.R_lower hM hB2.size, below_alloc hB2 _⟩
end Go.Proofs.YtpoblffgclmmlaaGreatDoor.X
end
section
set_option linter.unusedVariables false
set_option linter.unusedSimpArgs false
namespace Go.Proofs.YtpoblffgclmmlaaGreatDoor.X
open Go.RowKit Go.WideMaps Go.Maps Go.Proofs.YtpoblffgclmmlaaGreatDoorW.PrintWords Go.Proofs.YtpoblffgclmmlaaGreatDoorW.PrintLast Go.Proofs.YtpoblffgclmmlaaGreatDoorW.PrintMore Go.Proofs.YtpoblffgclmmlaaGreatDoor.Q

theorem same15_ev (l : List S69) (hl : l.length ≤ 1000000000) : ∀ d i : Nat, i + d = l.length → Ev (fun k => exequaturlaw15_same.l0 k l l (i : Int)) true := by
  intro d
  induction d with
  | zero =>
    intro i hi
    refine Ev.step (fun k => ?_) (evNow (r' := true) rfl)
    show exequaturlaw15_same.l0 (k + 1) l l (i : Int) = some true
    simp only [exequaturlaw15_same.l0]
    rw [if_neg (by omega)]
  | succ d ih =>
    intro i hi
    have hw : wrap64 ((i : Int) + 1) = ((i + 1 : Nat) : Int) := by rw [w64 (by omega) (by omega)]; rfl
    refine Ev.step (f := fun k => exequaturlaw15_same.l0 k l l ((i + 1 : Nat) : Int)) (fun k => ?_) (ih (i + 1) (by omega))
    show exequaturlaw15_same.l0 (k + 1) l l (i : Int) = _
    simp only [exequaturlaw15_same.l0]
    rw [if_pos (by omega), if_pos (by omega), if_pos (by omega), if_neg (by simp), hw]
theorem same15_self (A A' : Option Addr) (c c' : Nat) (l : List S69) (w : World) (h0 : Kd.C k69 w A l.length l) (hc : l.length ≤ c) (h1 : Kd.C k69 w A' l.length l) (hc' : l.length ≤ c') (hl : l.length ≤ 1000000000) :
    Calls Tryz.prog 34 #[.slice A l.length c, .slice A' l.length c'] w fun e w' => e = .returned (.bool true) ∧ Below w.heap.size w w' := by
  obtain ⟨k, hk⟩ := (same15_ev l hl l.length 0 (by omega)).rounds
  refine (exequaturlaw15_same.calls k A c l A' c' l true w h0 hc h1 hc' ?_).mono ?_
  · unfold exequaturlaw15_same.f; rw [if_pos rfl]; exact hk
  · rintro e w' ⟨h, hd⟩
    exact ⟨h, hd.below⟩
set_option maxHeartbeats 4000000 in
theorem answers15_says (w : World) (hGL : GL w) (hGP : GP w) : Calls Tryz.prog 31 #[] w fun e w' => e = .returned (.bool true) ∧ Below w.heap.size w w' := by
  have hst := stored15_says w none 0 [] ⟨rfl, by simp, fun h => absurd h (by simp)⟩ (Nat.le_refl _) (by simp) (by simp) hGL
  have hres : resR [] ⟨#[99]⟩ ⟨#[120]⟩ true = (⟨#[99, 58, 120]⟩, [⟨lkey ⟨#[99]⟩ ⟨#[120]⟩, ⟨#[99, 58, 120]⟩, false⟩], 0) := rfl
  go_enter Tryz.func31, Tryz.ntmps31
  go_wp2_with fail
  refine hst.mono ?_
  rintro e w1 ⟨hb1, ⟨hsb, rfl⟩ | ⟨hsb, s, v, rfl, hS, hR⟩⟩
  · exact absurd hsb (by decide)
  · have hl := lres_says w.heap.size s 3300000000200 [] ⟨#[99]⟩ ⟨#[]⟩ ⟨#[]⟩ ⟨#[]⟩ ⟨#[]⟩ true ⟨#[]⟩ ⟨#[120]⟩ (by decide) w1 hS (by omega) (hGP.below hb1)
    rw [hres] at hl
    clear hst hres
    go_wp2_with fail
    refine hl.mono ?_
    rintro e w2 ⟨v2, rfl, hr2, hb2⟩
    obtain ⟨A2, c2, e2⟩ := Kd.R_slice hr2
    subst e2
    go_wp2_with fail
    go_ret
    exact ⟨rfl, below_then hb1 hb1.size hb2⟩
end Go.Proofs.YtpoblffgclmmlaaGreatDoor.X
end
section
set_option linter.unusedVariables false
set_option linter.unusedSimpArgs false
namespace Go.Proofs.YtpoblffgclmmlaaGreatDoor.X
open Go.RowKit Go.WideMaps Go.Maps Go.Proofs.YtpoblffgclmmlaaGreatDoorW.PrintWords Go.Proofs.YtpoblffgclmmlaaGreatDoorW.PrintLast Go.Proofs.YtpoblffgclmmlaaGreatDoorW.PrintMore Go.Proofs.YtpoblffgclmmlaaGreatDoor.Q

set_option maxHeartbeats 8000000 in
theorem LinkFinds_walk (w : World) (A : Option Addr) (c : Nat) (l : List S69) (hC : Kd.C k69 w A l.length l) (hc : l.length ≤ c) (hl : l.length ≤ 4000000000000) (hx : ∀ x ∈ l, x.f0.size ≤ 140737488351232 ∧ x.f1.size ≤ 140737488351232)
    (conn sub : ByteArray) (h0 : conn.size ≤ 140737488351232) (h1 : sub.size ≤ 140737488351232) (hGL : GL w) (hGP : GP w) :
    Calls Tryz.prog 5 #[.slice A l.length c, .string conn, .string sub] w fun e w' => e = .returned (.bool true) ∧ Below w.heap.size w w' := by
  have hst := stored15_says w A c l hC hc hl hx hGL
  go_enter Tryz.func5, Tryz.ntmps5
  go_wp2_with fail
  refine hst.mono ?_
  clear hst
  rintro e w1 ⟨hb1, hor⟩
  have hans := fun w2 (hb : Below w.heap.size w w2) => answers15_says w2 (hGL.below hb) (hGP.below hb)
  rcases hor with ⟨hsb, rfl⟩ | ⟨hsb, s, v, rfl, hS, hR⟩
  · clear hsb
    go_wp2_with fail
    refine (hans w1 hb1).mono ?_
    rintro e w2 ⟨rfl, hb2⟩
    go_wp2_with fail
    go_ret
    exact ⟨rfl, below_then hb1 hb1.size hb2⟩
  · have hrl : (turnR [] l).length ≤ l.length := by have := turnR_len [] l List.Pairwise.nil; simpa using this
    have hsb2 := of_decide_eq_true hsb
    have hrl2 : (turnR [] l).length ≤ 200 := by omega
    clear hsb hsb2 hrl
    by_cases hbig : conn.size + sub.size ≤ 1000
    · have d1 : decide ((1000 : Int) < (conn.size : Int) + (sub.size : Int)) = false := decide_eq_false (by omega)
      obtain ⟨A1, c1, rfl, hca, hC1⟩ := hR.slice
      have hf := lfind_says w.heap.size s 3300000000200 (turnR [] l) conn sub (by omega) w1 hS (hGP.below hb1)
      have hrem := fun w2 (hb : Below w1.heap.size w1 w2) => lrem_says w.heap.size s 3300000000200 (turnR [] l) conn sub (by omega) w2 (hS.below hb) ((hGP.below hb1).below hb)
      have hval := fun key w2 (hb : Below w1.heap.size w1 w2) => rval_says A1 c1 (turnR [] l) key w2 (Kd.C_below hC1 hb) hca (by omega)
      have hkey := fun w2 (hb : Below w1.heap.size w1 w2) => lkey_says conn sub (by omega) w2 ((hGP.below hb1).below hb)
      have hrkey := fun w2 => rlkey_says conn sub (by omega) w2
      have Hr := Lib.hid (show remR (turnR [] l) conn sub = if (getR (turnR [] l) (lkey conn sub)).isSome = true then [⟨lkey conn sub, ⟨#[]⟩, true⟩] else [] from rfl)
      have hval := hval (lkey conn sub)
      obtain ⟨K, hK⟩ : ∃ K, K = lkey conn sub := ⟨_, rfl⟩
      rw [← hK] at hf hval hkey hrkey Hr
      simp only [← hK] at hrem
      clear hK
      generalize remR (turnR [] l) conn sub = L at hrem Hr
      obtain ⟨g, hg⟩ : ∃ g, g = getR (turnR [] l) K := ⟨_, rfl⟩
      rw [← hg] at hf Hr
      simp only [← hg] at hval hrem
      clear hg hrl2 hbig
      go_wp2_with fail
      refine hf.mono ?_
      rintro e w2 ⟨rfl, hb2⟩
      have hB2 := below_then hb1 hb1.size hb2
      go_wp2_with fail
      refine (hrkey w2).mono ?_
      rintro e w3 ⟨rfl, hb3⟩
      have hb13 := below_then hb2 hb2.size hb3
      go_wp2_with fail
      refine (hval w3 hb13).mono ?_
      rintro e w4 ⟨rfl, hb4⟩
      have hb14 := below_then hb13 hb13.size hb4
      go_wp2_with fail
      refine (hrem w4 hb14).mono ?_
      rintro e w5 ⟨v5, rfl, hr5, hb5⟩
      have hb15 := below_then hb14 hb14.size hb5
      obtain ⟨A5, c5, e5⟩ := Kd.R_slice hr5
      subst e5
      have hd5 := Kd.R_reads' hr5
      cases g with
      | none =>
        have hL : L = [] := by rw [Hr.out]; rfl
        subst hL
        simp only [Option.getD_none, Option.isSome_none, List.length_nil]
        go_wp2_with fail
        refine (hkey w5 hb15).mono ?_
        rintro e w6 ⟨rfl, hb6⟩
        go_wp2_with fail
        refine (hrkey w6).mono ?_
        rintro e w7 ⟨rfl, hb7⟩
        have hb17 := below_then (below_then hb15 hb15.size hb6) (below_then hb15 hb15.size hb6).size hb7
        have hB7 := below_then hb1 hb1.size hb17
        go_wp2_with fail
        refine (hans w7 hB7).mono ?_
        rintro e w8 ⟨rfl, hb8⟩
        go_wp2_with fail
        go_ret
        exact ⟨rfl, below_then hB7 hB7.size hb8⟩
      | some u =>
        have hL : L = [⟨K, ⟨#[]⟩, true⟩] := by rw [Hr.out]; rfl
        subst hL
        simp only [Option.getD_some, Option.isSome_some, List.length_singleton] at hd5 ⊢
        go_wp2_with fail
        refine (hkey w5 hb15).mono ?_
        rintro e w6 ⟨rfl, hb6⟩
        go_wp2_with fail
        refine (hrkey w6).mono ?_
        rintro e w7 ⟨rfl, hb7⟩
        have hb57 := below_then hb6 hb6.size hb7
        have hb17 := below_then hb15 hb15.size hb57
        have hB7 := below_then hb1 hb1.size hb17
        go_wp2_with fail
        refine (hans w7 hB7).mono ?_
        rintro e w8 ⟨rfl, hb8⟩
        have hB8 := below_then hB7 hB7.size hb8
        go_wp2_with fail
        refine (hrkey w8).mono ?_
        rintro e w9 ⟨rfl, hb9⟩
        have hB9 := below_then hB8 hB8.size hb9
        have hM := C_made (d := k69) (e := 69) w9 [(⟨K, ⟨#[]⟩, true⟩ : S69)] [.string K, .string ⟨#[]⟩, .bool true] (show (1 : Nat) ≤ maxLen by decide) (Reps.c3 (k69_mkM _ _ _ (⟨K, ⟨#[]⟩, true⟩ : S69)) (Reps.none _ _))
        have hMr := Kd.R_reads' hM
        have hb59 := below_then (below_then hb57 hb57.size hb8) (below_then hb57 hb57.size hb8).size hb9
        have hsm := same15_self A5 (some ⟨w9.heap.size, 0, none⟩) c5 1 [(⟨K, ⟨#[]⟩, true⟩ : S69)] _ (Kd.C_below hd5.2.2 (below_alloc hb59 (.cells #[.string K, .string ⟨#[]⟩, .bool true] 69))) hd5.2.1 hMr.2.2 hMr.2.1 (show (1 : Nat) ≤ 1000000000 by decide)
        go_wp2_with fail
        refine hsm.mono ?_
        rintro e w10 ⟨rfl, hb10⟩
        go_wp2_with fail
        go_ret
        exact ⟨rfl, below_then (below_alloc hB9 _) (below_alloc hB9 _).size hb10⟩
    · have d1 : decide ((1000 : Int) < (conn.size : Int) + (sub.size : Int)) = true := decide_eq_true (by omega)
      clear hbig
      go_wp2_with fail
      refine (hans w1 hb1).mono ?_
      rintro e w2 ⟨rfl, hb2⟩
      go_wp2_with fail
      go_ret
      exact ⟨rfl, below_then hb1 hb1.size hb2⟩
theorem LinkFinds_in (W : World) (a : Option Addr) (len cap : Nat) (h : ChgsIn W a len cap) (conn : ByteArray) (hconn : conn.size ≤ 140737488351232) (sub : ByteArray) (hsub : sub.size ≤ 140737488351232) (hGL : GL W) (hGP : GP W) :
    Calls Tryz.prog 5 #[.slice a len cap, .string conn, .string sub] W fun e w' => e = .returned (.bool true) ∧ Below W.heap.size W w' := by
  obtain ⟨l, rfl, h1, h2, h3, h4⟩ := h
  exact LinkFinds_walk W a cap l h1 h2 h3 h4 conn sub hconn hsub hGL hGP
end Go.Proofs.YtpoblffgclmmlaaGreatDoor.X
end
