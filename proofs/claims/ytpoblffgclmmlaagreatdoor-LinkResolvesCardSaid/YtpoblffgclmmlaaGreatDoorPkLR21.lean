/- LinkResolves: the tied card: whatever the input the law answers true and leaves it alone, the listed tables being as the program's text lays them; conditions: as the row's cells say ('laid') (part 22 of 27). -/
import Derived.Deep.RegionHeld3
import Derived.Test.YtpoblffgclmmlaaGreatDoorPkLR15
import Derived.Test.YtpoblffgclmmlaaGreatDoorPkLR17
import Derived.Test.YtpoblffgclmmlaaGreatDoorPkLR19
import Derived.Test.YtpoblffgclmmlaaGreatDoorPkLR20
section
set_option linter.unusedVariables false
set_option linter.unusedSimpArgs false
namespace Go.Proofs.YtpoblffgclmmlaaGreatDoor.X
open Go.RowKit Go.WideMaps Go.Maps Go.Proofs.YtpoblffgclmmlaaGreatDoorW.PrintWords Go.Proofs.YtpoblffgclmmlaaGreatDoorW.PrintLast Go.Proofs.YtpoblffgclmmlaaGreatDoorW.PrintMore Go.Proofs.YtpoblffgclmmlaaGreatDoor.Q

theorem txs_len (l : List ByteArray) (h : ∀ x ∈ l, x.size < 18446744073709551616) : (txs l).length ≤ 21 * l.length + (l.map fun x => x.size).sum := by
  induction l with
  | nil => simp [txs]
  | cons s l ih =>
    have h1 := dd_len20 s.size (h s (List.mem_cons_self ..))
    have h2 := ih (fun x hx => h x (List.mem_cons_of_mem _ hx))
    rw [txs_cons]
    simp only [List.length_append, List.length_cons, Array.length_toList, ByteArray.size_data, List.map_cons, List.sum_cons]
    omega
theorem mkB_size (l : List UInt8) : (⟨l.toArray⟩ : ByteArray).size = l.length := by show (List.toArray _).size = _; simp
theorem cell_later {w w1 : World} {a : Addr} {v : Value} (hb : Below w.heap.size w w1) (h : w.cell? a = some v) : w1.cell? a = some v := (hb.cell (World.block_lt_of_cell? _ _ h)).trans h
/-- A link's key. -/
def lkey (conn sub : ByteArray) : ByteArray := ⟨(108 :: txs [conn, sub]).toArray⟩
theorem lkey_len (conn sub : ByteArray) (h : conn.size + sub.size ≤ 1000000) : (txs [conn, sub]).length ≤ 42 + (conn.size + sub.size) := by
  have := txs_len [conn, sub] (by
    intro x hx
    simp only [List.mem_cons, List.not_mem_nil, or_false] at hx
    rcases hx with e | e <;> subst e <;> omega)
  simpa using this
theorem lkey_size (conn sub : ByteArray) (h : conn.size + sub.size ≤ 1000000) : (lkey conn sub).size ≤ 43 + (conn.size + sub.size) := by
  have := lkey_len conn sub h
  unfold lkey
  rw [mkB_size, List.length_cons]; omega
theorem lkey_f (conn sub : ByteArray) (h : conn.size + sub.size ≤ 1000000) : link_Key.f conn sub = some (lkey conn sub) := by
  have := lkey_len conn sub h
  unfold link_Key.f row_Texts.f
  rw [if_pos (by omega), Option.bind_some, mkB_size, if_pos (by omega)]
  rfl
theorem rlkey_f (conn sub : ByteArray) (h : conn.size + sub.size ≤ 1000000) : exequaturref13_LinkKey.f conn sub = some (lkey conn sub) := by
  have := lkey_len conn sub h
  unfold exequaturref13_LinkKey.f exequaturref13_Texts.f
  rw [if_pos (by omega), Option.bind_some, mkB_size, if_pos (by omega)]
  rfl
theorem lkey_says (conn sub : ByteArray) (h : conn.size + sub.size ≤ 1000000) (w : World) (hGP : GP w) :
    Calls Tryz.prog 39 #[.string conn, .string sub] w fun e w' => e = .returned (.string (lkey conn sub)) ∧ Below w.heap.size w w' :=
  link_Key.calls conn sub _ w (lkey_f conn sub h) hGP
theorem rlkey_says (conn sub : ByteArray) (h : conn.size + sub.size ≤ 1000000) (w : World) :
    Calls Tryz.prog 37 #[.string conn, .string sub] w fun e w' => e = .returned (.string (lkey conn sub)) ∧ Below w.heap.size w w' :=
  exequaturref13_LinkKey.calls conn sub _ w (rlkey_f conn sub h)
theorem rget_ev (rows : List S82) (key : ByteArray) (hl : rows.length ≤ 1000000000) : ∀ d i : Nat, i + d = rows.length →
    ∃ p : Int × Bool, Ev (fun k => exequaturref10_Rows_Get.l0 k rows key (i : Int)) p ∧ (p.2 = true → 0 ≤ p.1 ∧ p.1 < (rows.length : Int) ∧ getR (rows.drop i) key = some (rd_T82 rows p.1).f1) ∧ (p.2 = false → getR (rows.drop i) key = none) := by
  intro d
  induction d with
  | zero =>
    intro i hi
    refine ⟨(0, false), Ev.step (fun k => ?_) (evNow (r' := ((0 : Int), false)) rfl), (fun h => by cases h), fun _ => ?_⟩
    · show exequaturref10_Rows_Get.l0 (k + 1) rows key (i : Int) = some (0, false)
      simp only [exequaturref10_Rows_Get.l0]
      rw [if_neg (by omega)]
    · rw [List.drop_of_length_le (by omega)]; rfl
  | succ d ih =>
    intro i hi
    have hw : wrap64 ((i : Int) + 1) = ((i + 1 : Nat) : Int) := by rw [w64 (by omega) (by omega)]; rfl
    have ra : rd_T82 rows (i : Int) = rows.getD i z82 := by unfold rd_T82; rw [Int.toNat_natCast]
    obtain ⟨x, hx⟩ : ∃ x, x = rows.getD i z82 := ⟨_, rfl⟩
    have hd := drop_cons rows i (by omega) z82
    rw [← hx] at ra hd
    by_cases hc : x.f0.toList = key.toList
    · have hk : x.f0 = key := kl_inj (bytes_list.1 hc)
      refine ⟨((i : Int), true), Ev.step (f := fun k => some ((i : Int), true)) (fun k => ?_) (evNow rfl), fun _ => ⟨by omega, by omega, ?_⟩, fun h => by cases h⟩
      · show exequaturref10_Rows_Get.l0 (k + 1) rows key (i : Int) = _
        simp only [exequaturref10_Rows_Get.l0]
        rw [if_pos (by omega), if_pos (by omega), ra, if_pos hc]
      · rw [hd, ra]; unfold getR; rw [List.find?_cons, decide_eq_true hk]; rfl
    · have hk : ¬ x.f0 = key := fun e => hc (by rw [e])
      obtain ⟨p, h1, h2, h3⟩ := ih (i + 1) (by omega)
      have hg : getR (rows.drop i) key = getR (rows.drop (i + 1)) key := by rw [hd]; unfold getR; rw [List.find?_cons, decide_eq_false hk]
      refine ⟨p, Ev.step (f := fun k => exequaturref10_Rows_Get.l0 k rows key ((i + 1 : Nat) : Int)) (fun k => ?_) h1, fun h => by rw [hg]; exact h2 h, fun h => by rw [hg]; exact h3 h⟩
      show exequaturref10_Rows_Get.l0 (k + 1) rows key (i : Int) = _
      simp only [exequaturref10_Rows_Get.l0]
      rw [if_pos (by omega), if_pos (by omega), ra, if_neg hc, hw]
theorem rval_ev (rows : List S82) (key : ByteArray) (hl : rows.length ≤ 1000000000) : Ev (fun k => exequaturref10_Rows_Value.f k rows key) ((getR rows key).getD ⟨#[]⟩, (getR rows key).isSome) := by
  obtain ⟨p, ⟨K, h1⟩, h2, h3⟩ := rget_ev rows key hl rows.length 0 (by omega)
  rw [List.drop_zero] at h2 h3
  refine ⟨K, fun k hk => ?_⟩
  have h := h1 k hk
  show exequaturref10_Rows_Value.f k rows key = _
  unfold exequaturref10_Rows_Value.f exequaturref10_Rows_Get.f
  rw [show exequaturref10_Rows_Get.l0 k rows key 0 = some p from h, Option.bind_some]
  cases hp : p.2 with
  | true =>
    obtain ⟨a, b, c⟩ := h2 hp
    rw [c, if_pos rfl, if_pos a, if_pos b]; rfl
  | false => rw [h3 hp, if_neg (by decide)]; rfl
theorem rval_says (A0 : Option Addr) (c0 : Nat) (rows : List S82) (key : ByteArray) (w : World) (h0 : Kd.C k82 w A0 rows.length rows) (hc0 : rows.length ≤ c0) (hl : rows.length ≤ 1000000000) :
    Calls Tryz.prog 36 #[.slice A0 rows.length c0, .string key] w fun e w' => e = .returned (.tuple #[.string ((getR rows key).getD ⟨#[]⟩), .bool (getR rows key).isSome]) ∧ Below w.heap.size w w' := by
  obtain ⟨k, hk⟩ := (rval_ev rows key hl).rounds
  refine (exequaturref10_Rows_Value.calls k A0 c0 rows key _ _ w h0 hc0 hk).mono ?_
  rintro e w' ⟨h, hd⟩
  exact ⟨h, hd.below⟩
set_option maxHeartbeats 4000000 in
theorem lfind_says (base s N : Nat) (r : List S82) (conn sub : ByteArray) (h : conn.size + sub.size ≤ 1000000) (w : World) (hS : StW base w s r N) (hGP : GP w) :
    Calls Tryz.prog 35 #[.pointer (some ⟨s, 0, none⟩), .string conn, .string sub] w fun e w' => e = .returned (.tuple #[.string ((getR r (lkey conn sub)).getD ⟨#[]⟩), .bool (getR r (lkey conn sub)).isSome]) ∧ Below w.heap.size w w' := by
  have hks := lkey_size conn sub h
  have hk := lkey_says conn sub h w hGP
  obtain ⟨K, hK⟩ : ∃ K, K = lkey conn sub := ⟨_, rfl⟩
  rw [← hK] at hk hks ⊢
  clear hK
  have hg := fun w1 (hb : Below w.heap.size w w1) => wget_says base s N r K (by unfold maxLen; omega) w1 (hS.below hb)
  go_enter Tryz.func35, Tryz.ntmps35
  go_wp2_with fail
  refine hk.mono ?_
  rintro e w1 ⟨rfl, hb1⟩
  have hg := hg w1 hb1
  go_wp2_with fail
  refine hg.mono ?_
  rintro e w2 ⟨rfl, rfl⟩
  go_wp2_with fail
  go_ret2
  exact ⟨rfl, hb1⟩
def cnt (r : List S82) (p : ByteArray) : List ByteArray := (r.map fun x => x.f0).filter fun k => preB k p
def luser (id sub : ByteArray) : ByteArray := (id ++ ⟨#[58]⟩) ++ sub
/-- Resolve, of rows alone. -/
def resR (r : List S82) (id sub : ByteArray) (op : Bool) : ByteArray × List S69 × Int :=
  match getR r (lkey id sub) with
  | some v => (v, [], 0)
  | none => if op = true then (if 32 ≤ (cnt r ⟨#[108]⟩).length then (⟨#[]⟩, [], 7) else (luser id sub, [⟨lkey id sub, luser id sub, false⟩], 0)) else (⟨#[]⟩, [], 6)
set_option maxHeartbeats 8000000 in
theorem lres_says (base s N : Nat) (r : List S82) (x0 x1 x2 x3 x4 : ByteArray) (op : Bool) (x6 sub : ByteArray) (h : x0.size + sub.size ≤ 1000000) (w : World) (hS : StW base w s r N) (hN : N ≤ 3400000000000) (hGP : GP w) :
    Calls Tryz.prog 32 #[.pointer (some ⟨s, 0, none⟩), .agg #[.string x0, .string x1, .string x2, .string x3, .string x4, .bool op, .string x6], .string sub] w fun e w' => ∃ v, e = .returned (.tuple #[.string (resR r x0 sub op).1, v, .int .i64 (resR r x0 sub op).2.2]) ∧
      Kd.R k69 69 w' w.heap.size (fun _ => True) v (resR r x0 sub op).2.1 ∧ Below w.heap.size w w' := by
  have hB0 : Below w.heap.size w (w.alloc (.cells #[.string x0, .string x1, .string x2, .string x3, .string x4, .bool op, .string x6] 54)) := (Below.refl _ w).alloc (Nat.le_refl _) _
  have hfind := lfind_says base s N r x0 sub h _ (hS.below hB0) (hGP.below hB0)
  have hkeys := fun w1 (hb : Below w.heap.size w w1) => wkeys_says base s N r ⟨#[108]⟩ w1 (hS.below hb) hN
  have hkey := fun w1 (hb : Below w.heap.size w w1) => lkey_says x0 sub h w1 (hGP.below hb)
  have hz := heap_alloc_new w (.cells #[.string x0, .string x1, .string x2, .string x3, .string x4, .bool op, .string x6] 54)
  have hu : x0.size + 1 ≤ 9223372036854775807 := by omega
  have hu2 : (x0 ++ (⟨#[58]⟩ : ByteArray)).size + sub.size ≤ 9223372036854775807 := by rw [ByteArray.size_append]; show _ + 1 + _ ≤ _; omega
  have huT := eq_true hu
  have huF : (9223372036854775807 < x0.size + 1) = False := eq_false (Nat.not_lt.2 hu)
  have hu2T := eq_true hu2
  have hu2F : (9223372036854775807 < (x0 ++ (⟨#[58]⟩ : ByteArray)).size + sub.size) = False := eq_false (Nat.not_lt.2 hu2)
  clear hu hu2
  cases hgv : getR r (lkey x0 sub) with
  | some v =>
    have hres : resR r x0 sub op = (v, [], 0) := by unfold resR; rw [hgv]
    rw [hres]
    rw [hgv] at hfind
    simp only [Option.getD_some, Option.isSome_some] at hfind
    clear hres hgv
    go_enter Tryz.func32, Tryz.ntmps32
    go_wp2_with fail
    refine hfind.mono ?_
    rintro e w1 ⟨rfl, hb1⟩
    go_wp2_with fail
    go_ret3
    exact ⟨_, rfl, Kd.R_nil _ _ _ _ _, below_then hB0 hB0.size hb1⟩
  | none =>
    rw [hgv] at hfind
    simp only [Option.getD_none, Option.isSome_none] at hfind
    cases op with
    | false =>
      have hres : resR r x0 sub false = (⟨#[]⟩, [], 6) := by unfold resR; rw [hgv]; rfl
      rw [hres]
      clear hres hgv
      go_enter Tryz.func32, Tryz.ntmps32
      go_wp2_with fail
      refine hfind.mono ?_
      rintro e w1 ⟨rfl, hb1⟩
      have hc5 := (cell_later hb1 (blk_cell hz 5))
      go_wp2_with fail
      go_ret3
      exact ⟨_, rfl, Kd.R_nil _ _ _ _ _, below_then hB0 hB0.size hb1⟩
    | true =>
      by_cases hn : 32 ≤ (cnt r ⟨#[108]⟩).length
      · have hres : resR r x0 sub true = (⟨#[]⟩, [], 7) := by unfold resR; rw [hgv]; simp only [if_true]; rw [if_pos hn]
        rw [hres]
        clear hres hgv
        have hn' : 32 ≤ ((r.map fun x => x.f0).filter fun k => preB k ⟨#[108]⟩).length := hn
        generalize ((r.map fun x => x.f0).filter fun k => preB k ⟨#[108]⟩) = ks at hkeys hn'
        go_enter Tryz.func32, Tryz.ntmps32
        go_wp2_with fail
        refine hfind.mono ?_
        rintro e w1 ⟨rfl, hb1⟩
        have hB1 := below_then hB0 hB0.size hb1
        have hc5 := (cell_later hb1 (blk_cell hz 5))
        have hkeys := hkeys w1 hB1
        go_wp2_with fail
        refine hkeys.mono ?_
        rintro e w2 ⟨v2, rfl, hr2, hb2⟩
        obtain ⟨A2, c2, e2⟩ := Kd.R_slice hr2
        subst e2
        have d1 : decide (32 ≤ (ks.length : Int)) = true := decide_eq_true (by omega)
        go_wp2_with fail
        go_ret3
        exact ⟨_, rfl, Kd.R_nil _ _ _ _ _, below_then hB1 hB1.size hb2⟩
      · have hres : resR r x0 sub true = (luser x0 sub, [⟨lkey x0 sub, luser x0 sub, false⟩], 0) := by unfold resR; rw [hgv]; simp only [if_true]; rw [if_neg hn]
        rw [hres]
        clear hres hgv
        have hn' : ¬ 32 ≤ ((r.map fun x => x.f0).filter fun k => preB k ⟨#[108]⟩).length := hn
        generalize ((r.map fun x => x.f0).filter fun k => preB k ⟨#[108]⟩) = ks at hkeys hn'
        obtain ⟨K, hK⟩ : ∃ K, K = lkey x0 sub := ⟨_, rfl⟩
        rw [← hK] at hkey ⊢
        clear hK
        have Hu := Lib.hid (show luser x0 sub = (x0 ++ ⟨#[58]⟩) ++ sub from rfl)
        go_enter Tryz.func32, Tryz.ntmps32
        go_wp2_with fail
        refine hfind.mono ?_
        rintro e w1 ⟨rfl, hb1⟩
        have hB1 := below_then hB0 hB0.size hb1
        have hc5 := (cell_later hb1 (blk_cell hz 5))
        have hkeys := hkeys w1 hB1
        go_wp2_with fail
        refine hkeys.mono ?_
        rintro e w2 ⟨v2, rfl, hr2, hb2⟩
        obtain ⟨A2, c2, e2⟩ := Kd.R_slice hr2
        subst e2
        have d1 : decide (32 ≤ (ks.length : Int)) = false := decide_eq_false (by omega)
        have hB2 := below_then hB1 hB1.size hb2
        have hkey := hkey w2 hB2
        have hc0 := cell_later hb2 (cell_later hb1 (blk_cell hz 0))
        go_wp2_with fail
        refine hkey.mono ?_
        rintro e w3 ⟨rfl, hb3⟩
        go_wp2_with fail
        go_ret3
        have hM := C_made (d := k69) (e := 69) w3 [(⟨K, (x0 ++ ⟨#[58]⟩) ++ sub, false⟩ : S69)] [.string K, .string ((x0 ++ ⟨#[58]⟩) ++ sub), .bool false] (show (1 : Nat) ≤ maxLen by decide) (Reps.c3 (k69_mkM _ _ _ (⟨K, (x0 ++ ⟨#[58]⟩) ++ sub, false⟩ : S69)) (Reps.none _ _))
        have hB3 := below_then hB2 hB2.size hb3
        rw [Hu.out]
        exact ⟨_, rfl, Kd.R_lower hM hB3.size, below_alloc hB3 _⟩
/-- The reference's Resolve. -/
theorem rres_says (A0 : Option Addr) (c0 : Nat) (r : List S82) (x0 x1 x2 x3 x4 : ByteArray) (op : Bool) (x6 sub : ByteArray) (h : x0.size + sub.size ≤ 1000000) (w : World) (h0 : Kd.C k82 w A0 r.length r) (hc0 : r.length ≤ c0) (hl : r.length ≤ 1000000000) :
    Calls Tryz.prog 33 #[.slice A0 r.length c0, .agg #[.string x0, .string x1, .string x2, .string x3, .string x4, .bool op, .string x6], .string sub] w fun e w' => ∃ v, e = .returned (.tuple #[.string (resR r x0 sub op).1, v, .int .i64 (resR r x0 sub op).2.2]) ∧
      Kd.R k69 69 w' w.heap.size (fun _ => True) v (resR r x0 sub op).2.1 ∧ Below w.heap.size w w' := by
  have hB0 : Below w.heap.size w (w.alloc (.cells #[.string x0, .string x1, .string x2, .string x3, .string x4, .bool op, .string x6] 54)) := (Below.refl _ w).alloc (Nat.le_refl _) _
  have hval := fun key w1 (hb : Below w.heap.size w w1) => rval_says A0 c0 r key w1 (Kd.C_below h0 hb) hc0 hl
  have hkeys := fun w1 (hb : Below w.heap.size w w1) => rkeys_says A0 c0 r ⟨#[108]⟩ w1 (Kd.C_below h0 hb) hc0 hl
  have hkey := fun w1 => rlkey_says x0 sub h w1
  have hz := heap_alloc_new w (.cells #[.string x0, .string x1, .string x2, .string x3, .string x4, .bool op, .string x6] 54)
  have hu : x0.size + 1 ≤ 9223372036854775807 := by omega
  have hu2 : (x0 ++ (⟨#[58]⟩ : ByteArray)).size + sub.size ≤ 9223372036854775807 := by rw [ByteArray.size_append]; show _ + 1 + _ ≤ _; omega
  have huT := eq_true hu
  have huF : (9223372036854775807 < x0.size + 1) = False := eq_false (Nat.not_lt.2 hu)
  have hu2T := eq_true hu2
  have hu2F : (9223372036854775807 < (x0 ++ (⟨#[58]⟩ : ByteArray)).size + sub.size) = False := eq_false (Nat.not_lt.2 hu2)
  have hu3 : x0.size + 1 + sub.size ≤ 9223372036854775807 := by omega
  have hu3T := eq_true hu3
  have hu3F : (9223372036854775807 < x0.size + 1 + sub.size) = False := eq_false (Nat.not_lt.2 hu3)
  have hu3d : decide (x0.size + 1 + sub.size ≤ 9223372036854775807) = true := decide_eq_true hu3
  have hu2d : decide ((x0 ++ (⟨#[58]⟩ : ByteArray)).size + sub.size ≤ 9223372036854775807) = true := decide_eq_true hu2
  clear hu hu2 hu3
  have hkey0 := hkey
  have hval0 := hval (lkey x0 sub)
  cases hgv : getR r (lkey x0 sub) with
  | some v =>
    have hres : resR r x0 sub op = (v, [], 0) := by unfold resR; rw [hgv]
    rw [hres]
    rw [hgv] at hval0
    simp only [Option.getD_some, Option.isSome_some] at hval0
    clear hres hgv
    obtain ⟨K, hK⟩ : ∃ K, K = lkey x0 sub := ⟨_, rfl⟩
    rw [← hK] at hkey hval0
    clear hK
    go_enter Tryz.func33, Tryz.ntmps33
    go_wp2_with fail
    refine (hkey _).mono ?_
    rintro e w1 ⟨rfl, hb1⟩
    have hB1 := below_then hB0 hB0.size hb1
    have hval0 := hval0 w1 hB1
    go_wp2_with fail
    refine hval0.mono ?_
    rintro e w2 ⟨rfl, hb2⟩
    go_wp2_with fail
    go_ret3
    exact ⟨_, rfl, Kd.R_nil _ _ _ _ _, below_then hB1 hB1.size hb2⟩
  | none =>
    rw [hgv] at hval0
    simp only [Option.getD_none, Option.isSome_none] at hval0
    cases op with
    | false =>
      have hres : resR r x0 sub false = (⟨#[]⟩, [], 6) := by unfold resR; rw [hgv]; rfl
      rw [hres]
      clear hres hgv
      obtain ⟨K, hK⟩ : ∃ K, K = lkey x0 sub := ⟨_, rfl⟩
      rw [← hK] at hkey hval0
      clear hK
      go_enter Tryz.func33, Tryz.ntmps33
      go_wp2_with fail
      refine (hkey _).mono ?_
      rintro e w1 ⟨rfl, hb1⟩
      have hB1 := below_then hB0 hB0.size hb1
      have hval0 := hval0 w1 hB1
      go_wp2_with fail
      refine hval0.mono ?_
      rintro e w2 ⟨rfl, hb2⟩
      have hc5 := cell_later hb2 (cell_later hb1 (blk_cell hz 5))
      go_wp2_with fail
      go_ret3
      exact ⟨_, rfl, Kd.R_nil _ _ _ _ _, below_then hB1 hB1.size hb2⟩
    | true =>
      by_cases hn : 32 ≤ (cnt r ⟨#[108]⟩).length
      · have hres : resR r x0 sub true = (⟨#[]⟩, [], 7) := by unfold resR; rw [hgv]; simp only [if_true]; rw [if_pos hn]
        rw [hres]
        clear hres hgv
        have hn' : 32 ≤ ((r.map fun x => x.f0).filter fun k => preB k ⟨#[108]⟩).length := hn
        generalize ((r.map fun x => x.f0).filter fun k => preB k ⟨#[108]⟩) = ks at hkeys hn'
        obtain ⟨K, hK⟩ : ∃ K, K = lkey x0 sub := ⟨_, rfl⟩
        rw [← hK] at hkey hval0
        clear hK
        go_enter Tryz.func33, Tryz.ntmps33
        go_wp2_with fail
        refine (hkey _).mono ?_
        rintro e w1 ⟨rfl, hb1⟩
        have hB1 := below_then hB0 hB0.size hb1
        have hval0 := hval0 w1 hB1
        go_wp2_with fail
        refine hval0.mono ?_
        rintro e w2 ⟨rfl, hb2⟩
        have hc5 := cell_later hb2 (cell_later hb1 (blk_cell hz 5))
        have hB2 := below_then hB1 hB1.size hb2
        have hkeys := hkeys w2 hB2
        go_wp2_with fail
        refine hkeys.mono ?_
        rintro e w3 ⟨v3, rfl, hr3, hb3⟩
        obtain ⟨A3, c3, e3⟩ := Kd.R_slice hr3
        subst e3
        have d1 : decide (32 ≤ (ks.length : Int)) = true := decide_eq_true (by omega)
        go_wp2_with fail
        go_ret3
        exact ⟨_, rfl, Kd.R_nil _ _ _ _ _, below_then hB2 hB2.size hb3⟩
      · have hres : resR r x0 sub true = (luser x0 sub, [⟨lkey x0 sub, luser x0 sub, false⟩], 0) := by unfold resR; rw [hgv]; simp only [if_true]; rw [if_neg hn]
        rw [hres]
        clear hres hgv
        have hn' : ¬ 32 ≤ ((r.map fun x => x.f0).filter fun k => preB k ⟨#[108]⟩).length := hn
        generalize ((r.map fun x => x.f0).filter fun k => preB k ⟨#[108]⟩) = ks at hkeys hn'
        obtain ⟨K, hK⟩ : ∃ K, K = lkey x0 sub := ⟨_, rfl⟩
        rw [← hK] at hkey hval0 ⊢
        clear hK
        have Hu := Lib.hid (show luser x0 sub = (x0 ++ ⟨#[58]⟩) ++ sub from rfl)
        go_enter Tryz.func33, Tryz.ntmps33
        go_wp2_with fail
        refine (hkey _).mono ?_
        rintro e w1 ⟨rfl, hb1⟩
        have hB1 := below_then hB0 hB0.size hb1
        have hval0 := hval0 w1 hB1
        go_wp2_with fail
        refine hval0.mono ?_
        rintro e w2 ⟨rfl, hb2⟩
        have hc5 := cell_later hb2 (cell_later hb1 (blk_cell hz 5))
        have hc0 := cell_later hb2 (cell_later hb1 (blk_cell hz 0))
        have hB2 := below_then hB1 hB1.size hb2
        have hkeys := hkeys w2 hB2
        go_wp2_with fail
        refine hkeys.mono ?_
        rintro e w3 ⟨v3, rfl, hr3, hb3⟩
        obtain ⟨A3, c3, e3⟩ := Kd.R_slice hr3
        subst e3
        have d1 : decide (32 ≤ (ks.length : Int)) = false := decide_eq_false (by omega)
        have hc0 := cell_later hb3 hc0
        have hB3 := below_then hB2 hB2.size hb3
        go_wp2_with fail
        go_region_held3 (fun w' => w'.cell? ⟨w.heap.size, 0, none⟩ = some (.string x0)) (first | exact hc0 | go_keep) ((fail))
        all_goals
          go_wp2_with fail
          go_ret3
          have hM := C_made (d := k69) (e := 69) w3 [(⟨K, (x0 ++ ⟨#[58]⟩) ++ sub, false⟩ : S69)] [.string K, .string ((x0 ++ ⟨#[58]⟩) ++ sub), .bool false] (show (1 : Nat) ≤ maxLen by decide) (Reps.c3 (k69_mkM _ _ _ (⟨K, (x0 ++ ⟨#[58]⟩) ++ sub, false⟩ : S69)) (Reps.none _ _))
          rw [Hu.out]
          exact ⟨_, rfl, Kd.R_drew (Kd.R_lower hM hB3.size), below_drew (below_alloc hB3 _)⟩
end Go.Proofs.YtpoblffgclmmlaaGreatDoor.X
end
section
set_option linter.unusedVariables false
set_option linter.unusedSimpArgs false
namespace Go.Proofs.YtpoblffgclmmlaaGreatDoor.X
open Go.RowKit Go.WideMaps Go.Maps Go.Proofs.YtpoblffgclmmlaaGreatDoorW.PrintWords Go.Proofs.YtpoblffgclmmlaaGreatDoorW.PrintLast Go.Proofs.YtpoblffgclmmlaaGreatDoorW.PrintMore Go.Proofs.YtpoblffgclmmlaaGreatDoor.Q

theorem same15_ev (l : List S69) (hl : l.length ≤ 1000000000) : ∀ d i : Nat, i + d = l.length → Ev (fun k => exequaturlaw15_same.l0 k l l (i : Int)) true := by
  intro d
  induction d with
  | zero =>
    intro i hi
    refine Ev.step (fun k => ?_) (evNow (r' := true) rfl)
    show exequaturlaw15_same.l0 (k + 1) l l (i : Int) = some true
    simp only [exequaturlaw15_same.l0]
    rw [if_neg (by omega)]
  | succ d ih =>
    intro i hi
    have hw : wrap64 ((i : Int) + 1) = ((i + 1 : Nat) : Int) := by rw [w64 (by omega) (by omega)]; rfl
    refine Ev.step (f := fun k => exequaturlaw15_same.l0 k l l ((i + 1 : Nat) : Int)) (fun k => ?_) (ih (i + 1) (by omega))
    show exequaturlaw15_same.l0 (k + 1) l l (i : Int) = _
    simp only [exequaturlaw15_same.l0]
    rw [if_pos (by omega), if_pos (by omega), if_pos (by omega), if_neg (by simp), hw]
theorem same15_self (A A' : Option Addr) (c c' : Nat) (l : List S69) (w : World) (h0 : Kd.C k69 w A l.length l) (hc : l.length ≤ c) (h1 : Kd.C k69 w A' l.length l) (hc' : l.length ≤ c') (hl : l.length ≤ 1000000000) :
    Calls Tryz.prog 34 #[.slice A l.length c, .slice A' l.length c'] w fun e w' => e = .returned (.bool true) ∧ Below w.heap.size w w' := by
  obtain ⟨k, hk⟩ := (same15_ev l hl l.length 0 (by omega)).rounds
  refine (exequaturlaw15_same.calls k A c l A' c' l true w h0 hc h1 hc' ?_).mono ?_
  · unfold exequaturlaw15_same.f; rw [if_pos rfl]; exact hk
  · rintro e w' ⟨h, hd⟩
    exact ⟨h, hd.below⟩
set_option maxHeartbeats 4000000 in
theorem answers15_says (w : World) (hGL : GL w) (hGP : GP w) : Calls Tryz.prog 31 #[] w fun e w' => e = .returned (.bool true) ∧ Below w.heap.size w w' := by
  have hst := stored15_says w none 0 [] ⟨rfl, by simp, fun h => absurd h (by simp)⟩ (Nat.le_refl _) (by simp) (by simp) hGL
  have hres : resR [] ⟨#[99]⟩ ⟨#[120]⟩ true = (⟨#[99, 58, 120]⟩, [⟨lkey ⟨#[99]⟩ ⟨#[120]⟩, ⟨#[99, 58, 120]⟩, false⟩], 0) := rfl
  go_enter Tryz.func31, Tryz.ntmps31
  go_wp2_with fail
  refine hst.mono ?_
  rintro e w1 ⟨hb1, ⟨hsb, rfl⟩ | ⟨hsb, s, v, rfl, hS, hR⟩⟩
  · exact absurd hsb (by decide)
  · have hl := lres_says w.heap.size s 3300000000200 [] ⟨#[99]⟩ ⟨#[]⟩ ⟨#[]⟩ ⟨#[]⟩ ⟨#[]⟩ true ⟨#[]⟩ ⟨#[120]⟩ (by decide) w1 hS (by omega) (hGP.below hb1)
    rw [hres] at hl
    clear hst hres
    go_wp2_with fail
    refine hl.mono ?_
    rintro e w2 ⟨v2, rfl, hr2, hb2⟩
    obtain ⟨A2, c2, e2⟩ := Kd.R_slice hr2
    subst e2
    go_wp2_with fail
    go_ret
    exact ⟨rfl, below_then hb1 hb1.size hb2⟩
end Go.Proofs.YtpoblffgclmmlaaGreatDoor.X
end
