/- law12.same, and the rows of a reference in memory. -/
import Derived.Test.YtkmokcfnfhabgaaDoorSt
set_option linter.unusedVariables false
set_option linter.unusedSimpArgs false
namespace Go.Proofs.YtkmokcfnfhabgaaDoor.X
open Go.RowKit Go.WideMaps Go.Maps Go.Proofs.YtkmokcfnfhabgaaDoorW.PrintWords Go.Proofs.YtkmokcfnfhabgaaDoorW.PrintLast Go.Proofs.YtkmokcfnfhabgaaDoorW.PrintMore Go.Proofs.YtkmokcfnfhabgaaDoor.Q

theorem turnR_len (r : List S79) (l : List S49) (h : Ris r) : (turnR r l).length ≤ r.length + l.length := by
 induction l generalizing r with
 | nil => exact Nat.le_refl _
 | cons c l ih =>
  have h1 := turn1_len r c h
  have h2 := ih (turn1 r c) (h.turn1 c)
  show (turnR (turn1 r c) l).length ≤ _
  rw [List.length_cons]; omega
def hasB (r : List S79) (x : S79) : Bool := decide (getR r x.f0 = some x.f1)
def sameB (r q : List S79) : Bool := decide (r.map (fun x => x.f0) = q.map (fun x => x.f0)) && q.all (hasB r)
theorem getR_mem {r : List S79} (h : Ris r) {x : S79} (hx : x ∈ r) : getR r x.f0 = some x.f1 := by
 unfold getR
 induction r with
 | nil => cases hx
 | cons y r ih =>
  have h1 := (List.pairwise_cons.1 h)
  rw [List.find?_cons]
  rcases List.mem_cons.1 hx with e | e
  ·
   subst e; simp
  ·
   have hne : ¬ y.f0 = x.f0 := fun he => by have := h1.1 x e; rw [he] at this; exact List.lt_irrefl _ this
   rw [decide_eq_false hne]
   exact ih h1.2 e
theorem sameB_self {r : List S79} (h : Ris r) : sameB r r = true := by
 unfold sameB
 rw [decide_eq_true rfl, Bool.true_and, List.all_eq_true]
 intro x hx
 exact decide_eq_true (getR_mem h hx)
theorem preB_nil (k : ByteArray) : preB k ⟨#[]⟩ = true := by
 unfold preB Lib.hasPrefix; rfl
theorem filter_nil (r : List S79) : ((r.map fun x => x.f0).filter fun k => preB k ⟨#[]⟩) = r.map fun x => x.f0 := List.filter_eq_self.2 (fun k _ => preB_nil k)
set_option maxHeartbeats 8000000 in
set_option maxRecDepth 100000 in
theorem same_says (base s t N : Nat) (T : TapeS) (r q : List S79) (A : Option Addr) (c : Nat) (w : World) (h : Sto base w s t T r N) (hN : N ≤ 3400000000000) (hC : Kd.C k79 w A q.length q) (hc : q.length ≤ c) (hq : q.length ≤ 1000000000) (hr : r.length ≤ 1000000000) (hx : ∀ x ∈ q, x.f0.size ≤ maxLen) :
  Calls Tryd.prog 15 #[.pointer (some ⟨s, 0, none⟩), .slice A q.length c] w fun e w' => e = .returned (.bool (sameB r q)) ∧ Below w.heap.size w w' := by
 have hk := skeys_says base s t N T r ⟨#[]⟩ w h hN
 rw [filter_nil] at hk
 have hsb : sameB r q = (decide (r.map (fun x => x.f0) = q.map (fun x => x.f0)) && q.all (hasB r)) := rfl
 have hrk := fun w1 h1 => rkeys_says A c q ⟨#[]⟩ w1 h1 hc (by omega)
 rw [filter_nil] at hrk
 have hl1 : (r.map (fun x => x.f0)).length ≤ 1000000000 := by rw [List.length_map]; exact hr
 generalize r.map (fun x => x.f0) = k1 at hk hsb hl1
 generalize q.map (fun x => x.f0) = k2 at hrk hsb
 have Hsb0 := Lib.hid hsb
 have Hl1 := Lib.hid hl1
 clear hsb hl1
 go_enter Tryd.func15, Tryd.ntmps15
 go_wp2_with fail
 refine hk.mono ?_
 rintro e w1 ⟨v1, rfl, hr1, hb1⟩
 obtain ⟨A1, c1, e1⟩ := Kd.R_slice hr1
 subst e1
 have hC1 := Kd.C_below hC hb1
 have hrk := hrk w1 hC1
 clear hk
 go_wp2_with fail
 refine hrk.mono ?_
 rintro e w2 ⟨v2, rfl, hr2, hb2⟩
 obtain ⟨A2, c2, e2⟩ := Kd.R_slice hr2
 subst e2
 have hrd1 := Kd.R_reads' hr1
 have hrd2 := Kd.R_reads' hr2
 have hb02 := below_then hb1 hb1.size hb2
 have htx := texts_says A1 A2 c1 c2 _ _ w2 (Kd.C_below hrd1.2.2 hb2) hrd1.2.1 hrd2.2.2 hrd2.2.1 (Nat.le_trans (show k1.length ≤ 1000000000 from Hl1) (by decide))
 have hsb := (show sameB r q = _ from Hsb0)
 clear Hsb0
 clear hrk hr1 hr2 hrd1 hrd2 hC1
 generalize decide (k1 = k2) = b at htx hsb
 have Hsb := Lib.hid hsb
 clear hsb
 go_wp2_with fail
 refine htx.mono ?_
 rintro e w3 ⟨rfl, hb3⟩
 have hb03 := below_then hb02 hb02.size hb3
 clear htx
 cases b with
 | false =>
  go_wp2_with fail
  go_ret
  exact ⟨by rw [(show sameB r q = _ from Hsb)]; rfl, hb03⟩
 | true =>
  have hS3 := h.below hb03
  have hC3 := Kd.C_below hC hb03
  go_wp2_with fail
  go_loopw [5] (fun v5 wr => ∃ i : Nat, v5 = .int .i64 i ∧ i ≤ q.length ∧ (q.take i).all (hasB r) = true ∧ Below w3.heap.size w3 wr) (fun v5 _ => q.length - (intOf v5).toNat)
  case atStart => exact ⟨0, rfl, Nat.zero_le _, rfl, Below.refl _ w3⟩
  case round =>
   obtain ⟨i, rfl, hi, hal, hb⟩ := hrel
   have hCr := Kd.C_below hC3 hb
   have hSr := hS3.below hb
   by_cases hlt : i < q.length
   ·
    have d1 : decide ((i : Int) < (q.length : Int)) = true := decide_eq_true (by omega)
    obtain ⟨ad, rfl, hz0, hz1⟩ := at_T79 hCr (i : Int) (by omega) (by omega)
    have hrd : rd_T79 q (i : Int) = q.getD i z79 := by unfold rd_T79; rw [Int.toNat_natCast]
    rw [hrd] at hz0 hz1
    simp only [Int.toNat_natCast] at hz0 hz1
    have hmem : q.getD i z79 ∈ q := by simp [List.getD_eq_getElem?_getD, List.getElem?_eq_getElem hlt]
    have htk : q.take (i + 1) = q.take i ++ [q.getD i z79] := by
     rw [List.take_add_one]; simp [List.getD_eq_getElem?_getD, List.getElem?_eq_getElem hlt]
    have hxs := hx _ hmem
    obtain ⟨x, hx2⟩ : ∃ x, x = q.getD i z79 := ⟨_, rfl⟩
    rw [← hx2] at hz0 hz1 hmem htk hxs
    clear hx2 hrd
    have i3 : ((i : Int) < (q.length : Int)) = True := eq_true (by omega)
    have i0 : (0 ≤ (i : Int)) = True := eq_true (by omega)
    have e1 : IntKind.i64.wrap ((i : Int) + 1) = (i : Int) + 1 := IntWalk.i64_in _ (by omega)
    have hg := sget_says base s t N T r x.f0 hxs wr hSr
    have Hi := Lib.hid (show i + 1 ≤ q.length by omega)
    have hno : hasB r x = false → sameB r q = false := fun hf => by
     rw [(show sameB r q = _ from Hsb), Bool.true_and]
     exact Bool.eq_false_iff.2 (fun ht => by have := List.all_eq_true.1 ht x hmem; rw [hf] at this; cases this)
    have hyes : hasB r x = true → (q.take (i + 1)).all (hasB r) = true := fun ht => by rw [htk, List.all_append, hal]; simp [ht]
    have hB : hasB r x = decide (getR r x.f0 = some x.f1) := rfl
    have Hno := Lib.hid hno
    have Hyes := Lib.hid hyes
    have HB := Lib.hid hB
    clear hno hyes hB htk hal hmem hxs hi
    cases hgv : getR r x.f0 with
    | none =>
     rw [hgv] at hg
     simp only [Option.getD_none, Option.isSome_none] at hg
     go_wp2_with fail
     refine hg.mono ?_
     rintro e w4 ⟨rfl, rfl⟩
     go_wp2_with fail
     go_ret
     exact ⟨by rw [(show hasB r x = false → sameB r q = false from Hno) (by rw [(show hasB r x = _ from HB), hgv]; simp)]; rfl, below_then hb03 hb03.size hb⟩
    | some v =>
     rw [hgv] at hg
     simp only [Option.getD_some, Option.isSome_some] at hg
     obtain ⟨bb, hbb⟩ : ∃ bb, (v.toList == x.f1.toList) = bb := ⟨_, rfl⟩
     have hb2 : (v.toList != x.f1.toList) = !bb := by rw [← hbb]; rfl
     cases bb with
     | true =>
      have Hk : RowKit.Hid (v = x.f1) := Lib.hid (keq_of hbb)
      go_wp2_with fail
      refine hg.mono ?_
      rintro e w4 ⟨rfl, rfl⟩
      go_wp2_with fail
      refine ⟨⟨i + 1, rfl, Hi, (show hasB r x = true → _ from Hyes) (by rw [(show hasB r x = _ from HB), hgv, (show v = x.f1 from Hk)]; simp), hb⟩, ?_⟩
      have := (show i + 1 ≤ q.length from Hi); simp only [intOf]; omega
     | false =>
      have Hk : RowKit.Hid (¬ v = x.f1) := Lib.hid (kne_of hbb)
      go_wp2_with fail
      refine hg.mono ?_
      rintro e w4 ⟨rfl, rfl⟩
      go_wp2_with fail
      go_ret
      exact ⟨by rw [(show hasB r x = false → sameB r q = false from Hno) (by rw [(show hasB r x = _ from HB), hgv]; exact decide_eq_false (fun h => (show ¬ v = x.f1 from Hk) (Option.some.inj h)))]; rfl, below_then hb03 hb03.size hb⟩
   ·
    have d1 : decide ((i : Int) < (q.length : Int)) = false := decide_eq_false (by omega)
    have hil : i = q.length := by omega
    subst hil
    rw [List.take_length] at hal
    go_wp2_with fail
    go_ret
    exact ⟨by rw [(show sameB r q = _ from Hsb), hal]; rfl, below_then hb03 hb03.size hb⟩
theorem swap_eq0 (T : TapeS) (ys : List Int) {d f : Int} {g : Bool} (hB : burnL ((ys.length : Int) + 1) T.fuse T.down true = ((d, true), (f, g))) : T.swap ys = (⟨ys, (ys.length : Int), f, g⟩, 0) := by rw [TapeS.swap_eq T ys hB]; rfl
/-- The rows of a reference, in memory. -/
def RowsAt (b : Nat) (w : World) (v : Value) (r : List S79) : Prop := Kd.R k79 79 w b (fun _ => True) v r
theorem RowsAt.below {b : Nat} {w w' : World} {v : Value} {r : List S79} (h : RowsAt b w v r) (hb : Below w.heap.size w w') : RowsAt b w' v r := rows_turO (base := b) (TurO.of_below hb) h
theorem RowsAt.slice {b : Nat} {w : World} {v : Value} {r : List S79} (h : RowsAt b w v r) : ∃ A c, v = .slice A r.length c ∧ r.length ≤ c ∧ Kd.C k79 w A r.length r := by
 obtain ⟨A, c, e⟩ := Kd.R_slice h
 subst e
 have := Kd.R_reads' h
 exact ⟨A, c, rfl, this.2.1, this.2.2⟩
theorem RowsAt.nil (b : Nat) (w : World) : RowsAt b w (.slice none 0 0) [] := Kd.R_nil _ _ _ _ _
/-- Rows.Turn, where no row is too long. -/
theorem rturn_says (b : Nat) (v : Value) (r : List S79) (A : Option Addr) (c : Nat) (l : List S49) (w : World) (hb : b ≤ w.heap.size) (h : RowsAt b w v r) (hC : Kd.C k49 w A l.length l) (hc : l.length ≤ c) (hl : r.length + l.length ≤ 1000000000) (hr : Ris r) :
  Calls Tryd.prog 23 #[v, .slice A l.length c] w fun e w' => ∃ v', e = .returned v' ∧ RowsAt b w' v' (turnR r l) ∧ Below w.heap.size w w' := by
 obtain ⟨A0, c0, rfl, h1, h2⟩ := h.slice
 refine (Turn_says A0 A c0 c r l w h2 hC h1 hc hl hr).mono ?_
 rintro e w' ⟨v', he, hr', hb'⟩
 exact ⟨v', he, Kd.R_lower hr' hb, hb'⟩
theorem key_turn1 {N : Nat} {r : List S79} (h : Ris r) (c : S49) (hr : ∀ x ∈ r, x.f0.size ≤ N) (hc : c.f0.size ≤ N) : ∀ x ∈ turn1 r c, x.f0.size ≤ N := by
 intro x hx
 rcases (turn1_mem h c x).1 hx with h' | h'
 ·
  exact hr x h'.1
 ·
  rw [h'.2]; exact hc
theorem key_turn {N : Nat} {r : List S79} (h : Ris r) (l : List S49) (hr : ∀ x ∈ r, x.f0.size ≤ N) (hc : ∀ c ∈ l, c.f0.size ≤ N) : ∀ x ∈ turnR r l, x.f0.size ≤ N := by
 induction l generalizing r with
 | nil => exact hr
 | cons c l ih => exact ih (h.turn1 c) (key_turn1 h c hr (hc c (List.mem_cons_self ..))) (fun d hd => hc d (List.mem_cons_of_mem _ hd))
theorem rsame_big (base s t N b : Nat) (T : TapeS) (r q : List S79) (v : Value) (w : World) (h : Sto base w s t T r N) (hN : N ≤ 3400000000000) (hv : RowsAt b w v q) (hq : q.length ≤ 1000000000) (hr : r.length ≤ 1000000000) (hx : ∀ x ∈ q, x.f0.size ≤ 140737488351232) :
  Calls Tryd.prog 15 #[.pointer (some ⟨s, 0, none⟩), v] w fun e w' => e = .returned (.bool (sameB r q)) ∧ Below w.heap.size w w' := by
 obtain ⟨A, c, rfl, h1, h2⟩ := hv.slice
 exact same_says base s t N T r q A c w h hN h2 h1 hq hr (fun x h => by have := hx x h; unfold maxLen; omega)
end Go.Proofs.YtkmokcfnfhabgaaDoor.X
