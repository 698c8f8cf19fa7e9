/- Texts, Rows.Keys, small: what the printed functions come to; a slice of changes that comes in, opened. The store, said of rows alone: Open, Do, Get, Keys. -/
import Derived.Test.YtkmokcfnfhabgaaDoorAws
import Derived.Test.YtkmokcfnfhabgaaDoorMir
import Derived.Test.YtkmokcfnfhabgaaDoorQE
import Derived.Deep.Slices
import Derived.Deep.Fields
import Derived.ChangeSame
import Derived.Test.YtkmokcfnfhabgaaDoorTrn
set_option linter.unusedVariables false
set_option linter.unusedSimpArgs false
namespace Go.Proofs.YtkmokcfnfhabgaaDoor.X
open Go.RowKit Go.WideMaps Go.Maps Go.Proofs.YtkmokcfnfhabgaaDoorW.PrintWords Go.Proofs.YtkmokcfnfhabgaaDoorW.PrintLast Go.Proofs.YtkmokcfnfhabgaaDoorW.PrintMore Go.Proofs.YtkmokcfnfhabgaaDoor.Q

theorem drop_cons {α : Type} (l : List α) (i : Nat) (h : i < l.length) (z : α) : l.drop i = l.getD i z :: l.drop (i + 1) := by
  rw [List.drop_eq_getElem_cons h]
  simp [List.getD_eq_getElem?_getD, List.getElem?_eq_getElem h]
theorem texts_ev (a b : List ByteArray) (hl : a.length ≤ 4000000000000) (e : a.length = b.length) : ∀ d i : Nat, i + d = a.length → Ev (fun k => exequaturref10_Texts.l0 k a b (i : Int)) (decide (a.drop i = b.drop i)) := by
  intro d
  induction d with
  | zero =>
    intro i hi
    refine Ev.step (fun k => ?_) (evNow (r' := true) ?_)
    · show exequaturref10_Texts.l0 (k + 1) a b (i : Int) = some true
      simp only [exequaturref10_Texts.l0]
      rw [if_neg (by omega)]
    · rw [List.drop_of_length_le (by omega), List.drop_of_length_le (by omega)]; rfl
  | succ d ih =>
    intro i hi
    have h := ih (i + 1) (by omega)
    have hw : wrap64 ((i : Int) + 1) = ((i + 1 : Nat) : Int) := by rw [w64 (by omega) (by omega)]; rfl
    have ra : rdOf ByteArray.empty a (i : Int) = a.getD i ByteArray.empty := by unfold rdOf; rw [Int.toNat_natCast]
    have rb : rdOf ByteArray.empty b (i : Int) = b.getD i ByteArray.empty := by unfold rdOf; rw [Int.toNat_natCast]
    rw [drop_cons a i (by omega) ByteArray.empty, drop_cons b i (by omega) ByteArray.empty]
    by_cases hc : a.getD i ByteArray.empty = b.getD i ByteArray.empty
    · refine Ev.step (f := fun k => exequaturref10_Texts.l0 k a b ((i + 1 : Nat) : Int)) (fun k => ?_) (evEq h ?_)
      · show exequaturref10_Texts.l0 (k + 1) a b (i : Int) = _
        simp only [exequaturref10_Texts.l0]
        rw [if_pos (by omega), if_pos (by omega), if_pos (by omega), ra, rb, if_pos (by rw [hc]), hw]
      · rw [hc]
        by_cases h2 : a.drop (i + 1) = b.drop (i + 1)
        · rw [h2]; simp
        · rw [decide_eq_false h2, decide_eq_false (fun h => h2 (List.cons.inj h).2)]
    · refine Ev.step (f := fun k => some false) (fun k => ?_) (evNow ?_)
      · show exequaturref10_Texts.l0 (k + 1) a b (i : Int) = _
        simp only [exequaturref10_Texts.l0]
        rw [if_pos (by omega), if_pos (by omega), if_pos (by omega), ra, rb, if_neg (fun h => hc (kl_inj (bytes_list.1 h)))]
      · rw [decide_eq_false (fun h => hc (List.cons.inj h).1)]
theorem texts_f (a b : List ByteArray) (hl : a.length ≤ 4000000000000) : ∃ k, exequaturref10_Texts.f k a b = some (decide (a = b)) := by
  by_cases e : a.length = b.length
  · obtain ⟨k, h⟩ := texts_ev a b hl e a.length 0 (by omega)
    refine ⟨k, ?_⟩
    unfold exequaturref10_Texts.f
    rw [if_pos (by omega)]
    exact h k (Nat.le_refl _)
  · refine ⟨0, ?_⟩
    unfold exequaturref10_Texts.f
    rw [if_neg (by omega), decide_eq_false (fun h => e (by rw [h]))]
theorem texts_says (A0 A1 : Option Addr) (c0 c1 : Nat) (a b : List ByteArray) (w : World) (h0 : Kd.C Kd.string w A0 a.length a) (hc0 : a.length ≤ c0) (h1 : Kd.C Kd.string w A1 b.length b) (hc1 : b.length ≤ c1) (hl : a.length ≤ 4000000000000) :
    Calls Tryd.prog 21 #[.slice A0 a.length c0, .slice A1 b.length c1] w fun e w' => e = .returned (.bool (decide (a = b))) ∧ Below w.heap.size w w' := by
  obtain ⟨k, hk⟩ := texts_f a b hl
  refine (exequaturref10_Texts.calls k A0 c0 a A1 c1 b _ w h0 hc0 h1 hc1 hk).mono ?_
  rintro e w' ⟨h, hd⟩
  exact ⟨h, hd.below⟩
theorem preB_iff (s p : ByteArray) : preB s p = (decide (p.size ≤ s.size) && decide ((s.extract 0 p.size).toList = p.toList)) := by
  have h1 : (s.extract 0 p.size).data.toList = s.data.toList.take p.size := by simp
  rw [show decide ((s.extract 0 p.size).toList = p.toList) = decide (s.data.toList.take p.size = p.data.toList) by rw [decide_eq_decide, bytes_list, h1]]
  have hp : p.data.toList.length = p.size := by simp
  have hs : s.data.toList.length = s.size := by simp
  unfold preB Lib.hasPrefix
  rw [Bool.eq_iff_iff, Bool.and_eq_true, decide_eq_true_eq, decide_eq_true_eq, List.isPrefixOf_iff_prefix, List.prefix_iff_eq_take, hp]
  constructor
  · intro h
    refine ⟨?_, h.symm⟩
    have := congrArg List.length h
    rw [List.length_take, hp, hs] at this
    omega
  · intro h; exact h.2.symm
theorem rkeys_ev (rows : List S79) (key : ByteArray) (hl : rows.length ≤ 1000000000) : ∀ (d i : Nat) (out : List ByteArray), i + d = rows.length → out.length ≤ i →
    Ev (fun k => exequaturref10_Rows_Keys.l0 k rows key out (i : Int)) (out ++ ((rows.drop i).map fun x => x.f0).filter fun k => preB k key) := by
  intro d
  induction d with
  | zero =>
    intro i out hi ho
    refine Ev.step (fun k => ?_) (evNow (r' := out) ?_)
    · show exequaturref10_Rows_Keys.l0 (k + 1) rows key out (i : Int) = some out
      simp only [exequaturref10_Rows_Keys.l0]
      rw [if_neg (by omega)]
    · rw [List.drop_of_length_le (by omega)]; simp
  | succ d ih =>
    intro i out hi ho
    have hw : wrap64 ((i : Int) + 1) = ((i + 1 : Nat) : Int) := by rw [w64 (by omega) (by omega)]; rfl
    have ra : rd_T79 rows (i : Int) = rows.getD i z79 := by unfold rd_T79; rw [Int.toNat_natCast]
    rw [drop_cons rows i (by omega) z79, List.map_cons, List.filter_cons]
    generalize rows.getD i z79 = x at ra ⊢
    have hp := preB_iff x.f0 key
    by_cases h1 : key.size ≤ x.f0.size
    · by_cases h2 : (x.f0.extract 0 key.size).toList = key.toList
      · have h := ih (i + 1) (out ++ [x.f0]) (by omega) (by simp; omega)
        rw [show preB x.f0 key = true by rw [hp, decide_eq_true h1, decide_eq_true h2]; rfl, if_pos rfl]
        refine Ev.step (f := fun k => exequaturref10_Rows_Keys.l0 k rows key (out ++ [x.f0]) ((i + 1 : Nat) : Int)) (fun k => ?_) (evEq h (List.append_assoc _ [x.f0] _))
        show exequaturref10_Rows_Keys.l0 (k + 1) rows key out (i : Int) = _
        simp only [exequaturref10_Rows_Keys.l0]
        rw [if_pos (by omega), if_pos (by omega), ra, if_pos (by omega), if_pos (by omega), if_pos (by omega), if_pos h2, if_pos (by omega), hw]
      · have h := ih (i + 1) out (by omega) (by omega)
        rw [show preB x.f0 key = false by rw [hp, decide_eq_true h1, decide_eq_false h2]; rfl, if_neg (by decide)]
        refine Ev.step (f := fun k => exequaturref10_Rows_Keys.l0 k rows key out ((i + 1 : Nat) : Int)) (fun k => ?_) h
        show exequaturref10_Rows_Keys.l0 (k + 1) rows key out (i : Int) = _
        simp only [exequaturref10_Rows_Keys.l0]
        rw [if_pos (by omega), if_pos (by omega), ra, if_pos (by omega), if_pos (by omega), if_pos (by omega), if_neg h2, hw]
    · have h := ih (i + 1) out (by omega) (by omega)
      rw [show preB x.f0 key = false by rw [hp, decide_eq_false h1]; rfl, if_neg (by decide)]
      refine Ev.step (f := fun k => exequaturref10_Rows_Keys.l0 k rows key out ((i + 1 : Nat) : Int)) (fun k => ?_) h
      show exequaturref10_Rows_Keys.l0 (k + 1) rows key out (i : Int) = _
      simp only [exequaturref10_Rows_Keys.l0]
      rw [if_pos (by omega), if_pos (by omega), ra, if_neg (by omega), hw]
theorem rkeys_says (A0 : Option Addr) (c0 : Nat) (rows : List S79) (key : ByteArray) (w : World) (h0 : Kd.C k79 w A0 rows.length rows) (hc0 : rows.length ≤ c0) (hl : rows.length ≤ 1000000000) :
    Calls Tryd.prog 24 #[.slice A0 rows.length c0, .string key] w fun e w' => ∃ v, e = .returned v ∧ Kd.R Kd.string 9 w' w.heap.size (fun _ => True) v ((rows.map fun x => x.f0).filter fun k => preB k key) ∧ Below w.heap.size w w' := by
  obtain ⟨k, h⟩ := rkeys_ev rows key hl rows.length 0 [] (by omega) (by simp)
  exact exequaturref10_Rows_Keys.calls k A0 c0 rows key _ w h0 hc0 (h k (Nat.le_refl _))
/-- How long the texts of changes are. -/
def wgtS (l : List S49) : Nat := (l.map fun x => x.f0.size + x.f1.size).sum
theorem small_no (l : List S49) (n i : Nat) (h : ¬ n < 40000) : Ev (fun k => exequaturlaw12_small.l0 k l (n : Int) (i : Int)) false := by
  refine Ev.step (f := fun k => some false) (fun k => ?_) (evNow rfl)
  show exequaturlaw12_small.l0 (k + 1) l (n : Int) (i : Int) = some false
  simp only [exequaturlaw12_small.l0]
  by_cases hl : (i : Int) < (l.length : Int)
  · rw [if_pos hl, if_neg (by omega)]
  · rw [if_neg hl, if_neg (by omega)]
theorem small_ev (l : List S49) (hl : l.length ≤ 4000000000000) (hx : ∀ x ∈ l, x.f0.size ≤ 140737488351232 ∧ x.f1.size ≤ 140737488351232) : ∀ (d i n : Nat), i + d = l.length → n ≤ 4000000000000 + i → n < 2000000000000000 →
    ∃ b, Ev (fun k => exequaturlaw12_small.l0 k l (n : Int) (i : Int)) b ∧ (b = true → l.length < 100 ∧ n + wgtS (l.drop i) < 40000) := by
  intro d
  induction d with
  | zero =>
    intro i n hi hn hn2
    by_cases h : n < 40000
    · refine ⟨decide ((l.length : Int) < 100), Ev.step (fun k => ?_) (evNow (r' := decide ((l.length : Int) < 100)) rfl), fun hb => ⟨by have := of_decide_eq_true hb; omega, ?_⟩⟩
      · show exequaturlaw12_small.l0 (k + 1) l (n : Int) (i : Int) = some _
        simp only [exequaturlaw12_small.l0]
        rw [if_neg (by omega), if_pos (by omega)]
      · rw [List.drop_of_length_le (by omega)]; simpa [wgtS] using h
    · exact ⟨false, small_no l n i h, fun hb => by cases hb⟩
  | succ d ih =>
    intro i n hi hn hn2
    by_cases h : n < 40000
    · have ra : rd_T49 l (i : Int) = l.getD i z49 := by unfold rd_T49; rw [Int.toNat_natCast]
      have hm := hx (l.getD i z49) (by simp [List.getD_eq_getElem?_getD, List.getElem?_eq_getElem (show i < l.length by omega)])
      rw [drop_cons l i (by omega) z49]
      generalize l.getD i z49 = x at ra hm ⊢
      have hw : wrap64 ((i : Int) + 1) = ((i + 1 : Nat) : Int) := by rw [w64 (by omega) (by omega)]; rfl
      have hs : wrap64 (wrap64 ((n : Int) + (x.f0.size : Int)) + (x.f1.size : Int)) = ((n + x.f0.size + x.f1.size : Nat) : Int) := by rw [w64 (x := (n : Int) + (x.f0.size : Int)) (by omega) (by omega), w64 (by omega) (by omega)]; omega
      by_cases h2 : n + x.f0.size + x.f1.size < 40000
      · obtain ⟨b, hb, hb2⟩ := ih (i + 1) (n + x.f0.size + x.f1.size) (by omega) (by omega) (by omega)
        refine ⟨b, Ev.step (f := fun k => exequaturlaw12_small.l0 k l ((n + x.f0.size + x.f1.size : Nat) : Int) ((i + 1 : Nat) : Int)) (fun k => ?_) hb, fun hbt => ⟨(hb2 hbt).1, ?_⟩⟩
        · show exequaturlaw12_small.l0 (k + 1) l (n : Int) (i : Int) = _
          simp only [exequaturlaw12_small.l0]
          rw [if_pos (by omega), if_pos (by omega), if_pos (by omega), ra, hs, hw]
        · have := (hb2 hbt).2
          have e : wgtS (x :: l.drop (i + 1)) = x.f0.size + x.f1.size + wgtS (l.drop (i + 1)) := by simp [wgtS]
          omega
      · refine ⟨false, Ev.step (f := fun k => exequaturlaw12_small.l0 k l ((n + x.f0.size + x.f1.size : Nat) : Int) ((i + 1 : Nat) : Int)) (fun k => ?_) (small_no l _ _ h2), fun hb => by cases hb⟩
        show exequaturlaw12_small.l0 (k + 1) l (n : Int) (i : Int) = _
        simp only [exequaturlaw12_small.l0]
        rw [if_pos (by omega), if_pos (by omega), if_pos (by omega), ra, hs, hw]
    · exact ⟨false, small_no l n i h, fun hb => by cases hb⟩
theorem small_says (A0 : Option Addr) (c0 : Nat) (l : List S49) (w : World) (h0 : Kd.C k49 w A0 l.length l) (hc0 : l.length ≤ c0) (hl : l.length ≤ 4000000000000) (hx : ∀ x ∈ l, x.f0.size ≤ 140737488351232 ∧ x.f1.size ≤ 140737488351232) :
    ∃ b, (b = true → l.length < 100 ∧ l.length + wgtS l < 40000) ∧ ∀ w, Kd.C k49 w A0 l.length l → Calls Tryd.prog 22 #[.slice A0 l.length c0] w fun e w' => e = .returned (.bool b) ∧ Below w.heap.size w w' := by
  obtain ⟨b, ⟨k, hk⟩, hb⟩ := small_ev l hl hx l.length 0 l.length (by omega) (by omega) (by omega)
  refine ⟨b, by simpa using hb, fun w h0 => ?_⟩
  refine (exequaturlaw12_small.calls k A0 c0 l b w h0 hc0 (hk k (Nat.le_refl _))).mono ?_
  rintro e w' ⟨h, hd⟩
  exact ⟨h, hd.below⟩
/-- Small changes make a small record. -/
theorem recL_small (l : List S49) : (recL l).length ≤ 4 + 12 * l.length + wgtS l := by
  unfold recL wgtS
  rw [List.length_append, four_len]
  have : (l.flatMap chgL).length ≤ 12 * l.length + (l.map fun x => x.f0.size + x.f1.size).sum := by
    induction l with
    | nil => simp
    | cons c l ih =>
      rw [List.flatMap_cons, List.length_append, chgL_len]
      simp only [List.length_cons, List.map_cons, List.sum_cons]
      split <;> omega
  omega
theorem wgtC_small (l : List S49) : wgtC l = 12 * l.length + wgtS l := by
  unfold wgtC wgtS
  induction l with
  | nil => rfl
  | cons c l ih => simp only [List.length_cons, List.map_cons, List.sum_cons]; omega
/-- A slice of changes that comes in. -/
def ChgsIn (w : World) (a : Option Addr) (len cap : Nat) : Prop := ∃ l : List S49, len = l.length ∧ Kd.C k49 w a l.length l ∧ l.length ≤ cap ∧ l.length ≤ 4000000000000 ∧ ∀ c ∈ l, c.f0.size ≤ 140737488351232 ∧ c.f1.size ≤ 140737488351232
theorem chgs_open {H : Type} {enc : TypeId × Value → H} {P : Program} {w : World} {base : Nat} {held : Bool} {t e : TypeId} {f0 f1 f2 : Field} {fuel : Nat} {a : Option Addr} {len cap : Nat} {d : DataW H} {p : List MemPlace}
    (ht : P.underlying t = some (.slice e)) (he : P.underlying e = some (.struct #[f0, f1, f2])) (h0 : P.underlying f0.type = some .string) (h1 : P.underlying f1.type = some .string) (h2 : P.underlying f2.type = some .bool) (hone : Deep.oneCellFields P #[f0, f1, f2] = true) (hC : P.cellsOf e = 3) (hB : P.bytesOf e = 40)
    (h : DataW.trod enc P w base (fun _ => true) held fuel t [.slice a len cap] = some (d, p)) (hw : ∀ n ∈ d.weights P t, n ≤ reachBytes) :
    ChgsIn w a len cap := by
  rcases Deep.open_slice ht h with ⟨hcs, _⟩ | ⟨a', len', cap', m, n, D, Pl, hcs, _, hl, hm, hmm, hx, hi⟩
  · simp only [List.cons.injEq, Value.slice.injEq, and_true] at hcs
    obtain ⟨rfl, rfl, rfl⟩ := hcs
    exact ⟨[], rfl, ⟨rfl, by simp, fun h => absurd h (by simp)⟩, Nat.le_refl _, by simp, by simp⟩
  · simp only [List.cons.injEq, Value.slice.injEq, and_true] at hcs
    obtain ⟨rfl, rfl, rfl⟩ := hcs
    have hmc : m = cap := by rw [hmm]; simp
    subst hmc
    simp only [Prod.mk.injEq] at hx
    have hd := hx.1
    have each : ∀ i, i < len → ∃ c : S49, D i = .agg [.lit (.string c.f0.data.toList), .lit (.string c.f1.data.toList), .lit (.bool c.f2)] ∧ w.cell? (a'.add (i * 3 + 0)) = some (.string c.f0) ∧ w.cell? (a'.add (i * 3 + 1)) = some (.string c.f1) ∧ w.cell? (a'.add (i * 3 + 2)) = some (.bool c.f2) := by
      intro i hlt
      obtain ⟨cs', hc, ht'⟩ := hi i (Nat.lt_of_lt_of_le hlt hl)
      rw [hC] at hc
      obtain ⟨ys, n', _, hy, hlen, hyl, hf⟩ := DataW.trod_struct he ht'
      obtain ⟨_, hcl, hat⟩ := World.cells?_some hc
      simp only [Prod.mk.injEq] at hy
      have hyl3 : ys.length = 3 := hyl
      match cs', hcl, hat, hf with
      | [c0, c1, c2], _, hat, hf =>
        match ys, hyl3, hy, hf with
        | [y0, y1, y2], _, hy, hf =>
          have g0 := hf 0 f0 rfl
          have g1 := hf 1 f1 rfl
          have g2 := hf 2 f2 rfl
          obtain ⟨o0, k0⟩ := Deep.hone_of hone 0 f0 rfl
          obtain ⟨o1, k1⟩ := Deep.hone_of hone 1 f1 rfl
          obtain ⟨o2, k2⟩ := Deep.hone_of hone 2 f2 rfl
          rw [o0, k0] at g0
          rw [o1, k1] at g1
          rw [o2, k2] at g2
          obtain ⟨s0, e0, z0, _⟩ := DataW.trod_string h0 g0
          obtain ⟨s1, e1, z1, _⟩ := DataW.trod_string h1 g1
          obtain ⟨b2, e2, z2⟩ := DataW.trod_bool h2 g2
          simp only [List.drop_zero, List.drop_succ_cons, List.take_succ_cons, List.take_zero, List.cons.injEq, and_true] at e0 e1 e2
          subst e0; subst e1; subst e2
          subst z0; subst z1; subst z2
          refine ⟨⟨s0, s1, b2⟩, hy.1, ?_, ?_, ?_⟩
          · rw [← Deep.add_add]; exact hat 0 (by omega)
          · rw [← Deep.add_add]; exact hat 1 (by omega)
          · rw [← Deep.add_add]; exact hat 2 (by omega)
    have each' : ∀ i, ∃ c : S49, i < len → D i = .agg [.lit (.string c.f0.data.toList), .lit (.string c.f1.data.toList), .lit (.bool c.f2)] ∧ w.cell? (a'.add (i * 3 + 0)) = some (.string c.f0) ∧ w.cell? (a'.add (i * 3 + 1)) = some (.string c.f1) ∧ w.cell? (a'.add (i * 3 + 2)) = some (.bool c.f2) := by
      intro i
      by_cases hlt : i < len
      · obtain ⟨c, hc⟩ := each i hlt; exact ⟨c, fun _ => hc⟩
      · exact ⟨z49, fun h => absurd h hlt⟩
    obtain ⟨F, hF⟩ := Classical.axiomOfChoice each'
    have hwl : (((List.range len).map D).length + ((List.range (m - len)).map fun j => D (len + j)).length) * P.bytesOf e ≤ reachBytes := by
      refine hw _ ?_
      rw [hd, DataW.weights, ht]
      exact List.mem_cons_self ..
    have hwe : ∀ i, i < len → ∀ n ∈ (D i).weights P e, n ≤ reachBytes := by
      intro i hlt n hn
      refine hw n ?_
      rw [hd, DataW.weights, ht]
      refine List.mem_cons_of_mem _ (List.mem_append_left _ ?_)
      have : ∀ (ds : List (DataW H)), D i ∈ ds → n ∈ DataW.weightsAll P e ds := by
        intro ds
        induction ds with
        | nil => intro h; cases h
        | cons y ds ih =>
          intro h
          rw [DataW.weightsAll]
          rcases List.mem_cons.1 h with h | h
          · rw [← h]; exact List.mem_append_left _ hn
          · exact List.mem_append_right _ (ih h)
      exact this _ (List.mem_map.2 ⟨i, List.mem_range.2 hlt, rfl⟩)
    rw [hB] at hwl
    simp only [List.length_map, List.length_range, reachBytes] at hwl
    refine ⟨(List.range len).map F, by simp, ⟨rfl, ?_, fun hp => ⟨a', rfl, fun j c hj => ?_⟩⟩, by simpa using hl, by simp; omega, ?_⟩
    · rw [List.length_map, List.length_range]; omega
    · have hjl : j < len := by have := (List.getElem?_eq_some_iff.1 hj).1; simpa using this
      rw [List.getElem?_map, List.getElem?_range hjl] at hj
      simp only [Option.map_some, Option.some.injEq] at hj
      subst hj
      obtain ⟨_, q0, q1, q2⟩ := hF j hjl
      refine ⟨[.string (F j).f0, .string (F j).f1, .bool (F j).f2], rfl, k49_mk w (F j), fun i u hu => ?_⟩
      match i, hu with
      | 0, hu => simp only [List.getElem?_cons_zero, Option.some.injEq] at hu; subst hu; exact q0
      | 1, hu => simp only [List.getElem?_cons_succ, List.getElem?_cons_zero, Option.some.injEq] at hu; subst hu; exact q1
      | 2, hu => simp only [List.getElem?_cons_succ, List.getElem?_cons_zero, Option.some.injEq] at hu; subst hu; exact q2
    · intro c hc
      simp only [List.mem_map, List.mem_range] at hc
      obtain ⟨i, hlt, rfl⟩ := hc
      have hD := (hF i hlt).1
      have hwi := hwe i hlt
      rw [hD, DataW.weights, he] at hwi
      have a0 := hwi (F i).f0.data.toList.length (by simp [DataW.weightsEach, DataW.weights])
      have a1 := hwi (F i).f1.data.toList.length (by simp [DataW.weightsEach, DataW.weights])
      simp only [Array.length_toList, reachBytes] at a0 a1
      exact ⟨a0, a1⟩
end Go.Proofs.YtkmokcfnfhabgaaDoor.X
namespace Go.Proofs.YtkmokcfnfhabgaaDoor.X
open Go.RowKit Go.WideMaps Go.Maps Go.Proofs.YtkmokcfnfhabgaaDoorW.PrintWords Go.Proofs.YtkmokcfnfhabgaaDoorW.PrintLast Go.Proofs.YtkmokcfnfhabgaaDoorW.PrintMore Go.Proofs.YtkmokcfnfhabgaaDoor.Q

def allR (r : List S79) : List S49 := r.map fun x => (⟨x.f0, x.f1, false⟩ : S49)
def TapeS.renewR (T : TapeS) (r : List S79) : TapeS × Int :=
  if 32768 < (recL (allR r)).length ∨ 65536 < (frameL (recL (allR r))).length then (T, 7) else T.swap (frameL (recL (allR r)))
/-- What Do does to the tape, and what it answers. -/
def doR (T : TapeS) (r : List S79) (l : List S49) : TapeS × Int :=
  if l.length = 0 then (T, 0) else if 32768 < (recL l).length then (T, 3) else
  if 65536 < (frameL (recL l)).length + T.b.length then T.renewR (turnR r l) else T.append (frameL (recL l))
theorem doR_eq {D : DataW Unit} {r : List S79} (h : Mir D r) (T : TapeS) (l : List S49) : doT T D l = doR T r l := by
  unfold doT doR TapeS.renew TapeS.renewR allR
  rw [(h.turn l).all]
theorem recAll_len (r : List S79) : (recL (allR r)).length = 4 + wgt r := by
  unfold recL wgt allR
  rw [List.length_append, four_len, List.flatMap_map]
  congr 1
  induction r with
  | nil => rfl
  | cons x r ih =>
    rw [List.flatMap_cons, List.length_append, ih, chgL_len]
    simp
/-- What a call may turn: blocks behind base, of a tape, a store, or bytes. -/
def TurO (base : Nat) (w w' : World) : Prop := ∃ S : Nat → Prop, Tur w w' S ∧ ∀ k, S k → base ≤ k ∧ ((∃ cs, w.heap[k]? = some (.cells cs 63 (0, 0))) ∨ (∃ cs, w.heap[k]? = some (.cells cs 74 (0, 0))) ∨ (∃ cs, w.heap[k]? = some (.cells cs 5 (0, 0))))
theorem TurO.below {base : Nat} {w w' : World} (h : TurO base w w') (hb : base ≤ w.heap.size) : Below base w w' := by
  obtain ⟨S, hS, hk⟩ := h
  exact hS.toBelow hb (fun k h => (hk k h).1)
theorem TurO.of_below {base : Nat} {w w' : World} (h : Below w.heap.size w w') : TurO base w w' := ⟨fun _ => False, Tur.of_below h _, fun _ h => h.elim⟩
theorem TurO.size {base : Nat} {w w' : World} (h : TurO base w w') : w.heap.size ≤ w'.heap.size := by
  obtain ⟨S, hS, _⟩ := h
  exact hS.kept.1
/-- A row of another type stays. -/
theorem R_turO {α : Type} {d : Kd α} {e base b : Nat} {w w' : World} {v : Value} {xs : List α} (h : TurO base w w') (hr : Kd.R d e w b (fun _ => True) v xs) (hE : ∀ x cs, d.M w b (fun _ => False) x cs ∨ True) (h1 : e ≠ 63) (h2 : e ≠ 74) (h3 : e ≠ 5)
    (hm : ∀ ok, Kd.R d e w b ok v xs → Kd.R d e w b (fun k => v.ownBlock = some k) v xs) : Kd.R d e w' b (fun _ => True) v xs := by
  obtain ⟨S, hS, hk⟩ := h
  refine Kd.R_mono (Kd.R_kept (hm _ hr) hS.kept ?_) (fun _ _ => trivial)
  intro k hv hs
  obtain ⟨cells, hc⟩ := Kd.R_typed hr k hv
  rcases (hk k hs).2 with ⟨cs, h⟩ | ⟨cs, h⟩ | ⟨cs, h⟩ <;> rw [hc] at h <;> simp only [Option.some.injEq, Obj.cells.injEq] at h
  · exact h1 h.2.1
  · exact h2 h.2.1
  · exact h3 h.2.1
theorem R_own79 {e : Nat} {W : World} {base : Nat} {ok : Nat → Prop} {v : Value} {xs : List S79} (h : Kd.R k79 e W base ok v xs) : Kd.R k79 e W base (fun k => v.ownBlock = some k) v xs := by
  obtain ⟨h0, inner, ho, hr⟩ := h
  exact ⟨fun k hk => hk, inner, ho, hr.imp_ (fun x cs hp => by rw [k79_openM hp]; exact k79_mkM _ _ _ x)⟩
theorem rows_turO {base b : Nat} {w w' : World} {v : Value} {xs : List S79} (h : TurO base w w') (hr : Kd.R k79 79 w b (fun _ => True) v xs) : Kd.R k79 79 w' b (fun _ => True) v xs :=
  R_turO h hr (fun _ _ => .inr trivial) (by decide) (by decide) (by decide) (fun _ h => R_own79 h)
/-- A store and its tape: rows, and what stands on the tape. -/
def Sto (base : Nat) (w : World) (s t : Nat) (T : TapeS) (r : List S79) (N : Nat) : Prop :=
  ∃ m n D v, StoreAt w base s t m n D ∧ TpAt w base t v T ∧ Mir D r ∧ n ≤ N
theorem Sto.below {base s t N : Nat} {w w' : World} {T : TapeS} {r : List S79} (h : Sto base w s t T r N) (hb : Below w.heap.size w w') : Sto base w' s t T r N := by
  obtain ⟨m, n, D, v, h1, h2, h3, h4⟩ := h
  exact ⟨m, n, D, v, h1.kept (Tur.of_below hb (fun _ => False)) (fun h => h) (fun h => h), TapeAt.kept h2 (Tur.of_below hb (fun _ => False)) (fun h => h) (fun _ _ h => h), h3, h4⟩
theorem Sto.mono {base s t N N' : Nat} {w : World} {T : TapeS} {r : List S79} (h : Sto base w s t T r N) (hN : N ≤ N') : Sto base w s t T r N' := by
  obtain ⟨m, n, D, v, h1, h2, h3, h4⟩ := h
  exact ⟨m, n, D, v, h1, h2, h3, Nat.le_trans h4 hN⟩
theorem Sto.ge {base s t N : Nat} {w : World} {T : TapeS} {r : List S79} (h : Sto base w s t T r N) : base ≤ s ∧ base ≤ t := by
  obtain ⟨m, n, D, v, h1, h2, h3, h4⟩ := h
  exact ⟨h1.ge, h2.ge⟩
/-- What a text has as its row. -/
def getR (r : List S79) (key : ByteArray) : Option ByteArray := (r.find? fun x => decide (x.f0 = key)).map fun x => x.f1
theorem getR_has {D : DataW Unit} {r : List S79} (h : Mir D r) (key : ByteArray) : hasS D key = (getR r key).isSome := by
  unfold getR
  rw [Bool.eq_iff_iff, h.has key, Option.isSome_map, List.find?_isSome]
  simp
theorem getR_val {D : DataW Unit} {r : List S79} (h : Mir D r) (key : ByteArray) (v : ByteArray) (hv : getR r key = some v) : valS D key = v := by
  unfold getR at hv
  rw [Option.map_eq_some_iff] at hv
  obtain ⟨x, hx, rfl⟩ := hv
  have h1 := List.mem_of_find?_eq_some hx
  have h2 := List.find?_some hx
  simp only [decide_eq_true_eq] at h2
  rw [← h2]; exact h.val x h1
theorem getR_none {D : DataW Unit} {r : List S79} (h : Mir D r) (key : ByteArray) (hv : getR r key = none) : valS D key = ⟨#[]⟩ := by
  have h1 := getR_has h key
  rw [hv] at h1
  obtain ⟨es, hes, _⟩ := h.tidy
  subst hes
  unfold hasS at h1
  unfold valS
  have : (DataW.map es).atKey (kb key) (.lit (.string [])) = .lit (.string []) := by
    unfold Maps.has at h1
    unfold DataW.atKey
    simp only [Option.isSome_none] at h1
    cases hf : es.find? (fun p => p.1.sameKey (kb key)) with
    | none => simp [hf]
    | some p =>
      exfalso
      have hp := List.mem_of_find?_eq_some hf
      have hp2 := List.find?_some hf
      have : es.any (fun p => p.1.sameKey (kb key)) = true := List.any_eq_true.2 ⟨p, hp, hp2⟩
      simp_all
  rw [this]
theorem sget_says (base s t N : Nat) (T : TapeS) (r : List S79) (key : ByteArray) (hk : key.size ≤ maxLen) (w : World) (h : Sto base w s t T r N) :
    Calls Tryd.prog 17 #[.pointer (some ⟨s, 0, none⟩), .string key] w fun e w' => e = .returned (.tuple #[.string ((getR r key).getD ⟨#[]⟩), .bool (getR r key).isSome]) ∧ w' = w := by
  obtain ⟨m, n, D, v, h1, h2, h3, h4⟩ := h
  have hg := get_says base s t m n D key hk w h1
  rw [getR_has h3 key] at hg
  cases hv : getR r key with
  | none => rw [hv, getR_none h3 key hv] at hg; exact hg
  | some x => rw [hv, getR_val h3 key x hv] at hg; exact hg
theorem skeys_says (base s t N : Nat) (T : TapeS) (r : List S79) (key : ByteArray) (w : World) (h : Sto base w s t T r N) (hN : N ≤ 3400000000000) :
    Calls Tryd.prog 19 #[.pointer (some ⟨s, 0, none⟩), .string key] w fun e w' => ∃ v, e = .returned v ∧ Kd.R Kd.string 9 w' w.heap.size (fun _ => True) v ((r.map fun x => x.f0).filter fun k => preB k key) ∧ Below w.heap.size w w' := by
  obtain ⟨m, n, D, v, h1, h2, h3, h4⟩ := h
  have hg := keys_says base s t m n D key w h1 (by omega)
  rw [h3.keys] at hg
  exact hg
theorem sdo_says (s t N : Nat) (T : TapeS) (r : List S79) (A : Option Addr) (c : Nat) (l : List S49) (w0 w : World) (hGL : GL w0) (hB : Below w0.heap.size w0 w) (h : Sto w0.heap.size w s t T r N) (hG : T.Good) (hC : Kd.C k49 w A l.length l) (hcl : l.length ≤ c)
    (hn : N + l.length ≤ 3400000000000) (hl : 4 + wgt r + wgtC l ≤ 80000000) (hTl : T.b.length ≤ 1000000) (hx : ∀ x ∈ l, x.f0.size ≤ maxLen ∧ x.f1.size ≤ maxLen) :
    Calls Tryd.prog 18 #[.pointer (some ⟨s, 0, none⟩), .slice A l.length c] w fun e w' =>
      e = .returned (.int .i64 (doR T r l).2) ∧ TurO w0.heap.size w w' ∧ Sto w0.heap.size w' s t (doR T r l).1 (if (doR T r l).2 = 0 then turnR r l else r) (N + l.length) := by
  obtain ⟨m, n, D, v, h1, h2, h3, h4⟩ := h
  have hwl : l.length ≤ wgtC l := by rw [wgtC_small]; omega
  have hrl : (recL l).length ≤ 4 + wgtC l := by rw [wgtC_small]; have := recL_small l; omega
  have hd := do_says w0.heap.size s t m n D v T A c l w0 w hGL hB h1 h2 hG hC hcl (by omega) (by omega) (by omega) hTl hx (by
    have := (h3.turn l).recs
    have := wgt_turn h3.ris l
    omega) hB.size
  refine hd.mono ?_
  rintro e w' ⟨he, hk, m', n', v', hS, hn', hT, hv⟩
  rw [doR_eq h3] at he hT
  refine ⟨he, ⟨_, hk, ?_⟩, m', n', _, v', hS, hT, ?_, by omega⟩
  · rintro k (h | h | h)
    · exact ⟨h ▸ h1.ge, .inr (.inl ⟨_, h ▸ h1.blk⟩)⟩
    · exact ⟨h ▸ h2.ge, .inl ⟨_, h ▸ h2.blk⟩⟩
    · obtain ⟨hb, cells, hc⟩ := h2.row.typed k h
      exact ⟨hb, .inr (.inr ⟨cells, hc⟩)⟩
  · unfold doD
    rw [doR_eq h3]
    split
    · exact h3.turn l
    · exact h3
/-- A tape that has whole records, and something that is none behind them. -/
structure Lay (T : TapeS) (ls : List (List S49)) (junk : List Int) : Prop where
  b : T.b = fr (ls.map recL) ++ junk
  none : (oneL junk).2 = false
  sm : ∀ l ∈ ls, (recL l).length ≤ 32768
theorem chg_mem {l : List S49} {c : S49} (h : c ∈ l) : 12 + c.f0.size + (if c.f2 = true then 0 else c.f1.size) ≤ (recL l).length := by
  unfold recL
  rw [List.length_append]
  have : (chgL c).length ≤ (l.flatMap chgL).length := by
    induction l with
    | nil => cases h
    | cons y l ih =>
      rw [List.flatMap_cons, List.length_append]
      rcases List.mem_cons.1 h with h | h
      · rw [h]; omega
      · have := ih h; omega
  rw [chgL_len] at this
  omega
theorem recs_len {l : List S49} : 4 + 12 * l.length ≤ (recL l).length := by
  unfold recL
  rw [List.length_append, four_len]
  have : 12 * l.length ≤ (l.flatMap chgL).length := by
    induction l with
    | nil => simp
    | cons y l ih => rw [List.flatMap_cons, List.length_append, chgL_len, List.length_cons]; omega
  omega
theorem recL_norm_of (l : List S49) : recL (l.map normC) = recL l := recL_norm l
theorem turnR_norm (r : List S79) (l : List S49) : turnR r (l.map normC) = turnR r l := by
  unfold turnR
  rw [List.foldl_map]
  congr 1
  funext r c
  obtain ⟨k, v, g⟩ := c
  cases g with
  | false => rfl
  | true =>
    show turn1 r ⟨k, ⟨#[]⟩, true⟩ = turn1 r ⟨k, v, true⟩
    rw [turn1_gone _ _ rfl, turn1_gone _ _ rfl]
theorem norm_small {l : List S49} (h : (recL l).length ≤ 32768) : ∀ c ∈ l.map normC, c.f0.size < 4294967296 ∧ c.f1.size < 4294967296 := by
  intro c hc
  obtain ⟨x, hx, rfl⟩ := List.mem_map.1 hc
  have := chg_mem hx
  obtain ⟨k, v, g⟩ := x
  cases g with
  | false => simp [normC] at this ⊢; omega
  | true => exact ⟨by simp [normC] at this ⊢; omega, by show (⟨#[]⟩ : ByteArray).size < _; decide⟩
def foldR (ls : List (List S49)) : List S79 := ls.foldl turnR []
theorem mir_fold (ls : List (List S49)) {D : DataW Unit} {r : List S79} (h : Mir D r) : Mir (ls.foldl turnD D) (ls.foldl turnR r) := by
  induction ls generalizing D r with
  | nil => exact h
  | cons l ls ih => exact ih (h.turn l)
theorem Lay.split {T : TapeS} {ls : List (List S49)} {junk : List Int} (h : Lay T ls junk) : splitL T.b = (ls.map recL, (fr (ls.map recL)).length) := by
  rw [h.b]
  exact splitL_frames _ _ (by intro a ha; obtain ⟨l, hl, rfl⟩ := List.mem_map.1 ha; exact h.sm l hl) h.none
theorem Lay.opens {T : TapeS} {ls : List (List S49)} {junk : List Int} (h : Lay T ls junk) : openD (splitL T.b).1 (.map []) = some (ls.foldl turnD (.map [])) := by
  rw [h.split]
  have e : ls.map recL = (ls.map fun l => l.map normC).map recL := by rw [List.map_map]; exact List.map_congr_left fun l _ => (recL_norm l).symm
  show openD (ls.map recL) _ = _
  rw [e, openD_recs _ _ ?_]
  · congr 1
    rw [List.foldl_map]
    congr 1
    funext D l; exact turnD_norm D l
  · intro l hl
    obtain ⟨x, hx, rfl⟩ := List.mem_map.1 hl
    have h1 := h.sm x hx
    have h2 := recs_len (l := x)
    exact ⟨by rw [List.length_map]; omega, norm_small h1⟩
theorem Lay.opened {T : TapeS} {ls : List (List S49)} {junk : List Int} (h : Lay T ls junk) : T.opened = ⟨fr (ls.map recL), if junk = [] then T.sure else ((fr (ls.map recL)).length : Int), -1, false⟩ := by
  have hs := h.split
  unfold TapeS.opened
  rw [hs]
  simp only
  rw [show T.b.take (fr (ls.map recL)).length = fr (ls.map recL) by rw [h.b]; exact List.take_left]
  congr 1
  have hl : T.b.length = (fr (ls.map recL)).length + junk.length := by rw [h.b, List.length_append]
  by_cases hj : junk = []
  · rw [if_pos hj, if_neg (by rw [hl, hj]; simp)]
  · have := List.length_pos_iff.2 hj
    rw [if_neg hj, if_pos (by omega)]
/-- Open, where the tape has records. -/
theorem sopen_says (t : Nat) (v : Value) (T : TapeS) (ls : List (List S49)) (junk : List Int) (hL : Lay T ls junk) (hf : T.fuse = -1) (hd : T.down = false) (w0 w : World) (hGL : GL w0) (hB : Below w0.heap.size w0 w) (hT : TpAt w w0.heap.size t v T) (hG : T.Good) :
    Calls Tryd.prog 13 #[.pointer (some ⟨t, 0, none⟩)] w fun e w' => Tur w w' (fun k => k = t) ∧
      ∃ s, e = .returned (.tuple #[.pointer (some ⟨s, 0, none⟩), .int .i64 0]) ∧ w.heap.size ≤ s ∧ Sto w0.heap.size w' s t T.opened (foldR ls) 3300000000000 := by
  refine (topen_ok t v T hf hd _ hL.opens w0 w hGL hB hT hG).mono ?_
  rintro e w' ⟨hk, s, m, n, v', h1, h2, h3, h4, h5⟩
  exact ⟨hk, s, h1, h2.ge, m, n, _, v', h2.lower hB.size, h4, mir_fold ls Mir.empty, h3⟩
theorem Lay.new : Lay TapeS.new [] [] := ⟨rfl, oneL_nil, by simp⟩
theorem snew_says (w0 w : World) (hGL : GL w0) (hB : Below w0.heap.size w0 w) (t : Nat) (v : Value) (hT : TpAt w w0.heap.size t v TapeS.new) :
    Calls Tryd.prog 13 #[.pointer (some ⟨t, 0, none⟩)] w fun e w' => Tur w w' (fun k => k = t) ∧
      ∃ s, e = .returned (.tuple #[.pointer (some ⟨s, 0, none⟩), .int .i64 0]) ∧ w.heap.size ≤ s ∧ Sto w0.heap.size w' s t TapeS.new [] 3300000000000 :=
  sopen_says t v TapeS.new [] [] Lay.new rfl rfl w0 w hGL hB hT TapeS.new_good
end Go.Proofs.YtkmokcfnfhabgaaDoor.X
