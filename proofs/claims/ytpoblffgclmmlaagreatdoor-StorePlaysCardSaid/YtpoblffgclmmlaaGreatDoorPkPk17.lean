/- A part of the proof of a card: what some functions of the program come to, each under the conditions that its theorem names. -/
import Derived.Deep.Slices
import Derived.Deep.Fields
import Derived.ChangeSame
import Derived.Test.YtpoblffgclmmlaaGreatDoorPkPk9
import Derived.Test.YtpoblffgclmmlaaGreatDoorPkPk14
import Derived.Test.YtpoblffgclmmlaaGreatDoorPkPk15
import Derived.Test.YtpoblffgclmmlaaGreatDoorPkPk16
section
set_option linter.unusedVariables false
set_option linter.unusedSimpArgs false
namespace Go.Proofs.YtpoblffgclmmlaaGreatDoor.X
open Go.RowKit Go.WideMaps Go.Maps Go.Proofs.YtpoblffgclmmlaaGreatDoorW.PrintWords Go.Proofs.YtpoblffgclmmlaaGreatDoorW.PrintLast Go.Proofs.YtpoblffgclmmlaaGreatDoorW.PrintMore Go.Proofs.YtpoblffgclmmlaaGreatDoor.Q

theorem drop_cons {α : Type} (l : List α) (i : Nat) (h : i < l.length) (z : α) : l.drop i = l.getD i z :: l.drop (i + 1) := by
 rw [List.drop_eq_getElem_cons h]
 simp [List.getD_eq_getElem?_getD, List.getElem?_eq_getElem h]
theorem texts_ev (a b : List ByteArray) (hl : a.length ≤ 4000000000000) (e : a.length = b.length) : ∀ d i : Nat, i + d = a.length → Ev (fun k => exequaturref10_Texts.l0 k a b (i : Int)) (decide (a.drop i = b.drop i)) := by
 intro d
 induction d with
 | zero =>
  intro i hi
  refine Ev.step (fun k => ?_) (evNow (r' := true) ?_)
  ·
   show exequaturref10_Texts.l0 (k + 1) a b (i : Int) = some true
   simp only [exequaturref10_Texts.l0]
   rw [if_neg (by omega)]
  ·
   rw [List.drop_of_length_le (by omega), List.drop_of_length_le (by omega)]; rfl
 | succ d ih =>
  intro i hi
  have h := ih (i + 1) (by omega)
  have hw : wrap64 ((i : Int) + 1) = ((i + 1 : Nat) : Int) := by rw [w64 (by omega) (by omega)]; rfl
  have ra : rdOf ByteArray.empty a (i : Int) = a.getD i ByteArray.empty := by unfold rdOf; rw [Int.toNat_natCast]
  have rb : rdOf ByteArray.empty b (i : Int) = b.getD i ByteArray.empty := by unfold rdOf; rw [Int.toNat_natCast]
  rw [drop_cons a i (by omega) ByteArray.empty, drop_cons b i (by omega) ByteArray.empty]
  by_cases hc : a.getD i ByteArray.empty = b.getD i ByteArray.empty
  ·
   refine Ev.step (f := fun k => exequaturref10_Texts.l0 k a b ((i + 1 : Nat) : Int)) (fun k => ?_) (evEq h ?_)
   ·
    show exequaturref10_Texts.l0 (k + 1) a b (i : Int) = _
    simp only [exequaturref10_Texts.l0]
    rw [if_pos (by omega), if_pos (by omega), if_pos (by omega), ra, rb, if_pos (by rw [hc]), hw]
   ·
    rw [hc]
    by_cases h2 : a.drop (i + 1) = b.drop (i + 1)
    ·
     rw [h2]; simp
    ·
     rw [decide_eq_false h2, decide_eq_false (fun h => h2 (List.cons.inj h).2)]
  ·
   refine Ev.step (f := fun k => some false) (fun k => ?_) (evNow ?_)
   ·
    show exequaturref10_Texts.l0 (k + 1) a b (i : Int) = _
    simp only [exequaturref10_Texts.l0]
    rw [if_pos (by omega), if_pos (by omega), if_pos (by omega), ra, rb, if_neg (fun h => hc (kl_inj (bytes_list.1 h)))]
   ·
    rw [decide_eq_false (fun h => hc (List.cons.inj h).1)]
theorem texts_f (a b : List ByteArray) (hl : a.length ≤ 4000000000000) : ∃ k, exequaturref10_Texts.f k a b = some (decide (a = b)) := by
 by_cases e : a.length = b.length
 ·
  obtain ⟨k, h⟩ := texts_ev a b hl e a.length 0 (by omega)
  refine ⟨k, ?_⟩
  unfold exequaturref10_Texts.f
  rw [if_pos (by omega)]
  exact h k (Nat.le_refl _)
 ·
  refine ⟨0, ?_⟩
  unfold exequaturref10_Texts.f
  rw [if_neg (by omega), decide_eq_false (fun h => e (by rw [h]))]
theorem texts_says (A0 A1 : Option Addr) (c0 c1 : Nat) (a b : List ByteArray) (w : World) (h0 : Kd.C Kd.string w A0 a.length a) (hc0 : a.length ≤ c0) (h1 : Kd.C Kd.string w A1 b.length b) (hc1 : b.length ≤ c1) (hl : a.length ≤ 4000000000000) :
  Calls Tryz.prog 97 #[.slice A0 a.length c0, .slice A1 b.length c1] w fun e w' => e = .returned (.bool (decide (a = b))) ∧ Below w.heap.size w w' := by
 obtain ⟨k, hk⟩ := texts_f a b hl
 refine (exequaturref10_Texts.calls k A0 c0 a A1 c1 b _ w h0 hc0 h1 hc1 hk).mono ?_
 rintro e w' ⟨h, hd⟩
 exact ⟨h, hd.below⟩
theorem preB_iff (s p : ByteArray) : preB s p = (decide (p.size ≤ s.size) && decide ((s.extract 0 p.size).toList = p.toList)) := by
 have h1 : (s.extract 0 p.size).data.toList = s.data.toList.take p.size := by simp
 rw [show decide ((s.extract 0 p.size).toList = p.toList) = decide (s.data.toList.take p.size = p.data.toList) by rw [decide_eq_decide, bytes_list, h1]]
 have hp : p.data.toList.length = p.size := by simp
 have hs : s.data.toList.length = s.size := by simp
 unfold preB Lib.hasPrefix
 rw [Bool.eq_iff_iff, Bool.and_eq_true, decide_eq_true_eq, decide_eq_true_eq, List.isPrefixOf_iff_prefix, List.prefix_iff_eq_take, hp]
 constructor
 ·
  intro h
  refine ⟨?_, h.symm⟩
  have := congrArg List.length h
  rw [List.length_take, hp, hs] at this
  omega
 ·
  intro h; exact h.2.symm
theorem rkeys_ev (rows : List S82) (key : ByteArray) (hl : rows.length ≤ 1000000000) : ∀ (d i : Nat) (out : List ByteArray), i + d = rows.length → out.length ≤ i →
  Ev (fun k => exequaturref10_Rows_Keys.l0 k rows key out (i : Int)) (out ++ ((rows.drop i).map fun x => x.f0).filter fun k => preB k key) := by
 intro d
 induction d with
 | zero =>
  intro i out hi ho
  refine Ev.step (fun k => ?_) (evNow (r' := out) ?_)
  ·
   show exequaturref10_Rows_Keys.l0 (k + 1) rows key out (i : Int) = some out
   simp only [exequaturref10_Rows_Keys.l0]
   rw [if_neg (by omega)]
  ·
   rw [List.drop_of_length_le (by omega)]; simp
 | succ d ih =>
  intro i out hi ho
  have hw : wrap64 ((i : Int) + 1) = ((i + 1 : Nat) : Int) := by rw [w64 (by omega) (by omega)]; rfl
  have ra : rd_T82 rows (i : Int) = rows.getD i z82 := by unfold rd_T82; rw [Int.toNat_natCast]
  rw [drop_cons rows i (by omega) z82, List.map_cons, List.filter_cons]
  generalize rows.getD i z82 = x at ra ⊢
  have hp := preB_iff x.f0 key
  by_cases h1 : key.size ≤ x.f0.size
  ·
   by_cases h2 : (x.f0.extract 0 key.size).toList = key.toList
   ·
    have h := ih (i + 1) (out ++ [x.f0]) (by omega) (by simp; omega)
    rw [show preB x.f0 key = true by rw [hp, decide_eq_true h1, decide_eq_true h2]; rfl, if_pos rfl]
    refine Ev.step (f := fun k => exequaturref10_Rows_Keys.l0 k rows key (out ++ [x.f0]) ((i + 1 : Nat) : Int)) (fun k => ?_) (evEq h (List.append_assoc _ [x.f0] _))
    show exequaturref10_Rows_Keys.l0 (k + 1) rows key out (i : Int) = _
    simp only [exequaturref10_Rows_Keys.l0]
    rw [if_pos (by omega), if_pos (by omega), ra, if_pos (by omega), if_pos (by omega), if_pos (by omega), if_pos h2, if_pos (by omega), hw]
   ·
    have h := ih (i + 1) out (by omega) (by omega)
    rw [show preB x.f0 key = false by rw [hp, decide_eq_true h1, decide_eq_false h2]; rfl, if_neg (by decide)]
    refine Ev.step (f := fun k => exequaturref10_Rows_Keys.l0 k rows key out ((i + 1 : Nat) : Int)) (fun k => ?_) h
    show exequaturref10_Rows_Keys.l0 (k + 1) rows key out (i : Int) = _
    simp only [exequaturref10_Rows_Keys.l0]
    rw [if_pos (by omega), if_pos (by omega), ra, if_pos (by omega), if_pos (by omega), if_pos (by omega), if_neg h2, hw]
  ·
   have h := ih (i + 1) out (by omega) (by omega)
   rw [show preB x.f0 key = false by rw [hp, decide_eq_false h1]; rfl, if_neg (by decide)]
   refine Ev.step (f := fun k => exequaturref10_Rows_Keys.l0 k rows key out ((i + 1 : Nat) : Int)) (fun k => ?_) h
   show exequaturref10_Rows_Keys.l0 (k + 1) rows key out (i : Int) = _
   simp only [exequaturref10_Rows_Keys.l0]
   rw [if_pos (by omega), if_pos (by omega), ra, if_neg (by omega), hw]
theorem rkeys_says (A0 : Option Addr) (c0 : Nat) (rows : List S82) (key : ByteArray) (w : World) (h0 : Kd.C k82 w A0 rows.length rows) (hc0 : rows.length ≤ c0) (hl : rows.length ≤ 1000000000) :
  Calls Tryz.prog 52 #[.slice A0 rows.length c0, .string key] w fun e w' => ∃ v, e = .returned v ∧ Kd.R Kd.string 9 w' w.heap.size (fun _ => True) v ((rows.map fun x => x.f0).filter fun k => preB k key) ∧ Below w.heap.size w w' := by
 obtain ⟨k, h⟩ := rkeys_ev rows key hl rows.length 0 [] (by omega) (by simp)
 exact exequaturref10_Rows_Keys.calls k A0 c0 rows key _ w h0 hc0 (h k (Nat.le_refl _))
/-- How long the texts of changes are. -/
def wgtS (l : List S69) : Nat := (l.map fun x => x.f0.size + x.f1.size).sum
theorem small_no (l : List S69) (n i : Nat) (h : ¬ n < 40000) : Ev (fun k => exequaturlaw12_small.l0 k l (n : Int) (i : Int)) false := by
 refine Ev.step (f := fun k => some false) (fun k => ?_) (evNow rfl)
 show exequaturlaw12_small.l0 (k + 1) l (n : Int) (i : Int) = some false
 simp only [exequaturlaw12_small.l0]
 by_cases hl : (i : Int) < (l.length : Int)
 ·
  rw [if_pos hl, if_neg (by omega)]
 ·
  rw [if_neg hl, if_neg (by omega)]
theorem small_ev (l : List S69) (hl : l.length ≤ 4000000000000) (hx : ∀ x ∈ l, x.f0.size ≤ 140737488351232 ∧ x.f1.size ≤ 140737488351232) : ∀ (d i n : Nat), i + d = l.length → n ≤ 4000000000000 + i → n < 2000000000000000 →
  ∃ b, Ev (fun k => exequaturlaw12_small.l0 k l (n : Int) (i : Int)) b ∧ (b = true → l.length < 100 ∧ n + wgtS (l.drop i) < 40000) := by
 intro d
 induction d with
 | zero =>
  intro i n hi hn hn2
  by_cases h : n < 40000
  ·
   refine ⟨decide ((l.length : Int) < 100), Ev.step (fun k => ?_) (evNow (r' := decide ((l.length : Int) < 100)) rfl), fun hb => ⟨by have := of_decide_eq_true hb; omega, ?_⟩⟩
   ·
    show exequaturlaw12_small.l0 (k + 1) l (n : Int) (i : Int) = some _
    simp only [exequaturlaw12_small.l0]
    rw [if_neg (by omega), if_pos (by omega)]
   ·
    rw [List.drop_of_length_le (by omega)]; simpa [wgtS] using h
  ·
   exact ⟨false, small_no l n i h, fun hb => by cases hb⟩
 | succ d ih =>
  intro i n hi hn hn2
  by_cases h : n < 40000
  ·
   have ra : rd_T69 l (i : Int) = l.getD i z69 := by unfold rd_T69; rw [Int.toNat_natCast]
   have hm := hx (l.getD i z69) (by simp [List.getD_eq_getElem?_getD, List.getElem?_eq_getElem (show i < l.length by omega)])
   rw [drop_cons l i (by omega) z69]
   generalize l.getD i z69 = x at ra hm ⊢
   have hw : wrap64 ((i : Int) + 1) = ((i + 1 : Nat) : Int) := by rw [w64 (by omega) (by omega)]; rfl
   have hs : wrap64 (wrap64 ((n : Int) + (x.f0.size : Int)) + (x.f1.size : Int)) = ((n + x.f0.size + x.f1.size : Nat) : Int) := by rw [w64 (x := (n : Int) + (x.f0.size : Int)) (by omega) (by omega), w64 (by omega) (by omega)]; omega
   by_cases h2 : n + x.f0.size + x.f1.size < 40000
   ·
    obtain ⟨b, hb, hb2⟩ := ih (i + 1) (n + x.f0.size + x.f1.size) (by omega) (by omega) (by omega)
    refine ⟨b, Ev.step (f := fun k => exequaturlaw12_small.l0 k l ((n + x.f0.size + x.f1.size : Nat) : Int) ((i + 1 : Nat) : Int)) (fun k => ?_) hb, fun hbt => ⟨(hb2 hbt).1, ?_⟩⟩
    ·
     show exequaturlaw12_small.l0 (k + 1) l (n : Int) (i : Int) = _
     simp only [exequaturlaw12_small.l0]
     rw [if_pos (by omega), if_pos (by omega), if_pos (by omega), ra, hs, hw]
    ·
     have := (hb2 hbt).2
     have e : wgtS (x :: l.drop (i + 1)) = x.f0.size + x.f1.size + wgtS (l.drop (i + 1)) := by simp [wgtS]
     omega
   ·
    refine ⟨false, Ev.step (f := fun k => exequaturlaw12_small.l0 k l ((n + x.f0.size + x.f1.size : Nat) : Int) ((i + 1 : Nat) : Int)) (fun k => ?_) (small_no l _ _ h2), fun hb => by cases hb⟩
    show exequaturlaw12_small.l0 (k + 1) l (n : Int) (i : Int) = _
    simp only [exequaturlaw12_small.l0]
    rw [if_pos (by omega), if_pos (by omega), if_pos (by omega), ra, hs, hw]
  ·
   exact ⟨false, small_no l n i h, fun hb => by cases hb⟩
theorem small_says (A0 : Option Addr) (c0 : Nat) (l : List S69) (w : World) (h0 : Kd.C k69 w A0 l.length l) (hc0 : l.length ≤ c0) (hl : l.length ≤ 4000000000000) (hx : ∀ x ∈ l, x.f0.size ≤ 140737488351232 ∧ x.f1.size ≤ 140737488351232) :
  ∃ b, (b = true → l.length < 100 ∧ l.length + wgtS l < 40000) ∧ ∀ w, Kd.C k69 w A0 l.length l → Calls Tryz.prog 21 #[.slice A0 l.length c0] w fun e w' => e = .returned (.bool b) ∧ Below w.heap.size w w' := by
 obtain ⟨b, ⟨k, hk⟩, hb⟩ := small_ev l hl hx l.length 0 l.length (by omega) (by omega) (by omega)
 refine ⟨b, by simpa using hb, fun w h0 => ?_⟩
 refine (exequaturlaw12_small.calls k A0 c0 l b w h0 hc0 (hk k (Nat.le_refl _))).mono ?_
 rintro e w' ⟨h, hd⟩
 exact ⟨h, hd.below⟩
/-- Small changes make a small record. -/
theorem recL_small (l : List S69) : (recL l).length ≤ 4 + 12 * l.length + wgtS l := by
 unfold recL wgtS
 rw [List.length_append, four_len]
 have : (l.flatMap chgL).length ≤ 12 * l.length + (l.map fun x => x.f0.size + x.f1.size).sum := by
  induction l with
  | nil => simp
  | cons c l ih =>
   rw [List.flatMap_cons, List.length_append, chgL_len]
   simp only [List.length_cons, List.map_cons, List.sum_cons]
   split <;> omega
 omega
theorem wgtC_small (l : List S69) : wgtC l = 12 * l.length + wgtS l := by
 unfold wgtC wgtS
 induction l with
 | nil => rfl
 | cons c l ih => simp only [List.length_cons, List.map_cons, List.sum_cons]; omega
/-- A slice of changes that comes in. -/
def ChgsIn (w : World) (a : Option Addr) (len cap : Nat) : Prop := ∃ l : List S69, len = l.length ∧ Kd.C k69 w a l.length l ∧ l.length ≤ cap ∧ l.length ≤ 4000000000000 ∧ ∀ c ∈ l, c.f0.size ≤ 140737488351232 ∧ c.f1.size ≤ 140737488351232
theorem chgs_open {H : Type} {enc : TypeId × Value → H} {P : Program} {w : World} {base : Nat} {held : Bool} {t e : TypeId} {f0 f1 f2 : Field} {fuel : Nat} {a : Option Addr} {len cap : Nat} {d : DataW H} {p : List MemPlace}
  (ht : P.underlying t = some (.slice e)) (he : P.underlying e = some (.struct #[f0, f1, f2])) (h0 : P.underlying f0.type = some .string) (h1 : P.underlying f1.type = some .string) (h2 : P.underlying f2.type = some .bool) (hone : Deep.oneCellFields P #[f0, f1, f2] = true) (hC : P.cellsOf e = 3) (hB : P.bytesOf e = 40)
  (h : DataW.trod enc P w base (fun _ => true) held fuel t [.slice a len cap] = some (d, p)) (hw : ∀ n ∈ d.weights P t, n ≤ reachBytes) :
  ChgsIn w a len cap := by
 rcases Deep.open_slice ht h with ⟨hcs, _⟩ | ⟨a', len', cap', m, n, D, Pl, hcs, _, hl, hm, hmm, hx, hi⟩
 ·
  simp only [List.cons.injEq, Value.slice.injEq, and_true] at hcs
  obtain ⟨rfl, rfl, rfl⟩ := hcs
  exact ⟨[], rfl, ⟨rfl, by simp, fun h => absurd h (by simp)⟩, Nat.le_refl _, by simp, by simp⟩
 ·
  simp only [List.cons.injEq, Value.slice.injEq, and_true] at hcs
  obtain ⟨rfl, rfl, rfl⟩ := hcs
  have hmc : m = cap := by rw [hmm]; simp
  subst hmc
  simp only [Prod.mk.injEq] at hx
  have hd := hx.1
  have each : ∀ i, i < len → ∃ c : S69, D i = .agg [.lit (.string c.f0.data.toList), .lit (.string c.f1.data.toList), .lit (.bool c.f2)] ∧ w.cell? (a'.add (i * 3 + 0)) = some (.string c.f0) ∧ w.cell? (a'.add (i * 3 + 1)) = some (.string c.f1) ∧ w.cell? (a'.add (i * 3 + 2)) = some (.bool c.f2) := by
   intro i hlt
   obtain ⟨cs', hc, ht'⟩ := hi i (Nat.lt_of_lt_of_le hlt hl)
   rw [hC] at hc
   obtain ⟨ys, n', _, hy, hlen, hyl, hf⟩ := DataW.trod_struct he ht'
   obtain ⟨_, hcl, hat⟩ := World.cells?_some hc
   simp only [Prod.mk.injEq] at hy
   have hyl3 : ys.length = 3 := hyl
   match cs', hcl, hat, hf with
   | [c0, c1, c2], _, hat, hf =>
    match ys, hyl3, hy, hf with
    | [y0, y1, y2], _, hy, hf =>
     have g0 := hf 0 f0 rfl
     have g1 := hf 1 f1 rfl
     have g2 := hf 2 f2 rfl
     obtain ⟨o0, k0⟩ := Deep.hone_of hone 0 f0 rfl
     obtain ⟨o1, k1⟩ := Deep.hone_of hone 1 f1 rfl
     obtain ⟨o2, k2⟩ := Deep.hone_of hone 2 f2 rfl
     rw [o0, k0] at g0
     rw [o1, k1] at g1
     rw [o2, k2] at g2
     obtain ⟨s0, e0, z0, _⟩ := DataW.trod_string h0 g0
     obtain ⟨s1, e1, z1, _⟩ := DataW.trod_string h1 g1
     obtain ⟨b2, e2, z2⟩ := DataW.trod_bool h2 g2
     simp only [List.drop_zero, List.drop_succ_cons, List.take_succ_cons, List.take_zero, List.cons.injEq, and_true] at e0 e1 e2
     subst e0; subst e1; subst e2
     subst z0; subst z1; subst z2
     refine ⟨⟨s0, s1, b2⟩, hy.1, ?_, ?_, ?_⟩
     ·
      rw [← Deep.add_add]; exact hat 0 (by omega)
     ·
      rw [← Deep.add_add]; exact hat 1 (by omega)
     ·
      rw [← Deep.add_add]; exact hat 2 (by omega)
  have each' : ∀ i, ∃ c : S69, i < len → D i = .agg [.lit (.string c.f0.data.toList), .lit (.string c.f1.data.toList), .lit (.bool c.f2)] ∧ w.cell? (a'.add (i * 3 + 0)) = some (.string c.f0) ∧ w.cell? (a'.add (i * 3 + 1)) = some (.string c.f1) ∧ w.cell? (a'.add (i * 3 + 2)) = some (.bool c.f2) := by
   intro i
   by_cases hlt : i < len
   ·
    obtain ⟨c, hc⟩ := each i hlt; exact ⟨c, fun _ => hc⟩
   ·
    exact ⟨z69, fun h => absurd h hlt⟩
  obtain ⟨F, hF⟩ := Classical.axiomOfChoice each'
  have hwl : (((List.range len).map D).length + ((List.range (m - len)).map fun j => D (len + j)).length) * P.bytesOf e ≤ reachBytes := by
   refine hw _ ?_
   rw [hd, DataW.weights, ht]
   exact List.mem_cons_self ..
  have hwe : ∀ i, i < len → ∀ n ∈ (D i).weights P e, n ≤ reachBytes := by
   intro i hlt n hn
   refine hw n ?_
   rw [hd, DataW.weights, ht]
   refine List.mem_cons_of_mem _ (List.mem_append_left _ ?_)
   have : ∀ (ds : List (DataW H)), D i ∈ ds → n ∈ DataW.weightsAll P e ds := by
    intro ds
    induction ds with
    | nil => intro h; cases h
    | cons y ds ih =>
     intro h
     rw [DataW.weightsAll]
     rcases List.mem_cons.1 h with h | h
     ·
      rw [← h]; exact List.mem_append_left _ hn
     ·
      exact List.mem_append_right _ (ih h)
   exact this _ (List.mem_map.2 ⟨i, List.mem_range.2 hlt, rfl⟩)
  rw [hB] at hwl
  simp only [List.length_map, List.length_range, reachBytes] at hwl
  refine ⟨(List.range len).map F, by simp, ⟨rfl, ?_, fun hp => ⟨a', rfl, fun j c hj => ?_⟩⟩, by simpa using hl, by simp; omega, ?_⟩
  ·
   rw [List.length_map, List.length_range]; omega
  ·
   have hjl : j < len := by have := (List.getElem?_eq_some_iff.1 hj).1; simpa using this
   rw [List.getElem?_map, List.getElem?_range hjl] at hj
   simp only [Option.map_some, Option.some.injEq] at hj
   subst hj
   obtain ⟨_, q0, q1, q2⟩ := hF j hjl
   refine ⟨[.string (F j).f0, .string (F j).f1, .bool (F j).f2], rfl, k69_mk w (F j), fun i u hu => ?_⟩
   match i, hu with
   | 0, hu => simp only [List.getElem?_cons_zero, Option.some.injEq] at hu; subst hu; exact q0
   | 1, hu => simp only [List.getElem?_cons_succ, List.getElem?_cons_zero, Option.some.injEq] at hu; subst hu; exact q1
   | 2, hu => simp only [List.getElem?_cons_succ, List.getElem?_cons_zero, Option.some.injEq] at hu; subst hu; exact q2
  ·
   intro c hc
   simp only [List.mem_map, List.mem_range] at hc
   obtain ⟨i, hlt, rfl⟩ := hc
   have hD := (hF i hlt).1
   have hwi := hwe i hlt
   rw [hD, DataW.weights, he] at hwi
   have a0 := hwi (F i).f0.data.toList.length (by simp [DataW.weightsEach, DataW.weights])
   have a1 := hwi (F i).f1.data.toList.length (by simp [DataW.weightsEach, DataW.weights])
   simp only [Array.length_toList, reachBytes] at a0 a1
   exact ⟨a0, a1⟩
end Go.Proofs.YtpoblffgclmmlaaGreatDoor.X
namespace Go.Proofs.YtpoblffgclmmlaaGreatDoor.X
open Go.RowKit Go.WideMaps Go.Maps Go.Proofs.YtpoblffgclmmlaaGreatDoorW.PrintWords Go.Proofs.YtpoblffgclmmlaaGreatDoorW.PrintLast Go.Proofs.YtpoblffgclmmlaaGreatDoorW.PrintMore Go.Proofs.YtpoblffgclmmlaaGreatDoor.Q

def allR (r : List S82) : List S69 := r.map fun x => (⟨x.f0, x.f1, false⟩ : S69)
def TapeS.renewR (T : TapeS) (r : List S82) : TapeS × Int :=
 if 32768 < (recL (allR r)).length ∨ 65536 < (frameL (recL (allR r))).length then (T, 7) else T.swap (frameL (recL (allR r)))
/-- What Do does to the tape, and what it answers. -/
def doR (T : TapeS) (r : List S82) (l : List S69) : TapeS × Int :=
 if l.length = 0 then (T, 0) else if 32768 < (recL l).length then (T, 3) else
 if 65536 < (frameL (recL l)).length + T.b.length then T.renewR (turnR r l) else T.append (frameL (recL l))
theorem doR_eq {D : DataW Unit} {r : List S82} (h : Mir D r) (T : TapeS) (l : List S69) : doT T D l = doR T r l := by
 unfold doT doR TapeS.renew TapeS.renewR allR
 rw [(h.turn l).all]
theorem recAll_len (r : List S82) : (recL (allR r)).length = 4 + wgt r := by
 unfold recL wgt allR
 rw [List.length_append, four_len, List.flatMap_map]
 congr 1
 induction r with
 | nil => rfl
 | cons x r ih =>
  rw [List.flatMap_cons, List.length_append, ih, chgL_len]
  simp
/-- What a call may turn: blocks behind base, of a tape, a store, or bytes. -/
def TurO (base : Nat) (w w' : World) : Prop := ∃ S : Nat → Prop, Tur w w' S ∧ ∀ k, S k → base ≤ k ∧ ((∃ cs, w.heap[k]? = some (.cells cs 119 (0, 0))) ∨ (∃ cs, w.heap[k]? = some (.cells cs 125 (0, 0))) ∨ (∃ cs, w.heap[k]? = some (.cells cs 5 (0, 0))))
theorem TurO.below {base : Nat} {w w' : World} (h : TurO base w w') (hb : base ≤ w.heap.size) : Below base w w' := by
 obtain ⟨S, hS, hk⟩ := h
 exact hS.toBelow hb (fun k h => (hk k h).1)
theorem TurO.of_below {base : Nat} {w w' : World} (h : Below w.heap.size w w') : TurO base w w' := ⟨fun _ => False, Tur.of_below h _, fun _ h => h.elim⟩
theorem TurO.size {base : Nat} {w w' : World} (h : TurO base w w') : w.heap.size ≤ w'.heap.size := by
 obtain ⟨S, hS, _⟩ := h
 exact hS.kept.1
/-- A row of another type stays. -/
theorem R_turO {α : Type} {d : Kd α} {e base b : Nat} {w w' : World} {v : Value} {xs : List α} (h : TurO base w w') (hr : Kd.R d e w b (fun _ => True) v xs) (hE : ∀ x cs, d.M w b (fun _ => False) x cs ∨ True) (h1 : e ≠ 119) (h2 : e ≠ 125) (h3 : e ≠ 5)
  (hm : ∀ ok, Kd.R d e w b ok v xs → Kd.R d e w b (fun k => v.ownBlock = some k) v xs) : Kd.R d e w' b (fun _ => True) v xs := by
 obtain ⟨S, hS, hk⟩ := h
 refine Kd.R_mono (Kd.R_kept (hm _ hr) hS.kept ?_) (fun _ _ => trivial)
 intro k hv hs
 obtain ⟨cells, hc⟩ := Kd.R_typed hr k hv
 rcases (hk k hs).2 with ⟨cs, h⟩ | ⟨cs, h⟩ | ⟨cs, h⟩ <;> rw [hc] at h <;> simp only [Option.some.injEq, Obj.cells.injEq] at h
 ·
  exact h1 h.2.1
 ·
  exact h2 h.2.1
 ·
  exact h3 h.2.1
theorem R_own79 {e : Nat} {W : World} {base : Nat} {ok : Nat → Prop} {v : Value} {xs : List S82} (h : Kd.R k82 e W base ok v xs) : Kd.R k82 e W base (fun k => v.ownBlock = some k) v xs := by
 obtain ⟨h0, inner, ho, hr⟩ := h
 exact ⟨fun k hk => hk, inner, ho, hr.imp_ (fun x cs hp => by rw [k82_openM hp]; exact k82_mkM _ _ _ x)⟩
theorem rows_turO {base b : Nat} {w w' : World} {v : Value} {xs : List S82} (h : TurO base w w') (hr : Kd.R k82 82 w b (fun _ => True) v xs) : Kd.R k82 82 w' b (fun _ => True) v xs :=
 R_turO h hr (fun _ _ => .inr trivial) (by decide) (by decide) (by decide) (fun _ h => R_own79 h)
/-- A store and its tape: rows, and what stands on the tape. -/
def Sto (base : Nat) (w : World) (s t : Nat) (T : TapeS) (r : List S82) (N : Nat) : Prop :=
 ∃ m n D v, StoreAt w base s t m n D ∧ TpAt w base t v T ∧ Mir D r ∧ n ≤ N
theorem Sto.below {base s t N : Nat} {w w' : World} {T : TapeS} {r : List S82} (h : Sto base w s t T r N) (hb : Below w.heap.size w w') : Sto base w' s t T r N := by
 obtain ⟨m, n, D, v, h1, h2, h3, h4⟩ := h
 exact ⟨m, n, D, v, h1.kept (Tur.of_below hb (fun _ => False)) (fun h => h) (fun h => h), TapeAt.kept h2 (Tur.of_below hb (fun _ => False)) (fun h => h) (fun _ _ h => h), h3, h4⟩
theorem Sto.mono {base s t N N' : Nat} {w : World} {T : TapeS} {r : List S82} (h : Sto base w s t T r N) (hN : N ≤ N') : Sto base w s t T r N' := by
 obtain ⟨m, n, D, v, h1, h2, h3, h4⟩ := h
 exact ⟨m, n, D, v, h1, h2, h3, Nat.le_trans h4 hN⟩
theorem Sto.ge {base s t N : Nat} {w : World} {T : TapeS} {r : List S82} (h : Sto base w s t T r N) : base ≤ s ∧ base ≤ t := by
 obtain ⟨m, n, D, v, h1, h2, h3, h4⟩ := h
 exact ⟨h1.ge, h2.ge⟩
/-- What a text has as its row. -/
def getR (r : List S82) (key : ByteArray) : Option ByteArray := (r.find? fun x => decide (x.f0 = key)).map fun x => x.f1
theorem getR_has {D : DataW Unit} {r : List S82} (h : Mir D r) (key : ByteArray) : hasS D key = (getR r key).isSome := by
 unfold getR
 rw [Bool.eq_iff_iff, h.has key, Option.isSome_map, List.find?_isSome]
 simp
theorem getR_val {D : DataW Unit} {r : List S82} (h : Mir D r) (key : ByteArray) (v : ByteArray) (hv : getR r key = some v) : valS D key = v := by
 unfold getR at hv
 rw [Option.map_eq_some_iff] at hv
 obtain ⟨x, hx, rfl⟩ := hv
 have h1 := List.mem_of_find?_eq_some hx
 have h2 := List.find?_some hx
 simp only [decide_eq_true_eq] at h2
 rw [← h2]; exact h.val x h1
theorem getR_none {D : DataW Unit} {r : List S82} (h : Mir D r) (key : ByteArray) (hv : getR r key = none) : valS D key = ⟨#[]⟩ := by
 have h1 := getR_has h key
 rw [hv] at h1
 obtain ⟨es, hes, _⟩ := h.tidy
 subst hes
 unfold hasS at h1
 unfold valS
 have : (DataW.map es).atKey (kb key) (.lit (.string [])) = .lit (.string []) := by
  unfold Maps.has at h1
  unfold DataW.atKey
  simp only [Option.isSome_none] at h1
  cases hf : es.find? (fun p => p.1.sameKey (kb key)) with
  | none => simp [hf]
  | some p =>
   exfalso
   have hp := List.mem_of_find?_eq_some hf
   have hp2 := List.find?_some hf
   have : es.any (fun p => p.1.sameKey (kb key)) = true := List.any_eq_true.2 ⟨p, hp, hp2⟩
   simp_all
 rw [this]
theorem sget_says (base s t N : Nat) (T : TapeS) (r : List S82) (key : ByteArray) (hk : key.size ≤ maxLen) (w : World) (h : Sto base w s t T r N) :
  Calls Tryz.prog 79 #[.pointer (some ⟨s, 0, none⟩), .string key] w fun e w' => e = .returned (.tuple #[.string ((getR r key).getD ⟨#[]⟩), .bool (getR r key).isSome]) ∧ w' = w := by
 obtain ⟨m, n, D, v, h1, h2, h3, h4⟩ := h
 have hg := get_says base s t m n D key hk w h1
 rw [getR_has h3 key] at hg
 cases hv : getR r key with
 | none => rw [hv, getR_none h3 key hv] at hg; exact hg
 | some x => rw [hv, getR_val h3 key x hv] at hg; exact hg
theorem skeys_says (base s t N : Nat) (T : TapeS) (r : List S82) (key : ByteArray) (w : World) (h : Sto base w s t T r N) (hN : N ≤ 3400000000000) :
  Calls Tryz.prog 53 #[.pointer (some ⟨s, 0, none⟩), .string key] w fun e w' => ∃ v, e = .returned v ∧ Kd.R Kd.string 9 w' w.heap.size (fun _ => True) v ((r.map fun x => x.f0).filter fun k => preB k key) ∧ Below w.heap.size w w' := by
 obtain ⟨m, n, D, v, h1, h2, h3, h4⟩ := h
 have hg := keys_says base s t m n D key w h1 (by omega)
 rw [h3.keys] at hg
 exact hg
/-- A tape that has whole records, and something that is none behind them. -/
structure Lay (T : TapeS) (ls : List (List S69)) (junk : List Int) : Prop where
 b : T.b = fr (ls.map recL) ++ junk
 none : (oneL junk).2 = false
 sm : ∀ l ∈ ls, (recL l).length ≤ 32768
theorem chg_mem {l : List S69} {c : S69} (h : c ∈ l) : 12 + c.f0.size + (if c.f2 = true then 0 else c.f1.size) ≤ (recL l).length := by
 unfold recL
 rw [List.length_append]
 have : (chgL c).length ≤ (l.flatMap chgL).length := by
  induction l with
  | nil => cases h
  | cons y l ih =>
   rw [List.flatMap_cons, List.length_append]
   rcases List.mem_cons.1 h with h | h
   ·
    rw [h]; omega
   ·
    have := ih h; omega
 rw [chgL_len] at this
 omega
theorem recs_len {l : List S69} : 4 + 12 * l.length ≤ (recL l).length := by
 unfold recL
 rw [List.length_append, four_len]
 have : 12 * l.length ≤ (l.flatMap chgL).length := by
  induction l with
  | nil => simp
  | cons y l ih => rw [List.flatMap_cons, List.length_append, chgL_len, List.length_cons]; omega
 omega
theorem turnR_norm (r : List S82) (l : List S69) : turnR r (l.map normC) = turnR r l := by
 unfold turnR
 rw [List.foldl_map]
 congr 1
 funext r c
 obtain ⟨k, v, g⟩ := c
 cases g with
 | false => rfl
 | true =>
  show turn1 r ⟨k, ⟨#[]⟩, true⟩ = turn1 r ⟨k, v, true⟩
  rw [turn1_gone _ _ rfl, turn1_gone _ _ rfl]
theorem norm_small {l : List S69} (h : (recL l).length ≤ 32768) : ∀ c ∈ l.map normC, c.f0.size < 4294967296 ∧ c.f1.size < 4294967296 := by
 intro c hc
 obtain ⟨x, hx, rfl⟩ := List.mem_map.1 hc
 have := chg_mem hx
 obtain ⟨k, v, g⟩ := x
 cases g with
 | false => simp [normC] at this ⊢; omega
 | true => exact ⟨by simp [normC] at this ⊢; omega, by show (⟨#[]⟩ : ByteArray).size < _; decide⟩
def foldR (ls : List (List S69)) : List S82 := ls.foldl turnR []
theorem mir_fold (ls : List (List S69)) {D : DataW Unit} {r : List S82} (h : Mir D r) : Mir (ls.foldl turnD D) (ls.foldl turnR r) := by
 induction ls generalizing D r with
 | nil => exact h
 | cons l ls ih => exact ih (h.turn l)
theorem Lay.split {T : TapeS} {ls : List (List S69)} {junk : List Int} (h : Lay T ls junk) : splitL T.b = (ls.map recL, (fr (ls.map recL)).length) := by
 rw [h.b]
 exact splitL_frames _ _ (by intro a ha; obtain ⟨l, hl, rfl⟩ := List.mem_map.1 ha; exact h.sm l hl) h.none
theorem Lay.opens {T : TapeS} {ls : List (List S69)} {junk : List Int} (h : Lay T ls junk) : openD (splitL T.b).1 (.map []) = some (ls.foldl turnD (.map [])) := by
 rw [h.split]
 have e : ls.map recL = (ls.map fun l => l.map normC).map recL := by rw [List.map_map]; exact List.map_congr_left fun l _ => (recL_norm l).symm
 show openD (ls.map recL) _ = _
 rw [e, openD_recs _ _ ?_]
 ·
  congr 1
  rw [List.foldl_map]
  congr 1
  funext D l; exact turnD_norm D l
 ·
  intro l hl
  obtain ⟨x, hx, rfl⟩ := List.mem_map.1 hl
  have h1 := h.sm x hx
  have h2 := recs_len (l := x)
  exact ⟨by rw [List.length_map]; omega, norm_small h1⟩
theorem Lay.opened {T : TapeS} {ls : List (List S69)} {junk : List Int} (h : Lay T ls junk) : T.opened = ⟨fr (ls.map recL), if junk = [] then T.sure else ((fr (ls.map recL)).length : Int), -1, false⟩ := by
 have hs := h.split
 unfold TapeS.opened
 rw [hs]
 simp only
 rw [show T.b.take (fr (ls.map recL)).length = fr (ls.map recL) by rw [h.b]; exact List.take_left]
 congr 1
 have hl : T.b.length = (fr (ls.map recL)).length + junk.length := by rw [h.b, List.length_append]
 by_cases hj : junk = []
 ·
  rw [if_pos hj, if_neg (by rw [hl, hj]; simp)]
 ·
  have := List.length_pos_iff.2 hj
  rw [if_neg hj, if_pos (by omega)]
theorem Lay.new : Lay TapeS.new [] [] := ⟨rfl, oneL_nil, by simp⟩
end Go.Proofs.YtpoblffgclmmlaaGreatDoor.X
end
section
set_option linter.unusedVariables false
set_option linter.unusedSimpArgs false
namespace Go.Proofs.YtpoblffgclmmlaaGreatDoor.X
open Go.RowKit Go.WideMaps Go.Maps Go.Proofs.YtpoblffgclmmlaaGreatDoorW.PrintWords Go.Proofs.YtpoblffgclmmlaaGreatDoorW.PrintLast Go.Proofs.YtpoblffgclmmlaaGreatDoorW.PrintMore Go.Proofs.YtpoblffgclmmlaaGreatDoor.Q

theorem turnR_len (r : List S82) (l : List S69) (h : Ris r) : (turnR r l).length ≤ r.length + l.length := by
 induction l generalizing r with
 | nil => exact Nat.le_refl _
 | cons c l ih =>
  have h1 := turn1_len r c h
  have h2 := ih (turn1 r c) (h.turn1 c)
  show (turnR (turn1 r c) l).length ≤ _
  rw [List.length_cons]; omega
def hasB (r : List S82) (x : S82) : Bool := decide (getR r x.f0 = some x.f1)
def sameB (r q : List S82) : Bool := decide (r.map (fun x => x.f0) = q.map (fun x => x.f0)) && q.all (hasB r)
theorem getR_mem {r : List S82} (h : Ris r) {x : S82} (hx : x ∈ r) : getR r x.f0 = some x.f1 := by
 unfold getR
 induction r with
 | nil => cases hx
 | cons y r ih =>
  have h1 := (List.pairwise_cons.1 h)
  rw [List.find?_cons]
  rcases List.mem_cons.1 hx with e | e
  ·
   subst e; simp
  ·
   have hne : ¬ y.f0 = x.f0 := fun he => by have := h1.1 x e; rw [he] at this; exact List.lt_irrefl _ this
   rw [decide_eq_false hne]
   exact ih h1.2 e
theorem sameB_self {r : List S82} (h : Ris r) : sameB r r = true := by
 unfold sameB
 rw [decide_eq_true rfl, Bool.true_and, List.all_eq_true]
 intro x hx
 exact decide_eq_true (getR_mem h hx)
theorem preB_nil (k : ByteArray) : preB k ⟨#[]⟩ = true := by
 unfold preB Lib.hasPrefix; rfl
theorem filter_nil (r : List S82) : ((r.map fun x => x.f0).filter fun k => preB k ⟨#[]⟩) = r.map fun x => x.f0 := List.filter_eq_self.2 (fun k _ => preB_nil k)
set_option maxHeartbeats 8000000 in
set_option maxRecDepth 100000 in
theorem same_says (base s t N : Nat) (T : TapeS) (r q : List S82) (A : Option Addr) (c : Nat) (w : World) (h : Sto base w s t T r N) (hN : N ≤ 3400000000000) (hC : Kd.C k82 w A q.length q) (hc : q.length ≤ c) (hq : q.length ≤ 1000000000) (hr : r.length ≤ 1000000000) (hx : ∀ x ∈ q, x.f0.size ≤ maxLen) :
  Calls Tryz.prog 27 #[.pointer (some ⟨s, 0, none⟩), .slice A q.length c] w fun e w' => e = .returned (.bool (sameB r q)) ∧ Below w.heap.size w w' := by
 have hk := skeys_says base s t N T r ⟨#[]⟩ w h hN
 rw [filter_nil] at hk
 have hsb : sameB r q = (decide (r.map (fun x => x.f0) = q.map (fun x => x.f0)) && q.all (hasB r)) := rfl
 have hrk := fun w1 h1 => rkeys_says A c q ⟨#[]⟩ w1 h1 hc (by omega)
 rw [filter_nil] at hrk
 have hl1 : (r.map (fun x => x.f0)).length ≤ 1000000000 := by rw [List.length_map]; exact hr
 generalize r.map (fun x => x.f0) = k1 at hk hsb hl1
 generalize q.map (fun x => x.f0) = k2 at hrk hsb
 have Hsb0 := Lib.hid hsb
 have Hl1 := Lib.hid hl1
 clear hsb hl1
 go_enter Tryz.func27, Tryz.ntmps27
 go_wp2_with fail
 refine hk.mono ?_
 rintro e w1 ⟨v1, rfl, hr1, hb1⟩
 obtain ⟨A1, c1, e1⟩ := Kd.R_slice hr1
 subst e1
 have hC1 := Kd.C_below hC hb1
 have hrk := hrk w1 hC1
 clear hk
 go_wp2_with fail
 refine hrk.mono ?_
 rintro e w2 ⟨v2, rfl, hr2, hb2⟩
 obtain ⟨A2, c2, e2⟩ := Kd.R_slice hr2
 subst e2
 have hrd1 := Kd.R_reads' hr1
 have hrd2 := Kd.R_reads' hr2
 have hb02 := below_then hb1 hb1.size hb2
 have htx := texts_says A1 A2 c1 c2 _ _ w2 (Kd.C_below hrd1.2.2 hb2) hrd1.2.1 hrd2.2.2 hrd2.2.1 (Nat.le_trans (show k1.length ≤ 1000000000 from Hl1) (by decide))
 have hsb := (show sameB r q = _ from Hsb0)
 clear Hsb0
 clear hrk hr1 hr2 hrd1 hrd2 hC1
 generalize decide (k1 = k2) = b at htx hsb
 have Hsb := Lib.hid hsb
 clear hsb
 go_wp2_with fail
 refine htx.mono ?_
 rintro e w3 ⟨rfl, hb3⟩
 have hb03 := below_then hb02 hb02.size hb3
 clear htx
 cases b with
 | false =>
  go_wp2_with fail
  go_ret
  exact ⟨by rw [(show sameB r q = _ from Hsb)]; rfl, hb03⟩
 | true =>
  have hS3 := h.below hb03
  have hC3 := Kd.C_below hC hb03
  go_wp2_with fail
  go_loopw [5] (fun v5 wr => ∃ i : Nat, v5 = .int .i64 i ∧ i ≤ q.length ∧ (q.take i).all (hasB r) = true ∧ Below w3.heap.size w3 wr) (fun v5 _ => q.length - (intOf v5).toNat)
  case atStart => exact ⟨0, rfl, Nat.zero_le _, rfl, Below.refl _ w3⟩
  case round =>
   obtain ⟨i, rfl, hi, hal, hb⟩ := hrel
   have hCr := Kd.C_below hC3 hb
   have hSr := hS3.below hb
   by_cases hlt : i < q.length
   ·
    have d1 : decide ((i : Int) < (q.length : Int)) = true := decide_eq_true (by omega)
    obtain ⟨ad, rfl, hz0, hz1⟩ := at_T82 hCr (i : Int) (by omega) (by omega)
    have hrd : rd_T82 q (i : Int) = q.getD i z82 := by unfold rd_T82; rw [Int.toNat_natCast]
    rw [hrd] at hz0 hz1
    simp only [Int.toNat_natCast] at hz0 hz1
    have hmem : q.getD i z82 ∈ q := by simp [List.getD_eq_getElem?_getD, List.getElem?_eq_getElem hlt]
    have htk : q.take (i + 1) = q.take i ++ [q.getD i z82] := by
     rw [List.take_add_one]; simp [List.getD_eq_getElem?_getD, List.getElem?_eq_getElem hlt]
    have hxs := hx _ hmem
    obtain ⟨x, hx2⟩ : ∃ x, x = q.getD i z82 := ⟨_, rfl⟩
    rw [← hx2] at hz0 hz1 hmem htk hxs
    clear hx2 hrd
    have i3 : ((i : Int) < (q.length : Int)) = True := eq_true (by omega)
    have i0 : (0 ≤ (i : Int)) = True := eq_true (by omega)
    have e1 : IntKind.i64.wrap ((i : Int) + 1) = (i : Int) + 1 := IntWalk.i64_in _ (by omega)
    have hg := sget_says base s t N T r x.f0 hxs wr hSr
    have Hi := Lib.hid (show i + 1 ≤ q.length by omega)
    have hno : hasB r x = false → sameB r q = false := fun hf => by
     rw [(show sameB r q = _ from Hsb), Bool.true_and]
     exact Bool.eq_false_iff.2 (fun ht => by have := List.all_eq_true.1 ht x hmem; rw [hf] at this; cases this)
    have hyes : hasB r x = true → (q.take (i + 1)).all (hasB r) = true := fun ht => by rw [htk, List.all_append, hal]; simp [ht]
    have hB : hasB r x = decide (getR r x.f0 = some x.f1) := rfl
    have Hno := Lib.hid hno
    have Hyes := Lib.hid hyes
    have HB := Lib.hid hB
    clear hno hyes hB htk hal hmem hxs hi
    cases hgv : getR r x.f0 with
    | none =>
     rw [hgv] at hg
     simp only [Option.getD_none, Option.isSome_none] at hg
     go_wp2_with fail
     refine hg.mono ?_
     rintro e w4 ⟨rfl, rfl⟩
     go_wp2_with fail
     go_ret
     exact ⟨by rw [(show hasB r x = false → sameB r q = false from Hno) (by rw [(show hasB r x = _ from HB), hgv]; simp)]; rfl, below_then hb03 hb03.size hb⟩
    | some v =>
     rw [hgv] at hg
     simp only [Option.getD_some, Option.isSome_some] at hg
     obtain ⟨bb, hbb⟩ : ∃ bb, (v.toList == x.f1.toList) = bb := ⟨_, rfl⟩
     have hb2 : (v.toList != x.f1.toList) = !bb := by rw [← hbb]; rfl
     cases bb with
     | true =>
      have Hk : RowKit.Hid (v = x.f1) := Lib.hid (keq_of hbb)
      go_wp2_with fail
      refine hg.mono ?_
      rintro e w4 ⟨rfl, rfl⟩
      go_wp2_with fail
      refine ⟨⟨i + 1, rfl, Hi, (show hasB r x = true → _ from Hyes) (by rw [(show hasB r x = _ from HB), hgv, (show v = x.f1 from Hk)]; simp), hb⟩, ?_⟩
      have := (show i + 1 ≤ q.length from Hi); simp only [intOf]; omega
     | false =>
      have Hk : RowKit.Hid (¬ v = x.f1) := Lib.hid (kne_of hbb)
      go_wp2_with fail
      refine hg.mono ?_
      rintro e w4 ⟨rfl, rfl⟩
      go_wp2_with fail
      go_ret
      exact ⟨by rw [(show hasB r x = false → sameB r q = false from Hno) (by rw [(show hasB r x = _ from HB), hgv]; exact decide_eq_false (fun h => (show ¬ v = x.f1 from Hk) (Option.some.inj h)))]; rfl, below_then hb03 hb03.size hb⟩
   ·
    have d1 : decide ((i : Int) < (q.length : Int)) = false := decide_eq_false (by omega)
    have hil : i = q.length := by omega
    subst hil
    rw [List.take_length] at hal
    go_wp2_with fail
    go_ret
    exact ⟨by rw [(show sameB r q = _ from Hsb), hal]; rfl, below_then hb03 hb03.size hb⟩
theorem Ris.fold (ls : List (List S69)) {r : List S82} (h : Ris r) : Ris (ls.foldl turnR r) := by
 induction ls generalizing r with
 | nil => exact h
 | cons l ls ih => exact ih (h.turn l)
theorem ris_foldR (ls : List (List S69)) : Ris (foldR ls) := Ris.fold ls List.Pairwise.nil
theorem swap_eq8 (T : TapeS) (ys : List Int) {d f : Int} {g : Bool} (hB : burnL ((ys.length : Int) + 1) T.fuse T.down true = ((d, false), (f, g))) : T.swap ys = (⟨T.b, T.sure, f, g⟩, 8) := by rw [TapeS.swap_eq T ys hB]; rfl
theorem swap_eq0 (T : TapeS) (ys : List Int) {d f : Int} {g : Bool} (hB : burnL ((ys.length : Int) + 1) T.fuse T.down true = ((d, true), (f, g))) : T.swap ys = (⟨ys, (ys.length : Int), f, g⟩, 0) := by rw [TapeS.swap_eq T ys hB]; rfl
theorem sync_eq8 (T : TapeS) {d f : Int} {g : Bool} (hB : burnL 1 T.fuse T.down true = ((d, false), (f, g))) : T.sync = (⟨T.b, T.sure, f, g⟩, 8) := by rw [TapeS.sync_eq T hB]; rfl
theorem sync_eq0 (T : TapeS) {d f : Int} {g : Bool} (hB : burnL 1 T.fuse T.down true = ((d, true), (f, g))) : T.sync = (⟨T.b, (T.b.length : Int), f, g⟩, 0) := by rw [TapeS.sync_eq T hB]; rfl
/-- The rows of a reference, in memory. -/
def RowsAt (b : Nat) (w : World) (v : Value) (r : List S82) : Prop := Kd.R k82 82 w b (fun _ => True) v r
theorem RowsAt.below {b : Nat} {w w' : World} {v : Value} {r : List S82} (h : RowsAt b w v r) (hb : Below w.heap.size w w') : RowsAt b w' v r := rows_turO (base := b) (TurO.of_below hb) h
theorem RowsAt.slice {b : Nat} {w : World} {v : Value} {r : List S82} (h : RowsAt b w v r) : ∃ A c, v = .slice A r.length c ∧ r.length ≤ c ∧ Kd.C k82 w A r.length r := by
 obtain ⟨A, c, e⟩ := Kd.R_slice h
 subst e
 have := Kd.R_reads' h
 exact ⟨A, c, rfl, this.2.1, this.2.2⟩
theorem RowsAt.nil (b : Nat) (w : World) : RowsAt b w (.slice none 0 0) [] := Kd.R_nil _ _ _ _ _
/-- Rows.Turn, where no row is too long. -/
theorem rturn_says (b : Nat) (v : Value) (r : List S82) (A : Option Addr) (c : Nat) (l : List S69) (w : World) (hb : b ≤ w.heap.size) (h : RowsAt b w v r) (hC : Kd.C k69 w A l.length l) (hc : l.length ≤ c) (hl : r.length + l.length ≤ 1000000000) (hr : Ris r) :
  Calls Tryz.prog 86 #[v, .slice A l.length c] w fun e w' => ∃ v', e = .returned v' ∧ RowsAt b w' v' (turnR r l) ∧ Below w.heap.size w w' := by
 obtain ⟨A0, c0, rfl, h1, h2⟩ := h.slice
 refine (Turn_says A0 A c0 c r l w h2 hC h1 hc hl hr).mono ?_
 rintro e w' ⟨v', he, hr', hb'⟩
 exact ⟨v', he, Kd.R_lower hr' hb, hb'⟩
theorem key_turn1 {N : Nat} {r : List S82} (h : Ris r) (c : S69) (hr : ∀ x ∈ r, x.f0.size ≤ N) (hc : c.f0.size ≤ N) : ∀ x ∈ turn1 r c, x.f0.size ≤ N := by
 intro x hx
 rcases (turn1_mem h c x).1 hx with h' | h'
 ·
  exact hr x h'.1
 ·
  rw [h'.2]; exact hc
theorem key_turn {N : Nat} {r : List S82} (h : Ris r) (l : List S69) (hr : ∀ x ∈ r, x.f0.size ≤ N) (hc : ∀ c ∈ l, c.f0.size ≤ N) : ∀ x ∈ turnR r l, x.f0.size ≤ N := by
 induction l generalizing r with
 | nil => exact hr
 | cons c l ih => exact ih (h.turn1 c) (key_turn1 h c hr (hc c (List.mem_cons_self ..))) (fun d hd => hc d (List.mem_cons_of_mem _ hd))
theorem rsame_big (base s t N b : Nat) (T : TapeS) (r q : List S82) (v : Value) (w : World) (h : Sto base w s t T r N) (hN : N ≤ 3400000000000) (hv : RowsAt b w v q) (hq : q.length ≤ 1000000000) (hr : r.length ≤ 1000000000) (hx : ∀ x ∈ q, x.f0.size ≤ 140737488351232) :
  Calls Tryz.prog 27 #[.pointer (some ⟨s, 0, none⟩), v] w fun e w' => e = .returned (.bool (sameB r q)) ∧ Below w.heap.size w w' := by
 obtain ⟨A, c, rfl, h1, h2⟩ := hv.slice
 exact same_says base s t N T r q A c w h hN h2 h1 hq hr (fun x h => by have := hx x h; unfold maxLen; omega)
end Go.Proofs.YtpoblffgclmmlaaGreatDoor.X
end
section
set_option linter.unusedVariables false
set_option linter.unusedSimpArgs false
namespace Go.Proofs.YtpoblffgclmmlaaGreatDoor.X
open Go.RowKit Go.WideMaps Go.Maps Go.Proofs.YtpoblffgclmmlaaGreatDoorW.PrintWords Go.Proofs.YtpoblffgclmmlaaGreatDoorW.PrintLast Go.Proofs.YtpoblffgclmmlaaGreatDoorW.PrintMore Go.Proofs.YtpoblffgclmmlaaGreatDoor.Q

theorem turn1_last (p : List S82) (x : S82) (h : Ris p) (hp : ∀ y ∈ p, kl y.f0 < kl x.f0) : turn1 p ⟨x.f0, x.f1, false⟩ = p ++ [x] := by
 obtain ⟨p1, p2, e, h1, h2, h3⟩ := turn1_put p ⟨x.f0, x.f1, false⟩ rfl h
 have hn : p2 = [] := by
  cases p2 with
  | nil => rfl
  | cons y ys => exact absurd (hp y (by rw [e]; simp)) (h2 y (List.mem_cons_self ..))
 rw [h3, hn, e, hn]
 simp [other]
theorem turnR_allR (p q : List S82) (h : Ris (p ++ q)) : turnR p (allR q) = p ++ q := by
 induction q generalizing p with
 | nil => simp [allR, turnR]
 | cons x q ih =>
  have e : turnR p (allR (x :: q)) = turnR (turn1 p ⟨x.f0, x.f1, false⟩) (allR q) := rfl
  obtain ⟨ha, hb, hab⟩ := List.pairwise_append.1 h
  rw [e, turn1_last p x ha (fun y hy => hab y hy x (List.mem_cons_self ..)), ih (p ++ [x]) (by rw [List.append_assoc]; exact h), List.append_assoc]
  rfl
theorem fold_allR {q : List S82} (h : Ris q) : foldR [allR q] = q := by
 show turnR [] (allR q) = q
 exact turnR_allR [] q h
theorem foldR_snoc (ls : List (List S69)) (l : List S69) : foldR (ls ++ [l]) = turnR (foldR ls) l := by simp [foldR]
theorem fr_snoc (ls : List (List S69)) (l : List S69) : fr ((ls ++ [l]).map recL) = fr (ls.map recL) ++ frameL (recL l) := by
 rw [List.map_append, fr_append, List.map_singleton, fr_cons, fr_nil, List.append_nil]
/-- A tape that has records, all of them sure, and power. -/
structure Wel (T : TapeS) (ls : List (List S69)) : Prop where
 b : T.b = fr (ls.map recL)
 sm : ∀ l ∈ ls, (recL l).length ≤ 32768
 sure : T.sure = (T.b.length : Int)
 down : T.down = false
theorem Wel.new : Wel TapeS.new [] := ⟨rfl, by simp, rfl, rfl⟩
theorem crash_b (T : TapeS) (keep : Int) : ∃ n : Nat, (T.crash keep).b = T.b.take n ∧ (0 ≤ T.sure → T.sure ≤ (T.b.length : Int) → T.sure ≤ (n : Int) ∧ n ≤ T.b.length) := by
 refine ⟨(keepL T.b.length T.sure keep).toNat, rfl, fun h0 h1 => ?_⟩
 have := keepL_range T.b.length T.sure keep ⟨h0, h1⟩
 omega
theorem crash_all (T : TapeS) (keep : Int) (h : T.sure = (T.b.length : Int)) : (T.crash keep).b = T.b := by
 obtain ⟨n, h1, h2⟩ := crash_b T keep
 have := h2 (by omega) (by omega)
 rw [h1, List.take_of_length_le (by omega)]
theorem Wel.lay {T : TapeS} {ls : List (List S69)} (h : Wel T ls) : Lay T ls [] := ⟨by rw [h.b, List.append_nil], oneL_nil, h.sm⟩
theorem Wel.crash {T : TapeS} {ls : List (List S69)} (h : Wel T ls) (keep : Int) : Lay (T.crash keep) ls [] := ⟨by rw [crash_all T keep h.sure, h.b, List.append_nil], oneL_nil, h.sm⟩
theorem lay_part {ls : List (List S69)} (l : List S69) (hs : ∀ x ∈ ls, (recL x).length ≤ 32768) (hl : (recL l).length ≤ 32768) (T : TapeS) (j : Nat) (hb : T.b = (fr (ls.map recL) ++ frameL (recL l)).take j) (hj : (fr (ls.map recL)).length ≤ j) :
  ∃ ls' junk, Lay T ls' junk ∧ ((foldR ls' = turnR (foldR ls) l ∧ (fr (ls.map recL) ++ frameL (recL l)).length ≤ j) ∨ foldR ls' = foldR ls) := by
 by_cases h : (fr (ls.map recL) ++ frameL (recL l)).length ≤ j
 ·
  refine ⟨ls ++ [l], [], ⟨by rw [hb, List.take_of_length_le h, fr_snoc, List.append_nil], oneL_nil, ?_⟩, .inl ⟨foldR_snoc ls l, h⟩⟩
  intro x hx
  rcases List.mem_append.1 hx with hx | hx
  ·
   exact hs x hx
  ·
   rw [List.mem_singleton.1 hx]; exact hl
 ·
  refine ⟨ls, (frameL (recL l)).take (j - (fr (ls.map recL)).length), ⟨by rw [hb, List.take_append, List.take_of_length_le hj], oneL_part _ hl _ ?_, hs⟩, .inr rfl⟩
  rw [List.length_append, frame_len] at h
  omega
theorem take_part (a b : List Int) (k n : Nat) : (a ++ b.take k).take n = (a ++ b).take (min n (a.length + k)) := by
 rw [← List.take_take]
 congr 1
 rw [List.take_append, List.take_of_length_le (show a.length ≤ a.length + k by omega), Nat.add_sub_cancel_left]
theorem append_eq (T : TapeS) (ys : List Int) {d f : Int} {o g : Bool} (hB : burnL (ys.length : Int) T.fuse T.down false = ((d, o), (f, g))) :
  T.append ys = if o = true then TapeS.sync ⟨T.b ++ ys.take d.toNat, T.sure, f, g⟩ else (⟨T.b ++ ys.take d.toNat, T.sure, f, g⟩, 8) := by
 unfold TapeS.append TapeS.write
 rw [hB]
 cases o <;> rfl
/-- A crash, where the last frame may be there in part. -/
theorem crash_part {T2 : TapeS} {ls : List (List S69)} (l : List S69) (hs : ∀ x ∈ ls, (recL x).length ≤ 32768) (hl : (recL l).length ≤ 32768) (k : Nat) (hb : T2.b = fr (ls.map recL) ++ (frameL (recL l)).take k) (hsu : T2.sure = ((fr (ls.map recL)).length : Int)) (keep : Int) :
  ∃ ls' junk, Lay (T2.crash keep) ls' junk ∧ (foldR ls' = turnR (foldR ls) l ∨ foldR ls' = foldR ls) := by
 obtain ⟨n, hn1, hn2⟩ := crash_b T2 keep
 have hle : (fr (ls.map recL)).length ≤ T2.b.length := by rw [hb, List.length_append]; omega
 have hn3 := (hn2 (by omega) (by omega)).1
 have e : (T2.crash keep).b = (fr (ls.map recL) ++ frameL (recL l)).take (min n ((fr (ls.map recL)).length + k)) := by rw [hn1, hb, take_part]
 obtain ⟨ls', junk, hL, hc⟩ := lay_part l hs hl _ _ e (by omega)
 exact ⟨ls', junk, hL, hc.imp (fun h => h.1) (fun h => h)⟩
/-- Do, with power or without, and a crash. -/
theorem do_crash {T : TapeS} {ls : List (List S69)} (h : Wel T ls) (l : List S69) (keep : Int) : ∃ ls' junk, Lay ((doR T (foldR ls) l).1.crash keep) ls' junk ∧
  (foldR ls' = (if (doR T (foldR ls) l).2 = 0 ∨ (doR T (foldR ls) l).2 = 8 then turnR (foldR ls) l else foldR ls) ∨ ((doR T (foldR ls) l).2 ≠ 0 ∧ foldR ls' = foldR ls)) := by
 unfold doR
 by_cases h0 : l.length = 0
 ·
  rw [if_pos h0]
  have : l = [] := List.length_eq_zero_iff.1 h0
  subst this
  exact ⟨ls, [], h.crash keep, .inl rfl⟩
 ·
  rw [if_neg h0]
  by_cases h1 : 32768 < (recL l).length
  ·
   rw [if_pos h1]; exact ⟨ls, [], h.crash keep, .inl rfl⟩
  ·
   rw [if_neg h1]
   by_cases h2 : 65536 < (frameL (recL l)).length + T.b.length
   ·
    rw [if_pos h2]
    unfold TapeS.renewR
    by_cases h3 : 32768 < (recL (allR (turnR (foldR ls) l))).length ∨ 65536 < (frameL (recL (allR (turnR (foldR ls) l)))).length
    ·
     rw [if_pos h3]; exact ⟨ls, [], h.crash keep, .inl rfl⟩
    ·
     rw [if_neg h3]
     have hq : Ris (turnR (foldR ls) l) := (ris_foldR ls).turn l
     obtain ⟨d, o, f, g, hB⟩ : ∃ d o f g, burnL (((frameL (recL (allR (turnR (foldR ls) l)))).length : Int) + 1) T.fuse T.down true = ((d, o), (f, g)) := ⟨_, _, _, _, rfl⟩
     cases o with
     | true =>
      rw [swap_eq0 T _ hB]
      refine ⟨[allR (turnR (foldR ls) l)], [], ⟨?_, oneL_nil, ?_⟩, .inl ?_⟩
      ·
       rw [crash_all _ keep rfl, List.append_nil, List.map_singleton, fr_cons, fr_nil, List.append_nil]
      ·
       intro x hx
       rw [List.mem_singleton.1 hx]; omega
      ·
       rw [fold_allR hq]; rfl
     | false =>
      rw [swap_eq8 T _ hB]
      refine ⟨ls, [], ⟨?_, oneL_nil, h.sm⟩, .inr ⟨by show (8 : Int) ≠ 0; decide, rfl⟩⟩
      rw [crash_all (⟨T.b, T.sure, f, g⟩ : TapeS) keep h.sure, List.append_nil]
      exact h.b
   ·
    rw [if_neg h2]
    have hlb : (recL l).length ≤ 32768 := by omega
    have hd : T.down = false := h.down
    have hb := h.b
    have hsu := h.sure
    obtain ⟨d, o, f, g, hB⟩ : ∃ d o f g, burnL ((frameL (recL l)).length : Int) T.fuse T.down false = ((d, o), (f, g)) := ⟨_, _, _, _, rfl⟩
    rw [append_eq T _ hB]
    have hs2 : T.sure = ((fr (ls.map recL)).length : Int) := by rw [hsu, hb]
    have hb2 : T.b ++ (frameL (recL l)).take d.toNat = fr (ls.map recL) ++ (frameL (recL l)).take d.toNat := by rw [hb]
    cases o with
    | false =>
     rw [if_neg (by decide)]
     obtain ⟨ls', junk, hL, hc⟩ := crash_part (T2 := ⟨T.b ++ (frameL (recL l)).take d.toNat, T.sure, f, g⟩) l h.sm hlb d.toNat hb2 hs2 keep
     exact ⟨ls', junk, hL, hc.imp (fun h => by rw [h]; rfl) (fun h => ⟨by show (8 : Int) ≠ 0; decide, h⟩)⟩
    | true =>
     rw [if_pos rfl]
     have hld : d = ((frameL (recL l)).length : Int) := by
      unfold burnL at hB
      rw [hd, if_neg (by decide)] at hB
      split at hB
      ·
       split at hB <;> simp only [Prod.mk.injEq] at hB <;> omega
      ·
       simp only [Prod.mk.injEq] at hB; exact absurd hB.1.2 (by decide)
     obtain ⟨d2, o2, f2, g2, hB2⟩ : ∃ d o f' g', burnL 1 f g true = ((d, o), (f', g')) := ⟨_, _, _, _, rfl⟩
     cases o2 with
     | true =>
      rw [sync_eq0 ⟨T.b ++ (frameL (recL l)).take d.toNat, T.sure, f, g⟩ hB2]
      refine ⟨ls ++ [l], [], ⟨?_, oneL_nil, ?_⟩, .inl (by rw [foldR_snoc]; rfl)⟩
      ·
       rw [crash_all _ keep rfl, List.append_nil, fr_snoc]
       show T.b ++ (frameL (recL l)).take d.toNat = _
       rw [hld, Int.toNat_natCast, List.take_length, hb]
      ·
       intro x hx
       rcases List.mem_append.1 hx with hx | hx
       ·
        exact h.sm x hx
       ·
        rw [List.mem_singleton.1 hx]; exact hlb
     | false =>
      rw [sync_eq8 ⟨T.b ++ (frameL (recL l)).take d.toNat, T.sure, f, g⟩ hB2]
      obtain ⟨ls', junk, hL, hc⟩ := crash_part (T2 := ⟨T.b ++ (frameL (recL l)).take d.toNat, T.sure, f2, g2⟩) l h.sm hlb d.toNat hb2 hs2 keep
      exact ⟨ls', junk, hL, hc.imp (fun h => by rw [h]; rfl) (fun h => ⟨by show (8 : Int) ≠ 0; decide, h⟩)⟩
/-- However Do ends, the tape is in order, and not longer than it may be. -/
theorem do_good {T : TapeS} {r : List S82} (h : T.Good) (hl : T.b.length ≤ 1000000) (l : List S69) : (doR T r l).1.Good ∧ (doR T r l).1.b.length ≤ 1000000 := by
 unfold doR
 split
 ·
  exact ⟨h, hl⟩
 ·
  split
  ·
   exact ⟨h, hl⟩
  ·
   split
   ·
    unfold TapeS.renewR
    split
    ·
     exact ⟨h, hl⟩
    ·
     refine ⟨TapeS.swap_good _ _ h (by omega), ?_⟩
     obtain ⟨d, o, f, g, hB⟩ : ∃ d o f g, burnL (((frameL (recL (allR (turnR r l)))).length : Int) + 1) T.fuse T.down true = ((d, o), (f, g)) := ⟨_, _, _, _, rfl⟩
     cases o with
     | true => rw [swap_eq0 T _ hB]; show (frameL _).length ≤ _; omega
     | false => rw [swap_eq8 T _ hB]; exact hl
   ·
    refine ⟨TapeS.append_good _ _ h (by omega), ?_⟩
    obtain ⟨d, o, f, g, hB⟩ : ∃ d o f g, burnL ((frameL (recL l)).length : Int) T.fuse T.down false = ((d, o), (f, g)) := ⟨_, _, _, _, rfl⟩
    rw [append_eq T _ hB]
    have hbl : (T.b ++ (frameL (recL l)).take d.toNat).length ≤ 1000000 := by rw [List.length_append, List.length_take]; omega
    cases o with
    | false => exact hbl
    | true =>
     rw [if_pos rfl]
     exact hbl
theorem tfuse_says (base t : Nat) (v : Value) (T : TapeS) (n : Int) (w : World) (h : TpAt w base t v T) :
  Calls Tryz.prog 24 #[.pointer (some ⟨t, 0, none⟩), .int .i64 n] w fun e w' =>
   e = .returned (.tuple #[]) ∧ Tur w w' (fun k => k = t) ∧ TpAt w' base t v ⟨T.b, T.sure, max n 0, T.down⟩ := fuse_says base t v T.b T.sure n T.fuse T.down w h
end Go.Proofs.YtpoblffgclmmlaaGreatDoor.X
end
section
set_option linter.unusedVariables false
set_option linter.unusedSimpArgs false
namespace Go.Proofs.YtpoblffgclmmlaaGreatDoor.X
open Go.RowKit Go.WideMaps Go.Maps Go.Proofs.YtpoblffgclmmlaaGreatDoorW.PrintWords Go.Proofs.YtpoblffgclmmlaaGreatDoorW.PrintLast Go.Proofs.YtpoblffgclmmlaaGreatDoorW.PrintMore Go.Proofs.YtpoblffgclmmlaaGreatDoor.Q

/-- With power: whole frames, and the rows are theirs; without: whatever of it is left by a crash are frames. -/
def Play (T : TapeS) (r : List S82) : Prop :=
 (∃ ls, Wel T ls ∧ foldR ls = r) ∨ (T.down = true ∧ (∃ ls, foldR ls = r) ∧ ∀ keep, ∃ ls junk, Lay (T.crash keep) ls junk)
theorem Play.ris {T : TapeS} {r : List S82} (h : Play T r) : Ris r := by
 rcases h with ⟨ls, _, e⟩ | ⟨_, ⟨ls, e⟩, _⟩ <;> rw [← e] <;> exact ris_foldR ls
theorem Play.fuse {T : TapeS} {r : List S82} (h : Play T r) (n : Int) : Play ⟨T.b, T.sure, n, T.down⟩ r := by
 rcases h with ⟨ls, h, e⟩ | ⟨hd, hr, hc⟩
 ·
  exact .inl ⟨ls, ⟨h.b, h.sm, h.sure, h.down⟩, e⟩
 ·
  exact .inr ⟨hd, hr, hc⟩
theorem Play.crash {T : TapeS} {r : List S82} (h : Play T r) (keep : Int) : ∃ ls junk, Lay (T.crash keep) ls junk := by
 rcases h with ⟨ls, h, e⟩ | ⟨_, _, hc⟩
 ·
  exact ⟨ls, [], h.crash keep⟩
 ·
  exact hc keep
theorem burn_down (n f : Int) (whole : Bool) : burnL n f true whole = ((0, false), (f, true)) := by simp [burnL]
theorem doR_down {T : TapeS} (hd : T.down = true) (r : List S82) (l : List S69) : (doR T r l).1 = T ∧ ((doR T r l).2 = 0 → l = []) := by
 obtain ⟨b, sure, fuse, down⟩ := T
 simp only at hd
 subst hd
 unfold doR
 split
 ·
  rename_i h; exact ⟨rfl, fun _ => List.length_eq_zero_iff.1 h⟩
 ·
  split
  ·
   exact ⟨rfl, fun h => absurd (show (3 : Int) = 0 from h) (by decide)⟩
  ·
   split
   ·
    unfold TapeS.renewR
    split
    ·
     exact ⟨rfl, fun h => absurd (show (7 : Int) = 0 from h) (by decide)⟩
    ·
     unfold TapeS.swap
     simp only [burn_down]
     exact ⟨rfl, fun h => absurd (show (8 : Int) = 0 from h) (by decide)⟩
   ·
    unfold TapeS.append TapeS.write
    simp only [burn_down]
    rw [if_neg (by decide)]
    refine ⟨?_, fun h => absurd (show (8 : Int) = 0 from h) (by decide)⟩
    simp
theorem play_do {T : TapeS} {r : List S82} (h : Play T r) (l : List S69) : Play (doR T r l).1 (if (doR T r l).2 = 0 then turnR r l else r) := by
 rcases h with ⟨ls, h, e⟩ | ⟨hd, hr, hc⟩
 ·
  subst e
  have hcr := fun keep => do_crash h l keep
  by_cases hdn : (doR T (foldR ls) l).1.down = true
  ·
   refine .inr ⟨hdn, ?_, fun keep => ?_⟩
   ·
    split
    ·
     exact ⟨ls ++ [l], foldR_snoc ls l⟩
    ·
     exact ⟨ls, rfl⟩
   ·
    obtain ⟨ls', junk, hL, _⟩ := hcr keep
    exact ⟨ls', junk, hL⟩
  ·
   clear hcr
   left
   unfold doR at hdn ⊢
   by_cases h0 : l.length = 0
   ·
    have : l = [] := List.length_eq_zero_iff.1 h0
    subst this
    exact ⟨ls, h, rfl⟩
   ·
    simp only [if_neg h0] at hdn ⊢
    by_cases h1 : 32768 < (recL l).length
    ·
     simp only [if_pos h1] at hdn ⊢; exact ⟨ls, h, rfl⟩
    ·
     simp only [if_neg h1] at hdn ⊢
     by_cases h2 : 65536 < (frameL (recL l)).length + T.b.length
     ·
      simp only [if_pos h2] at hdn ⊢
      unfold TapeS.renewR at hdn ⊢
      by_cases h3 : 32768 < (recL (allR (turnR (foldR ls) l))).length ∨ 65536 < (frameL (recL (allR (turnR (foldR ls) l)))).length
      ·
       simp only [if_pos h3] at hdn ⊢; exact ⟨ls, h, rfl⟩
      ·
       simp only [if_neg h3] at hdn ⊢
       have hq : Ris (turnR (foldR ls) l) := (ris_foldR ls).turn l
       obtain ⟨d, o, f, g, hB⟩ : ∃ d o f g, burnL (((frameL (recL (allR (turnR (foldR ls) l)))).length : Int) + 1) T.fuse T.down true = ((d, o), (f, g)) := ⟨_, _, _, _, rfl⟩
       have hB2 := hB
       unfold burnL at hB2
       rw [h.down, if_neg (by decide)] at hB2
       cases o with
       | true =>
        rw [swap_eq0 T _ hB] at hdn ⊢
        have hg : g = false := by
         cases g with
         | false => rfl
         | true => exact absurd rfl hdn
        subst hg
        refine ⟨[allR (turnR (foldR ls) l)], ⟨?_, ?_, rfl, rfl⟩, ?_⟩
        ·
         show _ = fr [recL _]; rw [fr_cons, fr_nil, List.append_nil]
        ·
         intro x hx; rw [List.mem_singleton.1 hx]; omega
        ·
         rw [if_pos rfl]; exact fold_allR hq
       | false =>
        rw [swap_eq8 T _ hB] at hdn
        exfalso
        split at hB2
        ·
         simp at hB2
        ·
         simp only [Prod.mk.injEq] at hB2
         exact hdn hB2.2.2.symm
     ·
      simp only [if_neg h2] at hdn ⊢
      obtain ⟨d, o, f, g, hB⟩ : ∃ d o f g, burnL ((frameL (recL l)).length : Int) T.fuse T.down false = ((d, o), (f, g)) := ⟨_, _, _, _, rfl⟩
      have hBu := hB
      unfold burnL at hBu
      rw [h.down, if_neg (by decide)] at hBu
      rw [append_eq T _ hB] at hdn ⊢
      cases o with
      | false =>
       rw [if_neg (by decide)] at hdn
       exfalso
       split at hBu
       ·
        simp at hBu
       ·
        simp only [Prod.mk.injEq] at hBu
        exact hdn hBu.2.2.symm
      | true =>
       rw [if_pos rfl] at hdn ⊢
       have hld : d = ((frameL (recL l)).length : Int) ∧ g = false := by
        split at hBu
        ·
         simp only [Prod.mk.injEq] at hBu; exact ⟨hBu.1.1.symm, hBu.2.2.symm⟩
        ·
         simp at hBu
       obtain ⟨hld, hg⟩ := hld
       subst hg
       obtain ⟨d2, o2, f2, g2, hB2⟩ : ∃ d o f' g', burnL 1 f false true = ((d, o), (f', g')) := ⟨_, _, _, _, rfl⟩
       have hBv := hB2
       unfold burnL at hBv
       rw [if_neg (by decide)] at hBv
       cases o2 with
       | false =>
        rw [sync_eq8 ⟨T.b ++ (frameL (recL l)).take d.toNat, T.sure, f, false⟩ hB2] at hdn
        exfalso
        split at hBv
        ·
         simp at hBv
        ·
         simp only [Prod.mk.injEq] at hBv
         exact hdn hBv.2.2.symm
       | true =>
        rw [sync_eq0 ⟨T.b ++ (frameL (recL l)).take d.toNat, T.sure, f, false⟩ hB2] at hdn ⊢
        have hg2 : g2 = false := by
         cases g2 with
         | false => rfl
         | true => exact absurd rfl hdn
        subst hg2
        refine ⟨ls ++ [l], ⟨?_, ?_, rfl, rfl⟩, by rw [if_pos rfl]; exact foldR_snoc ls l⟩
        ·
         rw [fr_snoc, ← h.b]
         show T.b ++ (frameL (recL l)).take d.toNat = _
         rw [hld, Int.toNat_natCast, List.take_length]
        ·
         intro x hx
         rcases List.mem_append.1 hx with hx | hx
         ·
          exact h.sm x hx
         ·
          rw [List.mem_singleton.1 hx]; omega
 ·
  obtain ⟨h1, h2⟩ := doR_down hd r l
  rw [h1]
  split
  ·
   rename_i h0
   rw [h2 h0]
   exact .inr ⟨hd, hr, hc⟩
  ·
   exact .inr ⟨hd, hr, hc⟩
theorem Play.opened {T : TapeS} {ls : List (List S69)} {junk : List Int} (h : Lay T ls junk) (hs : junk = [] → T.sure = (T.b.length : Int)) : Play T.opened (foldR ls) := by
 refine .inl ⟨ls, ?_, rfl⟩
 rw [h.opened]
 refine ⟨rfl, h.sm, ?_, rfl⟩
 show (if junk = [] then T.sure else _) = _
 split
 ·
  rename_i hj
  rw [hs hj, h.b, hj, List.append_nil]
 ·
  rfl
end Go.Proofs.YtpoblffgclmmlaaGreatDoor.X
end
section
set_option linter.unusedVariables false
set_option linter.unusedSimpArgs false
namespace Go.Proofs.YtpoblffgclmmlaaGreatDoor.X
open Go.RowKit Go.WideMaps Go.Maps Go.Proofs.YtpoblffgclmmlaaGreatDoorW.PrintWords Go.Proofs.YtpoblffgclmmlaaGreatDoorW.PrintLast Go.Proofs.YtpoblffgclmmlaaGreatDoorW.PrintMore Go.Proofs.YtpoblffgclmmlaaGreatDoor.Q

theorem Wel.good {T : TapeS} {ls : List (List S69)} (h : Wel T ls) (hf : T.fuse = -1) (hl : T.b.length ≤ 65536) : T.Good :=
 ⟨by omega, by have := h.sure; omega, by omega⟩
end Go.Proofs.YtpoblffgclmmlaaGreatDoor.X
end
