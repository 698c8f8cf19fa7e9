/- store.Do. -/
import Derived.Test.YtkmokcfnfhabgaaDoorRen
import Derived.Test.YtkmokcfnfhabgaaDoorShelf
set_option linter.unusedVariables false
set_option linter.unusedSimpArgs false
namespace Go.Proofs.YtkmokcfnfhabgaaDoor.X
open Go.RowKit Go.WideMaps Go.Maps Go.Proofs.YtkmokcfnfhabgaaDoorW.PrintWords Go.Proofs.YtkmokcfnfhabgaaDoorW.PrintLast Go.Proofs.YtkmokcfnfhabgaaDoorW.PrintMore Go.Proofs.YtkmokcfnfhabgaaDoor.Q

/-- Does a text begin so? -/
def preB (s p : ByteArray) : Bool := Lib.hasPrefix s.data.toList p.data.toList
/-- What Do does to the tape, and what it answers. -/
def doT (T : TapeS) (D : DataW Unit) (l : List S49) : TapeS × Int :=
  if l.length = 0 then (T, 0) else if 32768 < (recL l).length then (T, 3) else
  if 65536 < (frameL (recL l)).length + T.b.length then T.renew (turnD D l) else T.append (frameL (recL l))
/-- .. and to the rows. -/
def doD (T : TapeS) (D : DataW Unit) (l : List S49) : DataW Unit := if (doT T D l).2 = 0 then turnD D l else D
theorem MapAt.ne_row {W : World} {m n base t : Nat} {D : DataW Unit} {v : Value} {T : TapeS} (h : MapAt W m n D) (hT : TpAt W base t v T) : v.ownBlock ≠ some m := fun hk => by
  obtain ⟨cells, hc⟩ := (hT.row.typed m hk).2
  exact MapAt.ne h hc rfl
/-- What Do leaves. -/
def DoP (base s t n : Nat) (v : Value) (R : TapeS × Int) (D2 : DataW Unit) (k : Nat) (w : World) (e : Ending) (w' : World) : Prop :=
  e = .returned (.int .i64 R.2) ∧ Tur w w' (fun k => k = s ∨ k = t ∨ v.ownBlock = some k) ∧ ∃ m' n' v', StoreAt w' base s t m' n' D2 ∧ n' ≤ n + k ∧ TpAt w' base t v' R.1 ∧ Rowd v v' w.heap.size
set_option maxHeartbeats 8000000 in
set_option maxRecDepth 100000 in
theorem do_core (base s t m n : Nat) (D : DataW Unit) (v : Value) (T : TapeS) (A : Option Addr) (c : Nat) (l : List S49) (w0 w : World) (hGL : GL w0) (hB : Below w0.heap.size w0 w) (hS : StoreAt w base s t m n D) (h : TpAt w base t v T) (hG : T.Good) (hC : Kd.C k49 w A l.length l) (hcl : l.length ≤ c)
    (hn : n + l.length ≤ 3400000000000) (hll : l.length ≤ 90000000) (hl : (recL l).length ≤ 90000000) (hTl : T.b.length ≤ 1000000) (hx : ∀ x ∈ l, x.f0.size ≤ maxLen ∧ x.f1.size ≤ maxLen) (hl2 : (recL (allD (turnD D l))).length ≤ 90000000) (hbase : base ≤ w.heap.size)
    (R : TapeS × Int) (D2 : DataW Unit) (hR : R = doT T D l) (hD : D2 = if R.2 = 0 then turnD D l else D) :
    Calls Tryd.prog 18 #[.pointer (some ⟨s, 0, none⟩), .slice A l.length c] w fun e w' => DoP base s t n v R D2 l.length w e w' := by
  unfold doT at hR
  have c01 := blk_cell hS.blk 1
  have hst : s ≠ t := blk_ne hS.blk h.blk (by decide)
  go_enter Tryd.func18, Tryd.ntmps18
  by_cases hl0 : l.length = 0
  · have d0 : decide ((l.length : Int) = 0) = true := decide_eq_true (by omega)
    rw [if_pos hl0] at hR
    have hD' : D2 = D := by
      have hnil : l = [] := List.length_eq_zero_iff.1 hl0
      rw [hD, hR, hnil]; rfl
    subst hD'
    subst hR
    clear hD
    go_wp2_with fail
    go_ret
    exact ⟨rfl, Tur.refl _ _, m, n, v, hS, by omega, h, Rowd.refl _ _⟩
  · have d0 : decide ((l.length : Int) = 0) = false := decide_eq_false (by omega)
    rw [if_neg hl0] at hR
    have HR := Lib.hid hR
    have HD := Lib.hid hD
    clear hR hD
    go_wp2_with fail
    refine (record_says A c l w hC (by omega)).mono ?_
    rintro e w1 ⟨v1, rfl, hr1, hb1⟩
    obtain ⟨A1, c1, e1⟩ := Kd.R_slice hr1
    subst e1
    have hC1 := (Kd.R_reads' hr1)
    have hR := (show R = _ from HR)
    clear HR
    by_cases hl1 : 32768 < (recL l).length
    · have d1 : decide ((32768 : Int) < ((recL l).length : Int)) = true := decide_eq_true (by omega)
      rw [if_pos hl1] at hR
      have hD' : D2 = D := by
        have hD := (show D2 = _ from HD)
        rw [hD, hR]; rfl
      clear HD
      subst hD'
      subst hR
      go_wp2_with fail
      go_ret
      exact ⟨rfl, Tur.of_below hb1 _, m, n, v, hS.kept (Tur.of_below hb1 (fun _ => False)) (fun h => h) (fun h => h), by omega, TapeAt.kept h (Tur.of_below hb1 (fun _ => False)) (fun h => h) (fun _ _ h => h), Rowd.refl _ _⟩
    · have d1 : decide ((32768 : Int) < ((recL l).length : Int)) = false := decide_eq_false (by omega)
      rw [if_neg hl1] at hR
      have hfl := frameL_len (recL l)
      have hfr := fun A2 c2 w2 => frame_Frame.says A2 c2 (recL l) w2
      generalize frameL (recL l) = ys at hfr hfl hR
      have HR := Lib.hid hR
      have Hfl := Lib.hid hfl
      have Hl1 := Lib.hid hl1
      clear hR hfl hl1
      have hS1 := hS.kept (Tur.of_below hb1 (fun _ => False)) (fun h => h) (fun h => h)
      have c01 := blk_cell hS1.blk 1
      go_wp2_with fail
      refine (turned_says m n D A c l w1 hS1.map (Kd.C_below hC hb1) (by unfold maxLen; omega) hx).mono ?_
      rintro e w2 ⟨m2, rfl, hm2, hM2, hb2⟩
      have hb02 := below_then hb1 hb1.size hb2
      go_wp2_with fail
      refine (hfr A1 c1 w2 (Kd.C_below hC1.2.2 hb2) hC1.2.1 (by omega) (hGL.below (below_then hB hB.size hb02))).mono ?_
      rintro e w3 ⟨v3, rfl, hr3, hb3⟩
      obtain ⟨A3, c3, e3⟩ := Kd.R_slice hr3
      subst e3
      have hC3 := (Kd.R_reads' hr3)
      have hb03 := below_then hb02 hb02.size hb3
      have hS3 := hS.kept (Tur.of_below hb03 (fun _ => False)) (fun h => h) (fun h => h)
      have hT3 : TpAt w3 base t v T := TapeAt.kept h (Tur.of_below hb03 (fun _ => False)) (fun h => h) (fun _ _ h => h)
      have hM3 := hM2.kept (Tur.of_below hb3 (fun _ => False)) (fun h => h)
      have c00 := blk_cell hS3.blk 0
      go_wp2_with fail
      refine (bytes_says base t v T.b T.sure T.fuse T.down w3 hT3 (by omega)).mono ?_
      rintro e w4 ⟨v4, rfl, hr4, hb4⟩
      obtain ⟨A4, c4, e4⟩ := Kd.R_slice hr4
      subst e4
      have hb04 := below_then hb03 hb03.size hb4
      have hS4 := hS.kept (Tur.of_below hb04 (fun _ => False)) (fun h => h) (fun h => h)
      have hT4 : TpAt w4 base t v T := TapeAt.kept h (Tur.of_below hb04 (fun _ => False)) (fun h => h) (fun _ _ h => h)
      have hM4 := hM3.kept (Tur.of_below hb4 (fun _ => False)) (fun h => h)
      have hC4 := Kd.C_below hC3.2.2 hb4
      have es : IntKind.i64.wrap (65536 - (T.b.length : Int)) = 65536 - (T.b.length : Int) := IntWalk.i64_in _ (by omega)
      clear hr4 hr3 hr1 hfr
      have hR := (show R = _ from HR)
      have hfl := (show ys.length = _ from Hfl)
      have hl1 := (show ¬ 32768 < (recL l).length from Hl1)
      clear HR Hfl Hl1
      by_cases h2 : 65536 < ys.length + T.b.length
      · have d2 : decide (65536 - (T.b.length : Int) < (ys.length : Int)) = true := decide_eq_true (by omega)
        rw [if_pos h2] at hR
        have hca := renew_says base s t m n m2 (n + l.length) D (turnD D l) v T w0 w4 hGL (below_then hB hB.size hb04) hS4 hT4 hG hM4 (by omega) hl2 (by have := hb04.size; omega)
        rw [← hR] at hca
        clear hR hfl hl1 h2
        go_wp2_with fail
        refine hca.mono ?_
        rintro e w5 ⟨rfl, hk5, v5, hT5, hv5⟩
        have hne2 := TpAt.ne_cells hT4 hS4.blk (by decide)
        have b5 := blk_kept hS4.blk hk5.kept hst
        have hm5 := hM4.kept hk5 (fun e => MapAt.ne hM4 hT4.blk e)
        have hm5' := hS4.map.kept hk5 (fun e => MapAt.ne hS4.map hT4.blk e)
        have hRv : Rowd v v5 w.heap.size := fun k hk => (hv5 k hk).elim .inl (fun h => .inr (Nat.le_trans hb04.size h))
        have hk05 : Tur w w5 (fun k => k = s ∨ k = t ∨ v.ownBlock = some k) := (Tur.of_below hb04 _).then_ hk5 (fun k h => .inl (.inr (.inl h)))
        have hwz := hb1.size
        have hD := (show D2 = _ from HD)
        by_cases h0 : R.2 = 0
        · rw [if_pos h0] at hD
          subst hD
          rw [h0]
          have f1 := blk_frozen b5 1
          have cc1 := blk_cell b5 1
          go_wp2_with fail
          go_ret
          have hS6 := blk_put b5 1 (.map (some m2)) rfl
          have hM6 := World.ownsMap.setCell hm5 (a := ⟨s, 1, none⟩) (MapAt.ne hm5 b5) (.map (some m2))
          have hk6 : Tur w (w5.setCell ⟨s, 1, none⟩ (.map (some m2))) (fun k => k = s ∨ k = t ∨ v.ownBlock = some k) := hk05.setCell (.inl (.inl rfl)) _
          have hT6 : TpAt (w5.setCell ⟨s, 1, none⟩ (.map (some m2))) base t v5 R.1 := TapeAt.kept hT5 ((Tur.refl w5 (fun k => k = s)).setCell (.inl rfl) _) (fun h => hst h.symm) (fun k hk e => TpAt.ne_cells hT5 b5 (by decide) (by rw [← e]; exact hk))
          exact ⟨by rw [h0]; rfl, hk6, m2, n + l.length, v5, ⟨hS6, hM6, hS.ge, by omega⟩, Nat.le_refl _, hT6, hRv⟩
        · rw [if_neg h0] at hD
          subst hD
          have db : (R.2 == 0) = false := beq_false_of_ne h0
          have dd : decide (R.2 = 0) = false := decide_eq_false h0
          go_wp2_with fail
          go_ret
          exact ⟨rfl, hk05, m, n, v5, ⟨b5, hm5', hS.ge, hS.mge⟩, by omega, hT5, hRv⟩
      · have d2 : decide (65536 - (T.b.length : Int) < (ys.length : Int)) = false := decide_eq_false (by omega)
        rw [if_neg h2] at hR
        have hca := append_says base s t m n D v T ys A3 c3 w4 hS4 hT4 hG hC4 hC3.2.1 (by omega) (by have := hb04.size; omega)
        rw [← hR] at hca
        clear hR hfl hl1 h2
        go_wp2_with fail
        refine hca.mono ?_
        rintro e w5 ⟨rfl, hk5, v5, hT5, hv5⟩
        have hne2 := TpAt.ne_cells hT4 hS4.blk (by decide)
        have b5 := blk_kept hS4.blk hk5.kept (by rintro (h | h); exact hst h; exact hne2 h)
        have hm5 := hM4.kept hk5 (by rintro (h | h); exact MapAt.ne hM4 hT4.blk h; exact hM4.ne_row hT4 h)
        have hm5' := hS4.map.kept hk5 (by rintro (h | h); exact MapAt.ne hS4.map hT4.blk h; exact hS4.map.ne_row hT4 h)
        have hRv : Rowd v v5 w.heap.size := fun k hk => (hv5 k hk).elim .inl (fun h => .inr (Nat.le_trans hb04.size h))
        have hk05 : Tur w w5 (fun k => k = s ∨ k = t ∨ v.ownBlock = some k) := (Tur.of_below hb04 _).then_ hk5 (fun k h => .inl (.inr h))
        have hwz := hb1.size
        have hD := (show D2 = _ from HD)
        by_cases h0 : R.2 = 0
        · rw [if_pos h0] at hD
          subst hD
          rw [h0]
          have f1 := blk_frozen b5 1
          have cc1 := blk_cell b5 1
          go_wp2_with fail
          go_ret
          have hS6 := blk_put b5 1 (.map (some m2)) rfl
          have hM6 := World.ownsMap.setCell hm5 (a := ⟨s, 1, none⟩) (MapAt.ne hm5 b5) (.map (some m2))
          have hk6 : Tur w (w5.setCell ⟨s, 1, none⟩ (.map (some m2))) (fun k => k = s ∨ k = t ∨ v.ownBlock = some k) := hk05.setCell (.inl (.inl rfl)) _
          have hT6 : TpAt (w5.setCell ⟨s, 1, none⟩ (.map (some m2))) base t v5 R.1 := TapeAt.kept hT5 ((Tur.refl w5 (fun k => k = s)).setCell (.inl rfl) _) (fun h => hst h.symm) (fun k hk e => TpAt.ne_cells hT5 b5 (by decide) (by rw [← e]; exact hk))
          exact ⟨by rw [h0]; rfl, hk6, m2, n + l.length, v5, ⟨hS6, hM6, hS.ge, by omega⟩, Nat.le_refl _, hT6, hRv⟩
        · rw [if_neg h0] at hD
          subst hD
          have db : (R.2 == 0) = false := beq_false_of_ne h0
          have dd : decide (R.2 = 0) = false := decide_eq_false h0
          go_wp2_with fail
          go_ret
          exact ⟨rfl, hk05, m, n, v5, ⟨b5, hm5', hS.ge, hS.mge⟩, by omega, hT5, hRv⟩
theorem do_says (base s t m n : Nat) (D : DataW Unit) (v : Value) (T : TapeS) (A : Option Addr) (c : Nat) (l : List S49) (w0 w : World) (hGL : GL w0) (hB : Below w0.heap.size w0 w) (hS : StoreAt w base s t m n D) (h : TpAt w base t v T) (hG : T.Good) (hC : Kd.C k49 w A l.length l) (hcl : l.length ≤ c)
    (hn : n + l.length ≤ 3400000000000) (hll : l.length ≤ 90000000) (hl : (recL l).length ≤ 90000000) (hTl : T.b.length ≤ 1000000) (hx : ∀ x ∈ l, x.f0.size ≤ maxLen ∧ x.f1.size ≤ maxLen) (hl2 : (recL (allD (turnD D l))).length ≤ 90000000) (hbase : base ≤ w.heap.size) :
    Calls Tryd.prog 18 #[.pointer (some ⟨s, 0, none⟩), .slice A l.length c] w fun e w' => DoP base s t n v (doT T D l) (doD T D l) l.length w e w' :=
  do_core base s t m n D v T A c l w0 w hGL hB hS h hG hC hcl hn hll hl hTl hx hl2 hbase _ _ rfl rfl
set_option maxHeartbeats 4000000 in
set_option maxRecDepth 100000 in
theorem do_nil (v : Value) (w : World) :
    Calls Tryd.prog 18 #[.pointer none, v] w fun e w' => e = .returned (.int .i64 1) ∧ w' = w := by
  go_enter Tryd.func18, Tryd.ntmps18
  go_wp2_with fail
  go_ret
  exact ⟨rfl, rfl⟩
set_option maxHeartbeats 4000000 in
set_option maxRecDepth 100000 in
theorem open_nil (w : World) :
    Calls Tryd.prog 13 #[.pointer none] w fun e w' => e = .returned (.tuple #[.pointer none, .int .i64 1]) ∧ w' = w := by
  go_enter Tryd.func13, Tryd.ntmps13
  go_wp2_with fail
  go_ret2
  exact ⟨rfl, rfl⟩
set_option maxHeartbeats 4000000 in
set_option maxRecDepth 100000 in
theorem keys_nil (key : ByteArray) (w : World) :
    Calls Tryd.prog 19 #[.pointer none, .string key] w fun e w' => e = .returned (.slice none 0 0) ∧ w' = w := by
  go_enter Tryd.func19, Tryd.ntmps19
  go_wp2_with fail
  go_ret
  exact ⟨rfl, rfl⟩
set_option maxHeartbeats 4000000 in
set_option maxRecDepth 100000 in
theorem keys_core (base s t m n : Nat) (D : DataW Unit) (ks : List ByteArray) (hks : keysD D = ks) (key : ByteArray) (w : World) (h : StoreAt w base s t m n D) (hn : n ≤ 3400000000000) :
    Calls Tryd.prog 19 #[.pointer (some ⟨s, 0, none⟩), .string key] w fun e w' => ∃ v, e = .returned v ∧ Kd.R Kd.string 9 w' w.heap.size (fun _ => True) v (ks.filter fun k => preB k key) ∧ Below w.heap.size w w' := by
  have hso := fun w1 => sorted_says m n D w1
  have hlen := keysD_len h.map
  rw [hks] at hso hlen
  clear hks
  have c01 := blk_cell h.blk 1
  go_enter Tryd.func19, Tryd.ntmps19
  go_wp2_with fail
  refine (mkeys_says m w).mono ?_
  rintro e w1 ⟨rfl, rfl⟩
  go_wp2_with fail
  refine (hso w h.map (by omega)).mono ?_
  rintro e w1 ⟨v1, rfl, hr1, hb1⟩
  obtain ⟨A1, c1, e1⟩ := Kd.R_slice hr1
  subst e1
  have hrd := (Kd.R_reads' hr1).2.2
  clear hr1
  have hb01 : Below w.heap.size w w1 := hb1
  go_wp2_with fail
  go_loopw [5, 17] (fun v3 v10 wr => ∃ i : Nat, v10 = .int .i64 i ∧ i ≤ ks.length ∧ Kd.R Kd.string 9 wr w1.heap.size (fun _ => True) v3 ((ks.take i).filter fun k => preB k key) ∧ Below w1.heap.size w1 wr) (fun _ v10 _ => ks.length - (intOf v10).toNat)
  case atStart => exact ⟨0, rfl, Nat.zero_le _, Kd.R_nil _ _ _ _ _, Below.refl _ w1⟩
  case round =>
    obtain ⟨i, rfl, hi, hr, hb⟩ := hrel
    have hC := Kd.C_below hrd hb
    by_cases hlt : i < ks.length
    · have d1 : decide ((i : Int) < (ks.length : Int)) = true := decide_eq_true (by omega)
      obtain ⟨ad, rfl, hx⟩ := Kd.at_string hC (i : Int) (by omega) (by omega)
      have i3 : ((i : Int) < (ks.length : Int)) = True := eq_true (by omega)
      have i0 : (0 ≤ (i : Int)) = True := eq_true (by omega)
      have e1 : IntKind.i64.wrap ((i : Int) + 1) = (i : Int) + 1 := IntWalk.i64_in _ (by omega)
      simp only [Int.toNat_natCast] at hx
      have hxg : rdOf ByteArray.empty ks (i : Int) = ks.getD i ByteArray.empty := by unfold rdOf; rw [Int.toNat_natCast]
      have htk : ks.take (i + 1) = ks.take i ++ [ks.getD i ByteArray.empty] := by
        rw [List.take_add_one]; simp [List.getD_eq_getElem?_getD, List.getElem?_eq_getElem hlt]
      rw [hxg] at hx
      clear hxg
      generalize ks.getD i ByteArray.empty = x at hx htk
      have hfl : ((ks.take (i + 1)).filter fun k => preB k key) = if preB x key = true then ((ks.take i).filter fun k => preB k key) ++ [x] else ((ks.take i).filter fun k => preB k key) := by
        rw [htk, List.filter_append, List.filter_cons, List.filter_nil]
        split
        · rfl
        · rw [List.append_nil]
      have hol : ((ks.take i).filter fun k => preB k key).length ≤ i := Nat.le_trans (List.length_filter_le _ _) (by rw [List.length_take]; omega)
      have LB := Lib.hid (show (((ks.take i).filter fun k => preB k key).length + 1) * 16 ≤ 140737488355328 by omega)
      have Hfl := Lib.hid hfl
      have Hi := Lib.hid (show i + 1 ≤ ks.length by omega)
      clear htk hfl hol
      generalize (ks.take i).filter (fun k => preB k key) = out at hr LB Hfl
      obtain ⟨pb, hpb⟩ : ∃ pb, Lib.hasPrefix x.data.toList key.data.toList = pb := ⟨_, rfl⟩
      have hpre := Go.Proofs.Tryd.strings_HasPrefix x key wr
      rw [hpb] at hpre
      have Hpb := Lib.hid hpb
      clear hpb
      cases pb with
      | true =>
        go_wp2_with fail
        refine hpre.mono ?_
        rintro e w2 ⟨rfl, rfl⟩
        go_wp2_with (first
          | ((with_reducible refine gate_builtin (b := .append) (xs := #[.tmp 24, .tmp 26]) rfl ?_); at_builtin; refine Kd.R_append Kd.string (w0 := w1) w1.heap.size rfl (.tmp 24) (.tmp 26) 50 9 (.string ⟨#[]⟩) 16 rfl Tryd.underlying50 (by kernel_rfl) rfl (by decide) (by decide) u5 out x [.string x] (fun _ => True) (fun _ => False) rfl rfl rfl (fun _ h => h.elim) (fun _ _ => trivial) (Kd.R_mono hr (fun _ _ => trivial)) hb hb.size LB ?_; intro v5 w5 ho5 hb5 hg5 hat5))
        refine ⟨⟨i + 1, rfl, Hi, ?_, hb5⟩, ?_⟩
        · rw [(show (ks.take (i + 1)).filter _ = _ from Hfl), if_pos (show preB x key = true from Hpb)]
          exact ho5
        · have := (show i + 1 ≤ ks.length from Hi); simp only [intOf]; omega
      | false =>
        go_wp2_with fail
        refine hpre.mono ?_
        rintro e w2 ⟨rfl, rfl⟩
        go_wp2_with fail
        refine ⟨⟨i + 1, rfl, Hi, ?_, hb⟩, ?_⟩
        · rw [(show (ks.take (i + 1)).filter _ = _ from Hfl), if_neg (by rw [(show preB x key = false from Hpb)]; decide)]
          exact hr
        · have := (show i + 1 ≤ ks.length from Hi); simp only [intOf]; omega
    · have d1 : decide ((i : Int) < (ks.length : Int)) = false := decide_eq_false (by omega)
      have hil : i = ks.length := by omega
      subst hil
      rw [List.take_length] at hr
      go_wp2_with fail
      go_ret
      exact ⟨_, rfl, Kd.R_lower hr hb01.size, below_then hb01 hb01.size hb⟩
theorem keys_says (base s t m n : Nat) (D : DataW Unit) (key : ByteArray) (w : World) (h : StoreAt w base s t m n D) (hn : n ≤ 3400000000000) :
    Calls Tryd.prog 19 #[.pointer (some ⟨s, 0, none⟩), .string key] w fun e w' => ∃ v, e = .returned v ∧ Kd.R Kd.string 9 w' w.heap.size (fun _ => True) v ((keysD D).filter fun k => preB k key) ∧ Below w.heap.size w w' :=
  keys_core base s t m n D _ rfl key w h hn
end Go.Proofs.YtkmokcfnfhabgaaDoor.X
