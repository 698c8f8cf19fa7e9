/- store.Open. -/
import Derived.Test.YtkmokcfnfhabgaaDoorQ3
import Derived.Test.YtkmokcfnfhabgaaDoorChg
import Derived.Test.YtkmokcfnfhabgaaDoorTpe
import Derived.Test.YtkmokcfnfhabgaaDoorSto
import Derived.Lib.Hide
set_option linter.unusedVariables false
set_option linter.unusedSimpArgs false
namespace Go.Proofs.YtkmokcfnfhabgaaDoor.X
open Go.RowKit Go.Maps Go.Proofs.YtkmokcfnfhabgaaDoorW.PrintWords Go.Proofs.YtkmokcfnfhabgaaDoorW.PrintLast Go.Proofs.YtkmokcfnfhabgaaDoorW.PrintMore Go.Proofs.YtkmokcfnfhabgaaDoor.Q

/-- What records come to. -/
def openD : List (List Int) → DataW Unit → Option (DataW Unit)
 | [], D => some D
 | r :: l, D => if chOk r = true then openD l (turnD D (chL r).1) else none
theorem openD_snoc (l : List (List Int)) (r : List Int) (D : DataW Unit) : openD (l ++ [r]) D = (openD l D).bind fun D' => if chOk r = true then some (turnD D' (chL r).1) else none := by
 induction l generalizing D with
 | nil => simp [openD]
 | cons a l ih =>
  simp only [List.cons_append, openD]
  split
  ·
   exact ih _
  ·
   rfl
theorem openD_append (l l2 : List (List Int)) (D : DataW Unit) : openD (l ++ l2) D = (openD l D).bind fun D' => openD l2 D' := by
 induction l generalizing D with
 | nil => simp [openD]
 | cons a l ih =>
  simp only [List.cons_append, openD]
  split
  ·
   exact ih _
  ·
   rfl
theorem chF_len (n : Nat) (xs : List Int) (bad : Bool) (out : List S49) : (chF n xs bad out).1.length ≤ out.length + (if bad = true then 0 else xs.length + 1) := by
 induction n generalizing xs bad out with
 | zero => simp [chF]
 | succ n ih =>
  cases bad with
  | true => simp [chF]
  | false =>
   have h := ih (oneC xs false).2.1 (oneC xs false).2.2 (out ++ [(oneC xs false).1])
   have e : chF (n + 1) xs false out = chF n (oneC xs false).2.1 (oneC xs false).2.2 (out ++ [(oneC xs false).1]) := rfl
   rw [e]
   rw [List.length_append, List.length_singleton] at h
   simp only [Bool.false_eq_true, if_false]
   have h1 := rnumL_len xs false
   have h2 := rtextL_len (rnumL xs false).2.1 (rnumL xs false).2.2
   have h3 := rtextL_len (rtextL (rnumL xs false).2.1 (rnumL xs false).2.2).2.1 (rtextL (rnumL xs false).2.1 (rnumL xs false).2.2).2.2
   have e2 : (oneC xs false).2.1.length = (rtextL (rtextL (rnumL xs false).2.1 (rnumL xs false).2.2).2.1 (rtextL (rnumL xs false).2.1 (rnumL xs false).2.2).2.2).2.1.length := rfl
   split at h
   ·
    omega
   ·
    rename_i hb
    have hb' : (oneC xs false).2.2 = false := by simpa using hb
    have h4 := h3.1 hb'
    have h5 := h2.1 h4.1
    have h6 := h1.1 h5.1
    omega
theorem chF_small (N n : Nat) (xs : List Int) (bad : Bool) (out : List S49) (hx : xs.length ≤ N) (ho : ∀ x ∈ out, x.f0.size ≤ N ∧ x.f1.size ≤ N) : ∀ x ∈ (chF n xs bad out).1, x.f0.size ≤ N ∧ x.f1.size ≤ N := by
 induction n generalizing xs bad out with
 | zero => exact ho
 | succ n ih =>
  cases bad with
  | true => exact ho
  | false =>
   have h1 := rnumL_len xs false
   have h2 := rtextL_len (rnumL xs false).2.1 (rnumL xs false).2.2
   have h3 := rtextL_len (rtextL (rnumL xs false).2.1 (rnumL xs false).2.2).2.1 (rtextL (rnumL xs false).2.1 (rnumL xs false).2.2).2.2
   have e2 : (oneC xs false).2.1.length = (rtextL (rtextL (rnumL xs false).2.1 (rnumL xs false).2.2).2.1 (rtextL (rnumL xs false).2.1 (rnumL xs false).2.2).2.2).2.1.length := rfl
   have e0 : (oneC xs false).1.f0.size = (rtextL (rnumL xs false).2.1 (rnumL xs false).2.2).1.size := rfl
   have e1 : (oneC xs false).1.f1.size = (rtextL (rtextL (rnumL xs false).2.1 (rnumL xs false).2.2).2.1 (rtextL (rnumL xs false).2.1 (rnumL xs false).2.2).2.2).1.size := rfl
   refine ih (oneC xs false).2.1 (oneC xs false).2.2 (out ++ [(oneC xs false).1]) (by omega) ?_
   intro x hx
   rcases List.mem_append.1 hx with h | h
   ·
    exact ho x h
   ·
    rw [List.mem_singleton.1 h]; omega
theorem chL_small (b : List Int) : (chL b).1.length ≤ b.length + 1 ∧ ∀ x ∈ (chL b).1, x.f0.size ≤ b.length ∧ x.f1.size ≤ b.length := by
 have h1 := rnumL_len b false
 have h2 := chF_len (rnumL b false).1.toNat (rnumL b false).2.1 (rnumL b false).2.2 []
 refine ⟨?_, chF_small b.length _ _ _ [] h1.2 (by simp)⟩
 show (chF _ _ _ _).1.length ≤ _
 rw [List.length_nil] at h2
 split at h2 <;> omega
theorem oneL_le (l : List Int) : (oneL l).1.length ≤ 32768 := by
 unfold oneL
 split
 ·
  exact Nat.zero_le _
 ·
  split
  ·
   exact Nat.zero_le _
  ·
   rename_i h
   have := (getL_range (l.take 4)).1
   show (List.take _ _).length ≤ _
   rw [List.length_take]; omega
theorem splitF_small (m : Nat) (l : List Int) (i : Nat) : (splitF m l i).1.length ≤ m ∧ ∀ r ∈ (splitF m l i).1, r.length ≤ 32768 := by
 induction m generalizing i with
 | zero => exact ⟨Nat.le_refl _, by simp [splitF]⟩
 | succ m ih =>
  unfold splitF
  split
  ·
   have := ih (i + 8 + (oneL (l.drop i)).1.length)
   refine ⟨by simp only [List.length_cons]; omega, ?_⟩
   intro r hr
   rcases List.mem_cons.1 hr with h | h
   ·
    rw [h]; exact oneL_le _
   ·
    exact this.2 r h
  ·
   exact ⟨Nat.zero_le _, by simp⟩
theorem splitF_end (m : Nat) (l : List Int) (i : Nat) (hi : i ≤ l.length) : (splitF m l i).2 ≤ l.length := by
 induction m generalizing i with
 | zero => exact hi
 | succ m ih =>
  unfold splitF
  split
  ·
   rename_i h
   have := oneL_fits (l.drop i) h
   rw [List.length_drop] at this
   exact ih _ (by omega)
  ·
   exact hi
/-- What Open answers. -/
def OpenP (base t : Nat) (v : Value) (xs : List Int) (sure : Int) (w : World) (e : Ending) (w' : World) : Prop := Tur w w' (fun k => k = t) ∧
 ((openD (splitL xs).1 (.map []) = none ∧ e = .returned (.tuple #[.pointer none, .int .i64 2]) ∧ TapeAt w' base t v xs sure (-1) false) ∨
 ∃ D s m n v', openD (splitL xs).1 (.map []) = some D ∧ e = .returned (.tuple #[.pointer (some ⟨s, 0, none⟩), .int .i64 0]) ∧ StoreAt w' w.heap.size s t m n D ∧ n ≤ 3300000000000 ∧
  TapeAt w' base t v' (xs.take (splitL xs).2) (if (splitL xs).2 < xs.length then ((splitL xs).2 : Int) else sure) (-1) false ∧ (v' = v ∨ ∀ k, v'.ownBlock = some k → w.heap.size ≤ k))
set_option maxHeartbeats 8000000 in
set_option maxRecDepth 100000 in
theorem open_says (t : Nat) (v : Value) (xs : List Int) (sure : Int) (w0 w : World) (hGL : GL w0) (hB : Below w0.heap.size w0 w) (hT : TapeAt w w0.heap.size t v xs sure (-1) false) (hl : xs.length ≤ 100000000) :
  Calls Tryd.prog 13 #[.pointer (some ⟨t, 0, none⟩)] w fun e w' => OpenP w0.heap.size t v xs sure w e w' := by
 have hmm := @run_makeMap Tryd.prog
 go_enter Tryd.func13, Tryd.ntmps13
 go_wp2_with fail
 refine (bytes_says w0.heap.size t v xs sure (-1) false w hT (by omega)).mono ?_
 rintro e w1 ⟨v1, rfl, hr1, hb1⟩
 obtain ⟨A1, c1, e1⟩ := Kd.R_slice hr1
 subst e1
 have hrd := Kd.R_reads' hr1
 have hB1 := below_then hB hB.size hb1
 go_wp2_with fail
 refine (frame_Split.says A1 c1 xs w1 hrd.2.2 hrd.2.1 hl (hGL.below hB1)).mono ?_
 rintro e w2 ⟨v2, rfl, hr2, hb2⟩
 obtain ⟨⟨l, n⟩, hsp⟩ : ∃ p, splitL xs = p := ⟨_, rfl⟩
 rw [hsp] at hr2
 obtain ⟨A2, c2, e2⟩ := Kd.S_slice hr2
 subst e2
 have hls : l.length ≤ xs.length + 1 ∧ ∀ r ∈ l, r.length ≤ 32768 := by
  have := splitF_small (xs.length + 1) xs 0
  rw [show splitF (xs.length + 1) xs 0 = (l, n) from hsp] at this
  exact this
 have hne : n ≤ xs.length := by
  have := splitF_end (xs.length + 1) xs 0 (Nat.zero_le _)
  rw [show splitF (xs.length + 1) xs 0 = (l, n) from hsp] at this
  exact this
 have hb12 : Below w.heap.size w w2 := below_then hb1 hb1.size hb2
 have hrows := (Kd.S_reads' hr2).2.2
 have hrd2 := Kd.C_below hrd.2.2 hb2
 have hcx := hrd.2.1
 go_wp2_with fail
 refine wp_world ?_
 intro w3 hw3
 have hS3 : StoreAt w3 w2.heap.size (w2.heap.size + 1) t w2.heap.size 0 (.map []) := by
  rw [hw3]
  refine ⟨?_, ?_, Nat.le_succ _, Nat.le_refl _⟩
  ·
   have := heap_alloc_new (w2.alloc (.map #[] 0)) (.cells #[.pointer (some ⟨t, 0, none⟩), .map (some w2.heap.size)] 74)
   rw [show (w2.alloc (.map #[] 0)).heap.size = w2.heap.size + 1 by simp] at this
   exact this
  ·
   exact World.ownsMap.alloc (World.ownsMap_made _ _ _ _) _
 have hb3 : Below w2.heap.size w2 w3 := by rw [hw3]; exact ((Below.refl _ w2).alloc (Nat.le_refl _) _).alloc (by simp) _
 have Hsp := Lib.hid hsp
 clear hsp hw3 hb2 hr1 hB1 hr2 hrd
 go_loopw [28] (fun v28 wr => ∃ (i m cnt : Nat) (D : DataW Unit), v28 = .int .i64 i ∧ i ≤ l.length ∧ openD (l.take i) (.map []) = some D ∧ StoreAt wr w2.heap.size (w2.heap.size + 1) t m cnt D ∧ cnt ≤ i * 32769 ∧ Below w2.heap.size w2 wr) (fun v28 _ => l.length - (intOf v28).toNat)
 case atStart => exact ⟨0, w2.heap.size, 0, .map [], rfl, Nat.zero_le _, rfl, hS3, by omega, hb3⟩
 case round =>
  clear hS3 hb3
  obtain ⟨i, m, cnt, D, rfl, hi, hop, hS, hcnt, hb⟩ := hrel
  by_cases hlt : i < l.length
  ·
   have d1 : decide ((i : Int) < (l.length : Int)) = true := decide_eq_true (by omega)
   obtain ⟨ad, A0, c0, rfl, hx, hlen, hCr⟩ := at_L3 (Kd.C_below hrows hb) (i : Int) (by omega) (by omega)
   have hrd : rd_L3 l (i : Int) = l.getD i [] := by unfold rd_L3; rw [Int.toNat_natCast]
   rw [hrd] at hx hlen hCr
   have hmem : l.getD i [] ∈ l := by simp [List.getD_eq_getElem?_getD, List.getElem?_eq_getElem hlt]
   have htk : l.take (i + 1) = l.take i ++ [l.getD i []] := by
    rw [List.take_add_one]; simp [List.getD_eq_getElem?_getD, List.getElem?_eq_getElem hlt]
   have hdr : l = l.take i ++ (l.getD i [] :: l.drop (i + 1)) := by
    conv => lhs; rw [← List.take_append_drop (i + 1) l, htk]
    simp
   have hr8 := hls.2 _ hmem
   obtain ⟨r, hr⟩ : ∃ r, r = l.getD i [] := ⟨_, rfl⟩
   rw [← hr] at hx hlen hCr htk hdr hr8
   clear hr hrd hmem
   have hsm := chL_small r
   simp only [Int.toNat_natCast] at hx
   have i3 : ((i : Int) < (l.length : Int)) = True := eq_true (by omega)
   have i0 : (0 ≤ (i : Int)) = True := eq_true (by omega)
   have e1 : IntKind.i64.wrap ((i : Int) + 1) = (i : Int) + 1 := IntWalk.i64_in _ (by omega)
   have Hdr := Lib.hid hdr
   have Htk := Lib.hid htk
   have Hop := Lib.hid hop
   have Hi := Lib.hid (show i + 1 ≤ l.length by omega)
   clear hdr htk hop
   go_wp2_with fail
   refine (changes_says A0 c0 r wr hCr hlen (by omega)).mono ?_
   rintro e w4 ⟨v4, rfl, hr4, hb4⟩
   have hb24 : Below w2.heap.size w2 w4 := below_then hb hb.size hb4
   have hS4 := hS.kept (Tur.of_below hb4 (fun _ => False)) (fun h => h) (fun h => h)
   obtain ⟨A4, c4, e4⟩ := Kd.R_slice hr4
   subst e4
   cases hok : chOk r with
   | false =>
    go_wp2_with fail
    go_ret2
    have hb04 := below_then hb12 hb12.size hb24
    refine ⟨Tur.of_below hb04 _, .inl ⟨?_, rfl, hT.kept (Tur.of_below hb04 (fun _ => False)) (fun h => h) (fun _ _ h => h)⟩⟩
    rw [(show splitL xs = (l, n) from Hsp)]
    show openD l _ = none
    rw [(show l = l.take i ++ (r :: l.drop (i + 1)) from Hdr), openD_append]
    rw [(show openD (l.take i) (.map []) = some D from Hop)]
    show openD (r :: _) D = none
    rw [openD, if_neg (by rw [hok]; decide)]
   | true =>
    have c1 := blk_cell hS4.blk 1
    go_wp2_with fail
    refine (turned_says m cnt D A4 c4 (chL r).1 w4 hS4.map (Kd.R_reads' hr4).2.2 (by unfold maxLen; omega) (fun x hx => by have := hsm.2 x hx; unfold maxLen; omega)).mono ?_
    rintro e w5 ⟨m', rfl, hm', hM5, hb5⟩
    have hb25 : Below w2.heap.size w2 w5 := below_then hb24 hb24.size hb5
    have hS5 := blk_below hS4.blk hb5
    have c1 := blk_cell hS5 1
    have f1 := blk_frozen hS5 1
    have hS6 := blk_put hS5 1 (.map (some m')) rfl
    have hM6 := World.ownsMap.setCell hM5 (a := ⟨w2.heap.size + 1, 1, none⟩) (MapAt.ne hM5 hS5) (.map (some m'))
    have hb26 := Below.setCell hb25 (p := ⟨w2.heap.size + 1, 1, none⟩) (Nat.le_succ _) (.map (some m'))
    have hs24 : w2.heap.size ≤ w4.heap.size := hb24.size
    have LC := Lib.hid (show cnt + (chL r).1.length ≤ (i + 1) * 32769 by omega)
    clear hcnt
    go_wp2_with fail
    refine ⟨⟨i + 1, m', cnt + (chL r).1.length, turnD D (chL r).1, rfl, Hi, ?_, ⟨hS6, hM6, Nat.le_succ _, by omega⟩, LC, hb26⟩, ?_⟩
    ·
     rw [(show l.take (i + 1) = l.take i ++ [r] from Htk), openD_snoc, (show openD (l.take i) (.map []) = some D from Hop)]
     show (if chOk r = true then _ else _) = _
     rw [if_pos hok]
    ·
     have := (show i + 1 ≤ l.length from Hi); simp only [intOf]; omega
  ·
   have d1 : decide ((i : Int) < (l.length : Int)) = false := decide_eq_false (by omega)
   have hil : i = l.length := by omega
   subst hil
   rw [List.take_length] at hop
   have hopE : openD l (.map []) = some D := hop
   have Hop := Lib.hid hop
   clear hop
   have hT2 := hT.kept (Tur.of_below (below_then hb12 hb12.size hb) (fun _ => False)) (fun h => h) (fun _ _ h => h)
   have hbz : w.heap.size ≤ w2.heap.size := hb12.size
   have hle := hls.1
   by_cases hnx : n < xs.length
   ·
    have d2 : decide (n < xs.length) = true := decide_eq_true hnx
    have ht : (xs.take n).length = n := by rw [List.length_take]; omega
    have hCt := Kd.C_take (Kd.C_below hrd2 hb) hne
    have hbs := hb.size
    have h0 := hB.size
    have hsw := swap_says w0.heap.size t v xs (xs.take n) sure (-1) false A1 c1 wr hT2 hCt (by omega) (by omega) (by omega) ((n : Int) + 1) (-1) true false (by rw [ht]; unfold burnL; rw [if_neg (by decide), if_pos (.inl (by decide)), if_neg (by decide)])
    rw [ht] at hsw
    have Hn := Lib.hid hnx
    have Ht := Lib.hid ht
    clear hnx ht hCt
    go_wp2_with fail
    refine hsw.mono ?_
    rintro e wf ⟨rfl, hkf, v', hTf, hvf⟩
    simp only [if_true] at hTf
    go_wp2_with fail
    go_ret2
    refine ⟨(Tur.of_below (below_then hb12 hb12.size hb) _).then_ hkf (fun k h => .inl h), .inr ⟨D, _, m, cnt, v', ?_, rfl, ?_, by omega, ?_, ?_⟩⟩
    ·
     rw [(show splitL xs = (l, n) from Hsp)]; exact (show openD l (.map []) = some D from Hop)
    ·
     have hne := hTf.ne
     have htw : t < w.heap.size := (Array.getElem?_eq_some_iff.1 hT.blk).1
     have hmg := hS.mge
     have hSf := hS.kept hkf (by omega) (by omega)
     exact ⟨hSf.blk, hSf.map, by omega, by have := hSf.mge; omega⟩
    ·
     rw [(show splitL xs = (l, n) from Hsp)]
     show TapeAt wf _ t v' (xs.take n) (if n < xs.length then _ else _) _ _
     rw [if_pos (show n < xs.length from Hn), (show (xs.take n).length = n from Ht)] at *
     exact hTf
    ·
     rcases hvf with h | h
     ·
      exact .inl h
     ·
      exact .inr fun k hk => by have := h k hk; omega
   ·
    have d2 : decide (n < xs.length) = false := decide_eq_false hnx
    go_wp2_with fail
    go_ret2
    refine ⟨Tur.of_below (below_then hb12 hb12.size hb) _, .inr ⟨D, _, m, cnt, v, ?_, rfl, ⟨hS.blk, hS.map, by omega, by have := hS.mge; omega⟩, by omega, ?_, .inl rfl⟩⟩
    ·
     rw [(show splitL xs = (l, n) from Hsp)]; exact (show openD l (.map []) = some D from Hop)
    ·
     rw [(show splitL xs = (l, n) from Hsp)]
     show TapeAt wr _ t v (xs.take n) (if n < xs.length then _ else _) _ _
     rw [if_neg hnx, List.take_of_length_le (by omega)]
     exact hT2
end Go.Proofs.YtkmokcfnfhabgaaDoor.X
