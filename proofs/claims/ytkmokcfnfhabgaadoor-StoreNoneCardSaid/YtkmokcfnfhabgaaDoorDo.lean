/- store.append. -/
import Derived.Test.YtkmokcfnfhabgaaDoorQ3
import Derived.Test.YtkmokcfnfhabgaaDoorRec
import Derived.Test.YtkmokcfnfhabgaaDoorTpe
import Derived.Test.YtkmokcfnfhabgaaDoorSto
import Derived.Lib.Hide
set_option linter.unusedVariables false
set_option linter.unusedSimpArgs false
namespace Go.Proofs.YtkmokcfnfhabgaaDoor.X
open Go.RowKit Go.Maps Go.Proofs.YtkmokcfnfhabgaaDoorW.PrintWords Go.Proofs.YtkmokcfnfhabgaaDoorW.PrintLast Go.Proofs.YtkmokcfnfhabgaaDoorW.PrintMore Go.Proofs.YtkmokcfnfhabgaaDoor.Q

/-- A tape. -/
structure TapeS where
  b : List Int
  sure : Int
  fuse : Int
  down : Bool
/-- A tape's word. -/
structure TapeS.Good (T : TapeS) : Prop where
  len : T.b.length ≤ 100000000
  sure : 0 ≤ T.sure ∧ T.sure ≤ T.b.length
  fuse : -1 ≤ T.fuse ∧ T.fuse < 9223372036854775808
def codeL (ok : Bool) : Int := if ok = true then 0 else 8
def TapeS.write (T : TapeS) (ys : List Int) : TapeS × Int :=
  let B := burnL (ys.length : Int) T.fuse T.down false
  (⟨T.b ++ ys.take B.1.1.toNat, T.sure, B.2.1, B.2.2⟩, codeL B.1.2)
def TapeS.sync (T : TapeS) : TapeS × Int :=
  let B := burnL 1 T.fuse T.down true
  (⟨T.b, if B.1.2 = true then (T.b.length : Int) else T.sure, B.2.1, B.2.2⟩, codeL B.1.2)
def TapeS.swap (T : TapeS) (ys : List Int) : TapeS × Int :=
  let B := burnL ((ys.length : Int) + 1) T.fuse T.down true
  (⟨if B.1.2 = true then ys else T.b, if B.1.2 = true then (ys.length : Int) else T.sure, B.2.1, B.2.2⟩, codeL B.1.2)
def TapeS.append (T : TapeS) (ys : List Int) : TapeS × Int :=
  if (T.write ys).2 = 0 then (T.write ys).1.sync else T.write ys
/-- A tape in memory. -/
def TpAt (W : World) (base t : Nat) (v : Value) (T : TapeS) : Prop := TapeAt W base t v T.b T.sure T.fuse T.down
/-- What a call may turn of a tape; where its row may be behind it. -/
def Rowd (v v' : Value) (z : Nat) : Prop := ∀ k, v'.ownBlock = some k → v.ownBlock = some k ∨ z ≤ k
theorem Rowd.refl (v : Value) (z : Nat) : Rowd v v z := fun k h => .inl h
theorem Rowd.trans {v v1 v2 : Value} {z z1 : Nat} (h : Rowd v v1 z) (h2 : Rowd v1 v2 z1) (hz : z ≤ z1) : Rowd v v2 z := fun k hk => by
  rcases h2 k hk with h' | h'
  · exact h k h'
  · exact .inr (Nat.le_trans hz h')
theorem TpAt.ne_cells {W : World} {base t : Nat} {v : Value} {T : TapeS} (h : TpAt W base t v T) {g e : Nat} {cs : Array Value} (hb : W.heap[g]? = some (.cells cs e (0, 0))) (he : 5 ≠ e) : v.ownBlock ≠ some g := fun hk => by
  obtain ⟨cells, hc⟩ := (h.row.typed g hk).2
  exact blk_ne hc hb he rfl
theorem burn_range (n fuse : Int) (down whole : Bool) (hn : 0 ≤ n) (hf : -1 ≤ fuse ∧ fuse < 9223372036854775808) : 0 ≤ (burnL n fuse down whole).1.1 ∧ (burnL n fuse down whole).1.1 ≤ n ∧ -1 ≤ (burnL n fuse down whole).2.1 ∧ (burnL n fuse down whole).2.1 < 9223372036854775808 := by
  unfold burnL
  by_cases hd : down = true
  · rw [if_pos hd]; exact ⟨Int.le_refl _, hn, hf⟩
  · rw [if_neg hd]
    by_cases hc : fuse < 0 ∨ n ≤ fuse
    · rw [if_pos hc]
      by_cases h0 : 0 ≤ fuse
      · rw [if_pos h0]; exact ⟨hn, Int.le_refl _, by show -1 ≤ fuse - n; omega, by show fuse - n < _; omega⟩
      · rw [if_neg h0]; exact ⟨hn, Int.le_refl _, hf.1, hf.2⟩
    · rw [if_neg hc]
      cases whole
      · exact ⟨by show 0 ≤ fuse; omega, by show fuse ≤ n; omega, by show (-1 : Int) ≤ 0; omega, by show (0 : Int) < _; omega⟩
      · exact ⟨by show (0 : Int) ≤ 0; omega, by show 0 ≤ n; omega, by show (-1 : Int) ≤ 0; omega, by show (0 : Int) < _; omega⟩
theorem twrite_says (base t : Nat) (v : Value) (T : TapeS) (ys : List Int) (A : Option Addr) (c : Nat) (w : World) (h : TpAt w base t v T) (hG : T.Good) (hC : Kd.C (Kd.int .u8) w A ys.length ys) (hcy : ys.length ≤ c) (hl : ys.length ≤ 100000000) (hbase : base ≤ w.heap.size) :
    Calls Tryd.prog 54 #[.pointer (some ⟨t, 0, none⟩), .slice A ys.length c] w fun e w' =>
      e = .returned (.int .i64 (T.write ys).2) ∧ Tur w w' (fun k => k = t ∨ v.ownBlock = some k) ∧ ∃ v', TpAt w' base t v' (T.write ys).1 ∧ Rowd v v' w.heap.size := by
  obtain ⟨done, ok, fuse1, down1, hB⟩ : ∃ d o f g, burnL (ys.length : Int) T.fuse T.down false = ((d, o), (f, g)) := ⟨_, _, _, _, rfl⟩
  have hr := burn_range (ys.length : Int) T.fuse T.down false (by omega) hG.fuse
  rw [hB] at hr
  simp only at hr
  obtain ⟨d, rfl⟩ : ∃ d : Nat, done = (d : Int) := ⟨done.toNat, by omega⟩
  have hl' := hG.len
  refine (write_says base t v T.b ys T.sure T.fuse T.down A c w h hC hcy (by omega) hbase (by have := hG.fuse; omega) d fuse1 ok down1 hB (by omega)).mono ?_
  rintro e w' ⟨rfl, hk, v', hT, hv⟩
  have hw : T.write ys = (⟨T.b ++ ys.take d, T.sure, fuse1, down1⟩, codeL ok) := by unfold TapeS.write; rw [hB]; rfl
  rw [hw]
  refine ⟨rfl, hk, v', hT, fun k hk => ?_⟩
  rcases hv with h | h
  · exact .inl (by rw [← h]; exact hk)
  · exact .inr (h k hk)
theorem tsync_says (base t : Nat) (v : Value) (T : TapeS) (w : World) (h : TpAt w base t v T) (hf : -1 ≤ T.fuse ∧ T.fuse < 9223372036854775808) :
    Calls Tryd.prog 55 #[.pointer (some ⟨t, 0, none⟩)] w fun e w' =>
      e = .returned (.int .i64 T.sync.2) ∧ Tur w w' (fun k => k = t) ∧ TpAt w' base t v T.sync.1 := by
  obtain ⟨done, ok, fuse1, down1, hB⟩ : ∃ d o f g, burnL 1 T.fuse T.down true = ((d, o), (f, g)) := ⟨_, _, _, _, rfl⟩
  refine (sync_says base t v T.b T.sure T.fuse T.down w h (by omega) done fuse1 ok down1 hB).mono ?_
  rintro e w' ⟨rfl, hk, hT⟩
  have hw : T.sync = (⟨T.b, if ok = true then (T.b.length : Int) else T.sure, fuse1, down1⟩, codeL ok) := by unfold TapeS.sync; rw [hB]
  rw [hw]
  exact ⟨rfl, hk, hT⟩
theorem tswap_says (base t : Nat) (v : Value) (T : TapeS) (ys : List Int) (A : Option Addr) (c : Nat) (w : World) (h : TpAt w base t v T) (hf : -1 ≤ T.fuse ∧ T.fuse < 9223372036854775808) (hC : Kd.C (Kd.int .u8) w A ys.length ys) (hl : ys.length ≤ 100000000) (hbase : base ≤ w.heap.size) :
    Calls Tryd.prog 11 #[.pointer (some ⟨t, 0, none⟩), .slice A ys.length c] w fun e w' =>
      e = .returned (.int .i64 (T.swap ys).2) ∧ Tur w w' (fun k => k = t) ∧ ∃ v', TpAt w' base t v' (T.swap ys).1 ∧ Rowd v v' w.heap.size := by
  obtain ⟨done, ok, fuse1, down1, hB⟩ : ∃ d o f g, burnL ((ys.length : Int) + 1) T.fuse T.down true = ((d, o), (f, g)) := ⟨_, _, _, _, rfl⟩
  refine (swap_says base t v T.b ys T.sure T.fuse T.down A c w h hC (by omega) hbase (by omega) done fuse1 ok down1 hB).mono ?_
  rintro e w' ⟨rfl, hk, v', hT, hv⟩
  have hw : T.swap ys = (⟨if ok = true then ys else T.b, if ok = true then (ys.length : Int) else T.sure, fuse1, down1⟩, codeL ok) := by unfold TapeS.swap; rw [hB]
  rw [hw]
  refine ⟨rfl, hk, v', hT, fun k hk => ?_⟩
  rcases hv with h | h
  · exact .inl (by rw [← h]; exact hk)
  · exact .inr (h k hk)
theorem codeL_zero (ok : Bool) : (codeL ok = 0) = (ok = true) := by cases ok <;> simp [codeL]
theorem TapeS.write_good (T : TapeS) (ys : List Int) (h : T.Good) (hl : T.b.length + ys.length ≤ 100000000) : (T.write ys).1.Good := by
  have hr := burn_range (ys.length : Int) T.fuse T.down false (by omega) h.fuse
  have hs := h.sure
  refine ⟨?_, ⟨hs.1, ?_⟩, ⟨hr.2.2.1, hr.2.2.2⟩⟩
  · show (T.b ++ List.take _ ys).length ≤ _
    rw [List.length_append, List.length_take]; omega
  · show T.sure ≤ ((T.b ++ List.take _ ys).length : Int)
    rw [List.length_append]; omega
theorem TapeS.sync_eq (T : TapeS) {d f : Int} {o g : Bool} (hB : burnL 1 T.fuse T.down true = ((d, o), (f, g))) : T.sync = (⟨T.b, if o = true then (T.b.length : Int) else T.sure, f, g⟩, codeL o) := by unfold TapeS.sync; rw [hB]
theorem TapeS.swap_eq (T : TapeS) (ys : List Int) {d f : Int} {o g : Bool} (hB : burnL ((ys.length : Int) + 1) T.fuse T.down true = ((d, o), (f, g))) : T.swap ys = (⟨if o = true then ys else T.b, if o = true then (ys.length : Int) else T.sure, f, g⟩, codeL o) := by unfold TapeS.swap; rw [hB]
theorem TapeS.sync_good (T : TapeS) (h : T.Good) : T.sync.1.Good := by
  obtain ⟨d, o, f, g, hB⟩ : ∃ d o f g, burnL 1 T.fuse T.down true = ((d, o), (f, g)) := ⟨_, _, _, _, rfl⟩
  have hr := burn_range 1 T.fuse T.down true (by omega) h.fuse
  rw [hB] at hr
  have hs := h.sure
  rw [T.sync_eq hB]
  refine ⟨h.len, ?_, ⟨hr.2.2.1, hr.2.2.2⟩⟩
  cases o
  · exact hs
  · exact ⟨by show (0 : Int) ≤ T.b.length; omega, by show (T.b.length : Int) ≤ T.b.length; omega⟩
theorem TapeS.swap_good (T : TapeS) (ys : List Int) (h : T.Good) (hl : ys.length ≤ 100000000) : (T.swap ys).1.Good := by
  obtain ⟨d, o, f, g, hB⟩ : ∃ d o f g, burnL ((ys.length : Int) + 1) T.fuse T.down true = ((d, o), (f, g)) := ⟨_, _, _, _, rfl⟩
  have hr := burn_range ((ys.length : Int) + 1) T.fuse T.down true (by omega) h.fuse
  rw [hB] at hr
  have hs := h.sure
  have hlen := h.len
  rw [T.swap_eq ys hB]
  cases o
  · exact ⟨hlen, hs, ⟨hr.2.2.1, hr.2.2.2⟩⟩
  · exact ⟨hl, ⟨by show (0 : Int) ≤ ys.length; omega, by show (ys.length : Int) ≤ ys.length; omega⟩, ⟨hr.2.2.1, hr.2.2.2⟩⟩
theorem TapeS.append_good (T : TapeS) (ys : List Int) (h : T.Good) (hl : T.b.length + ys.length ≤ 100000000) : (T.append ys).1.Good := by
  unfold TapeS.append
  split
  · exact TapeS.sync_good _ (T.write_good ys h hl)
  · exact T.write_good ys h hl
set_option maxHeartbeats 4000000 in
set_option maxRecDepth 100000 in
theorem append_says (base s t m n : Nat) (D : DataW Unit) (v : Value) (T : TapeS) (ys : List Int) (A : Option Addr) (c : Nat) (w : World) (hS : StoreAt w base s t m n D) (h : TpAt w base t v T) (hG : T.Good) (hC : Kd.C (Kd.int .u8) w A ys.length ys) (hcy : ys.length ≤ c) (hl : T.b.length + ys.length ≤ 100000000) (hbase : base ≤ w.heap.size) :
    Calls Tryd.prog 38 #[.pointer (some ⟨s, 0, none⟩), .slice A ys.length c] w fun e w' =>
      e = .returned (.int .i64 (T.append ys).2) ∧ Tur w w' (fun k => k = t ∨ v.ownBlock = some k) ∧ ∃ v', TpAt w' base t v' (T.append ys).1 ∧ Rowd v v' w.heap.size := by
  have c0 := blk_cell hS.blk 0
  have hst : s ≠ t := blk_ne hS.blk h.blk (by decide)
  have hg1 := T.write_good ys hG hl
  obtain ⟨T1, hT1⟩ : ∃ T1, T1 = T.write ys := ⟨_, rfl⟩
  have hw := twrite_says base t v T ys A c w h hG hC hcy (by omega) hbase
  rw [← hT1] at hw hg1
  have hap : T.append ys = if T1.2 = 0 then T1.1.sync else T1 := by rw [hT1]; rfl
  have hcode : T1.2 = 0 ∨ T1.2 = 8 := by
    rw [hT1]; show codeL _ = 0 ∨ codeL _ = 8
    unfold codeL; split
    · exact .inl rfl
    · exact .inr rfl
  obtain ⟨R, hR⟩ : ∃ R, T.append ys = R := ⟨_, rfl⟩
  rw [hR]
  have hR2 := hR.symm.trans hap
  have HR := Lib.hid hR2
  have Hcode := Lib.hid hcode
  clear hT1 hap hcode hR hR2
  go_enter Tryd.func38, Tryd.ntmps38
  go_wp2_with fail
  refine hw.mono ?_
  rintro e w1 ⟨rfl, hk1, v1, hA1, hv1⟩
  have hS1 := hS.blk
  have b1 := blk_kept hS.blk hk1.kept (by
    rintro (h | h)
    · exact hst h
    · exact TpAt.ne_cells ‹TpAt w base t v T› hS.blk (by decide) h)
  rcases (show T1.2 = 0 ∨ T1.2 = 8 from Hcode) with hc | hc
  · have hR : R = T1.1.sync := by
      have h := (show R = if T1.2 = 0 then T1.1.sync else T1 from HR)
      rw [if_pos hc] at h; exact h
    subst hR
    rw [hc]
    have c01 := blk_cell b1 0
    have h1 := tsync_says base t v1 T1.1 w1 hA1 hg1.fuse
    go_wp2_with fail
    refine h1.mono ?_
    rintro e w2 ⟨rfl, hk2, hA2⟩
    go_wp2_with fail
    go_ret
    exact ⟨rfl, hk1.then_ hk2 (fun k h => .inl (.inl h)), v1, hA2, hv1⟩
  · have hR : R = T1 := by
      have h := (show R = if T1.2 = 0 then T1.1.sync else T1 from HR)
      rw [if_neg (by rw [hc]; decide)] at h; exact h
    subst hR
    rw [hc]
    go_wp2_with fail
    go_ret
    exact ⟨by rw [hc]; rfl, hk1, v1, hA1, hv1⟩
end Go.Proofs.YtkmokcfnfhabgaaDoor.X
