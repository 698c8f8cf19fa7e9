/- FrameTurned: a frame of which one byte is another one is not there. Without any word on the sum itself: were it there with the same bytes, its head would be the head of the right frame, so nothing was turned. -/
import Derived.Test.YtkmnbnfkpccobaaDoorQ7
import Derived.Test.YtkmnbnfkpccobaaDoorFrm
set_option linter.unusedVariables false
set_option linter.unusedSimpArgs false
namespace Go.Proofs.YtkmnbnfkpccobaaDoor.Pure
open Go.RowKit Go.Proofs.YtkmnbnfkpccobaaDoor.Q Go.Proofs.YtkmnbnfkpccobaaDoor.X Go.Proofs.YtkmnbnfkpccobaaDoorW.PrintWords Go.Proofs.YtkmnbnfkpccobaaDoorW.PrintLast Go.Proofs.YtkmnbnfkpccobaaDoorW.PrintMore

theorem xor_byte {x t : Int} (hx : 0 ≤ x ∧ x < 256) (ht : 0 ≤ t ∧ t < 256) (h0 : t ≠ 0) : (0 ≤ Go.bits .xor .u8 x t ∧ Go.bits .xor .u8 x t < 256) ∧ Go.bits .xor .u8 x t ≠ x := by
  obtain ⟨a, rfl⟩ := Int.eq_ofNat_of_zero_le hx.1
  obtain ⟨b, rfl⟩ := Int.eq_ofNat_of_zero_le ht.1
  have ha : a % 2 ^ 8 = a := Nat.mod_eq_of_lt (by omega)
  have hb : b % 2 ^ 8 = b := Nat.mod_eq_of_lt (by omega)
  have hlt : a ^^^ b < 2 ^ 8 := Nat.xor_lt_two_pow (by omega) (by omega)
  have e : Go.bits .xor .u8 (a : Int) (b : Int) = ((a ^^^ b : Nat) : Int) := by
    have hk : IntKind.u8.bits = 8 := rfl
    simp only [Go.bits, BitVec.ofInt_natCast, BitVec.toNat_xor, BitVec.toNat_ofNat, hk, ha, hb]
    rw [IntKind.wrap_u8]; omega
  rw [e]
  refine ⟨⟨by omega, by omega⟩, fun h => h0 ?_⟩
  have h1 : a ^^^ b = a := by omega
  have h2 : a ^^^ (a ^^^ b) = b := by rw [← Nat.xor_assoc, Nat.xor_self, Nat.zero_xor]
  rw [h1, Nat.xor_self] at h2
  omega
theorem frameL_length (a : List Int) : (frameL a).length = 8 + a.length := by
  simp only [frameL, List.length_append, markL_length]
  simp [four]
theorem byt_set {l : List Int} (h : Byt l) (i : Nat) (v : Int) (hv : 0 ≤ v ∧ v < 256) : Byt (l.set i v) := fun x hx => by
  rcases List.mem_or_eq_of_mem_set hx with h1 | h1
  · exact h x h1
  · subst h1; exact hv
set_option maxHeartbeats 1000000 in
theorem turned (a y : List Int) (ha : Byt a) (hy : Byt y) (i : Nat) (hi : i < (frameL a).length) (v : Int) (hv : 0 ≤ v ∧ v < 256) (hne : v ≠ rd (frameL a) (i : Int)) (h2 : (oneL ((frameL a).set i v ++ y)).2 = true) : (oneL ((frameL a).set i v ++ y)).1 ≠ a := by
  intro h1
  have hbD : Byt ((frameL a).set i v ++ y) := (byt_set (byt_frame ha) i v hv).append hy
  have htk : ((frameL a).set i v ++ y).take (8 + a.length) = (frameL a).set i v := List.take_left' (by rw [List.length_set, frameL_length])
  obtain ⟨D, hD⟩ : ∃ D, D = (frameL a).set i v ++ y := ⟨_, rfl⟩
  rw [← hD] at h1 h2 hbD htk
  have hfit := oneL_fits D h2
  rw [h1] at hfit
  have h8 : ¬ D.length < 8 := by omega
  have h4 := four_getL hbD (by omega)
  have hc : getL (D.take 4) > 32768 ∨ getL (D.take 4) > (D.length : Int) - 8 → False := fun hb => by
    rw [oneL, if_neg h8, if_pos hb] at h2; cases h2
  have e1 : oneL D = ((D.drop 8).take (getL (D.take 4)).toNat, decide (markL (strOfNums (D.take 4) ++ strOfNums ((D.drop 8).take (getL (D.take 4)).toNat)) = (D.drop 4).take 4)) := by
    rw [oneL, if_neg h8, if_neg hc]
  rw [e1] at h1 h2
  have h1 : (D.drop 8).take (getL (D.take 4)).toNat = a := h1
  have h2 := of_decide_eq_true h2
  obtain ⟨n, hn⟩ : ∃ n : Nat, getL (D.take 4) = (n : Int) := ⟨(getL (D.take 4)).toNat, by have := (getL_range (D.take 4)).1; omega⟩
  rw [h1] at h2
  rw [hn] at h1 h4
  rw [Int.toNat_natCast] at h1
  have hle : ¬ (n : Int) > (D.length : Int) - 8 := fun h => hc (.inr (by rw [hn]; exact h))
  have hal : a.length = n := by rw [← h1, List.length_take, List.length_drop]; clear hc; omega
  clear e1 hc hn
  subst hal
  have hsh := split_shape (D := D) (n := a.length) (by omega)
  rw [h1, ← h2, ← h4, htk] at hsh
  have hfr : frameL a = four (a.length : Int) ++ markL (strOfNums (four (a.length : Int)) ++ strOfNums a) ++ a := by rw [frameL]
  rw [← hfr] at hsh
  have hg : ((frameL a).set i v)[i]? = some v := by rw [List.getElem?_set_self hi]
  rw [hsh] at hg
  refine hne ?_
  simp [rd, List.getD_eq_getElem?_getD, hg]
theorem byt_one {D : List Int} (h : Byt D) : Byt (oneL D).1 := by
  unfold oneL
  split
  · intro x hx; cases hx
  · split
    · intro x hx; cases hx
    · exact (h.drop 8).take _
theorem splitL_head (D : List Int) (h : (splitL D).1.length ≠ 0) : (oneL D).2 = true ∧ rd_L3 (splitL D).1 0 = (oneL D).1 := by
  have hs : splitL D = if (oneL (D.drop 0)).2 = true then ((oneL (D.drop 0)).1 :: (splitF D.length D (0 + 8 + (oneL (D.drop 0)).1.length)).1, (splitF D.length D (0 + 8 + (oneL (D.drop 0)).1.length)).2) else ([], 0) := rfl
  rw [List.drop_zero] at hs
  by_cases h2 : (oneL D).2 = true
  · rw [if_pos h2] at hs
    refine ⟨h2, ?_⟩
    rw [hs]; rfl
  · rw [if_neg h2] at hs
    rw [hs] at h
    exact absurd rfl h
theorem FrameTurned : exequaturlaw11_FrameTurned.Pure := by
  intro l0 l1 a2 a3 _ _ h3 _ _ h6 h7 h8
  refine Ev.rounds (g := fun k => exequaturlaw11_FrameTurned.f k l0 l1 a2 a3) ?_
  have byt : ∀ {l : List Int}, (∀ x ∈ l, (Lit.int .u8 x).wf = true) → Byt l := fun {l} h x hx => by
    have := h x hx
    simp [Lit.wf, IntKind.min, IntKind.max, IntKind.signed, IntKind.bits] at this
    omega
  have hb0 := byt h3
  have hb1 := byt h6
  have ha2 : 0 ≤ a2 ∧ a2 < 65536 := by
    simp [Lit.wf, IntKind.min, IntKind.max, IntKind.signed, IntKind.bits] at h7; omega
  have ha3 : 0 ≤ a3 ∧ a3 < 256 := by
    simp [Lit.wf, IntKind.min, IntKind.max, IntKind.signed, IntKind.bits] at h8; omega
  have hj : Ev (fun k => exequaturlaw11_FrameTurned.j0 k l0 l1 a2 a3 true) true := Ev.step (fun k => by rw [exequaturlaw11_FrameTurned.j0]) (evPos rfl (evVal answers_is (evNow rfl)))
  by_cases c0 : (l0.length : Int) > 500
  · exact evPos c0 hj
  refine evNeg c0 ?_
  by_cases c1 : (l1.length : Int) > 500
  · exact evPos c1 hj
  refine evNeg c1 ?_
  by_cases c2 : a3 = 0
  · subst c2; exact hj
  have e3 : (a3 == 0) = false := beq_eq_false_iff_ne.mpr c2
  rw [e3]
  clear hj e3
  have hl0 : (frameL l0).length = 8 + l0.length := frameL_length l0
  have hl1 : (frameL l1).length = 8 + l1.length := frameL_length l1
  have hbf0 := byt_frame hb0
  have hbf1 := byt_frame hb1
  have htn := turned l0 (frameL l1) hb0 hbf1
  refine Ev.step (fun k => by rw [exequaturlaw11_FrameTurned.j0]) (evNeg (by simp) (evVal (rframe_is l0 (by omega)) (evVal (rframe_is l1 (by omega)) ?_)))
  obtain ⟨F0, hF0⟩ : ∃ F, F = frameL l0 := ⟨_, rfl⟩
  obtain ⟨F1, hF1⟩ : ∃ F, F = frameL l1 := ⟨_, rfl⟩
  rw [← hF0] at hl0 hbf0 htn ⊢
  rw [← hF1] at hl1 hbf1 htn ⊢
  clear hF0 hF1
  have w2 : wrap64 a2 = a2 := w64 (by omega) (by omega)
  rw [w2]
  obtain ⟨i, hi⟩ : ∃ i : Nat, a2.tmod (F0.length : Int) = (i : Int) := ⟨(a2.tmod (F0.length : Int)).toNat, by have := Int.tmod_nonneg (F0.length : Int) ha2.1; omega⟩
  have hlt : i < F0.length := by
    have := Int.tmod_lt_of_pos a2 (show (0 : Int) < F0.length by omega)
    omega
  rw [hi, Int.toNat_natCast]
  refine evNeg (by omega) (evPos (by omega) (evPos (by omega) ?_))
  have hx : 0 ≤ rd F0 (i : Int) ∧ rd F0 (i : Int) < 256 := by
    have : rd F0 (i : Int) ∈ F0 := by simp [rd, List.getD_eq_getElem?_getD, List.getElem?_eq_getElem hlt]
    exact hbf0 _ this
  obtain ⟨hv, hne⟩ := xor_byte hx ha3 c2
  have ht := htn i hlt _ hv hne
  have hbX := byt_set hbf0 i _ hv
  obtain ⟨v, hvv⟩ : ∃ v, v = Go.bits .xor .u8 (rd F0 (i : Int)) a3 := ⟨_, rfl⟩
  rw [← hvv] at ht hbX ⊢
  have hXl : (F0.set i v).length = F0.length := List.length_set
  obtain ⟨X, hX⟩ : ∃ X, X = F0.set i v := ⟨_, rfl⟩
  rw [← hX] at ht hbX hXl ⊢
  clear hX hvv hv hne hx htn
  refine evVal (a := X) rfl (evVal (a := []) rfl (evPos (by rw [List.length_nil]; omega) (evVal (a := X) rfl (evPos (by omega) (evVal (a := X ++ F1) rfl ?_)))))
  have hbD := hbX.append hbf1
  have hDl : (X ++ F1).length ≤ 2000 := by rw [List.length_append]; omega
  obtain ⟨D, hD⟩ : ∃ D, D = X ++ F1 := ⟨_, rfl⟩
  rw [← hD] at ht hbD hDl ⊢
  clear hD
  have hc : (splitL D).1.length ≤ 1000000000 := Nat.le_trans (split_count (D.length + 1) D 0) (by omega)
  refine evVal (a := ((splitL D).1, ((splitL D).2 : Int))) (if_pos (by omega)) ?_
  refine Ev.bind (rsplit_is D hbD (by omega)) (evVal answers_is (evPos rfl ?_))
  refine Ev.bind (same_self _ hc) (evPos rfl (evPos rfl ?_))
  by_cases hz : ((splitL D).1.length : Int) = 0
  · exact evPos hz (evNow rfl)
  · refine evNeg hz (evPos (show (0 : Int) < ((splitL D).1.length : Int) by omega) (evNow ?_))
    obtain ⟨h2, he⟩ := splitL_head D (by omega)
    rw [he]
    refine bne_iff_ne.mpr fun hq => ht h2 ?_
    exact strOf_inj (byt_one hbD) hb0 hq
end Go.Proofs.YtkmnbnfkpccobaaDoor.Pure
