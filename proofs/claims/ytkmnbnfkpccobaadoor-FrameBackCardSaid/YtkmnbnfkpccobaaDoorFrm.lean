/- Frames: what both texts answer, in plain lists of bytes. -/
import Derived.Test.YtkmnbnfkpccobaaDoorQ6
import Derived.Test.YtkmnbnfkpccobaaDoorEv
import Derived.Test.YtkmnbnfkpccobaaDoorHsh
set_option linter.unusedVariables false
set_option linter.unusedSimpArgs false
namespace Go.Proofs.YtkmnbnfkpccobaaDoor.X
open Go.RowKit Go.Proofs.YtkmnbnfkpccobaaDoorW.PrintWords Go.Proofs.YtkmnbnfkpccobaaDoorW.PrintMore Go.Proofs.YtkmnbnfkpccobaaDoor.Q

/-- Whole numbers that are bytes. -/
def Byt (l : List Int) : Prop := ∀ x ∈ l, 0 ≤ x ∧ x < 256
theorem Byt.take {l : List Int} (h : Byt l) (n : Nat) : Byt (l.take n) := fun x hx => h x (List.mem_of_mem_take hx)
theorem Byt.drop {l : List Int} (h : Byt l) (n : Nat) : Byt (l.drop n) := fun x hx => h x (List.mem_of_mem_drop hx)
theorem Byt.append {a b : List Int} (h : Byt a) (h' : Byt b) : Byt (a ++ b) := fun x hx => (List.mem_append.1 hx).elim (h x) (h' x)
theorem byt_four (v : Int) : Byt (four v) := by
  intro x hx
  simp only [four, List.mem_cons, List.not_mem_nil, or_false] at hx
  rcases hx with rfl | rfl | rfl | rfl <;> omega
theorem byt_bytesOf (s : ByteArray) : Byt (bytesOf s) := by
  intro x hx
  simp only [bytesOf, List.mem_map] at hx
  obtain ⟨b, _, rfl⟩ := hx
  have := UInt8.toNat_lt b
  omega
theorem byt_mark (s : ByteArray) : Byt (markL s) := (byt_bytesOf _).take 4
theorem byt_frame {l : List Int} (h : Byt l) : Byt (frameL l) := ((byt_four _).append (byt_mark _)).append h
theorem strOf_inj {a b : List Int} (ha : Byt a) (hb : Byt b) (h : (strOfNums a).toList = (strOfNums b).toList) : a = b := by
  have hm : ∀ {l : List Int}, Byt l → ((strOfNums l).data.toList).map (fun c => (c.toNat : Int)) = l := by
    intro l hl
    simp only [strOfNums, List.map_map]
    conv => rhs; rw [← List.map_id l]
    refine List.map_congr_left fun x hx => ?_
    have := hl x hx
    simp only [Function.comp_apply, id_eq, UInt8.toNat_ofNat']
    omega
  rw [← hm ha, ← hm hb]
  rw [bytes_list.1 h]
/-- The number of four bytes. -/
theorem getL_cons {a b c d : Int} (r : List Int) (h : Byt (a :: b :: c :: d :: r)) : getL ((a :: b :: c :: d :: r).take 4) = a * 16777216 + b * 65536 + c * 256 + d := by
  have ha := h a (by simp); have hb := h b (by simp); have hc := h c (by simp); have hd := h d (by simp)
  have := getL_four a.toNat b.toNat c.toNat d.toNat (by omega) (by omega) (by omega) (by omega)
  rw [Int.toNat_of_nonneg ha.1, Int.toNat_of_nonneg hb.1, Int.toNat_of_nonneg hc.1, Int.toNat_of_nonneg hd.1] at this
  exact this
theorem four_getL {l : List Int} (h : Byt l) (hl : 4 ≤ l.length) : four (getL (l.take 4)) = l.take 4 := by
  match l, hl, h with
  | a :: b :: c :: d :: r, _, h =>
    have ha := h a (by simp); have hb := h b (by simp); have hc := h c (by simp); have hd := h d (by simp)
    rw [getL_cons r h]
    simp only [four, List.take_succ_cons, List.take_zero, List.cons.injEq, and_true]
    omega
theorem number_is {l : List Int} (h : Byt l) (hl : 4 ≤ l.length) : exequaturref10_number.f l = some (getL (l.take 4)) := by
  match l, hl, h with
  | a :: b :: c :: d :: r, _, h =>
    have ha := h a (by simp); have hb := h b (by simp); have hc := h c (by simp); have hd := h d (by simp)
    unfold exequaturref10_number.f
    have e0 : rd (a :: b :: c :: d :: r) 0 = a := rfl
    have e1 : rd (a :: b :: c :: d :: r) 1 = b := rfl
    have e2 : rd (a :: b :: c :: d :: r) 2 = c := rfl
    have e3 : rd (a :: b :: c :: d :: r) 3 = d := rfl
    simp only [List.length_cons] at *
    rw [if_pos (by omega), if_pos (by omega), if_pos (by omega), if_pos (by omega), e0, e1, e2, e3, getL_cons r h]
    congr 1
    rw [w64 (x := a) (by omega) (by omega), w64 (x := b) (by omega) (by omega), w64 (x := c) (by omega) (by omega), w64 (x := d) (by omega) (by omega)]
    rw [w64 (x := a * 16777216) (by omega) (by omega), w64 (x := b * 65536) (by omega) (by omega), w64 (x := c * 256) (by omega) (by omega)]
    rw [w64 (x := a * 16777216 + b * 65536) (by omega) (by omega), w64 (x := a * 16777216 + b * 65536 + c * 256) (by omega) (by omega), w64 (by omega) (by omega)]
theorem rframe_is (l : List Int) (hl : l.length ≤ 100000000) : exequaturref10_Frame.f l = some (frameL l) := by
  unfold exequaturref10_Frame.f
  have hf : exequaturref10_Four.f (l.length : Int) = some (four (l.length : Int)) := rfl
  have h4 : (four (l.length : Int)).length = 4 := rfl
  have s1 : (strOfNums (four (l.length : Int))).size = 4 := by rw [strOfNums_size]; rfl
  have s2 : (strOfNums l).size = l.length := strOfNums_size l
  rw [hf, Option.bind_some, s1, s2, if_pos (by omega)]
  unfold exequaturref01_Sum.f
  rw [if_pos (by rw [ByteArray.size_append, s1, s2]; omega), Option.bind_some]
  have s3 := sumS_size (strOfNums (four (l.length : Int)) ++ strOfNums l).data.toList
  have hm : bytesOf ((sumS (strOfNums (four (l.length : Int)) ++ strOfNums l).data.toList).extract 0 4) = markL (strOfNums (four (l.length : Int)) ++ strOfNums l) := by
    unfold markL bytesOf
    rw [ByteArray.data_extract, Array.toList_extract, List.extract_eq_take_drop, List.drop_zero, List.map_take]
  rw [if_pos (by decide), if_pos (by omega), if_pos (by rw [h4, ByteArray.size_extract]; omega), Option.bind_some, hm, if_pos (by rw [List.length_append, h4, markL_length]; omega)]
  rfl
theorem same_self (a : List (List Int)) (ha : a.length ≤ 1000000000) : Ev (fun k => exequaturlaw11_same.f k a a) true := by
  have hl : ∀ d i, a.length = i + d → Ev (fun k => exequaturlaw11_same.l0 k a a (i : Int)) true := by
    intro d
    induction d with
    | zero =>
      intro i h
      exact Ev.step (fun k => by rw [exequaturlaw11_same.l0]) (evNeg (by omega) (evNow rfl))
    | succ d ih =>
      intro i h
      refine Ev.step (fun k => by rw [exequaturlaw11_same.l0]) (evPos (by omega) (evPos (by omega) (evPos (by omega) (evPos rfl ?_))))
      rw [w64 (by omega) (by omega)]
      exact ih (i + 1) (by omega)
  unfold exequaturlaw11_same.f
  exact evPos rfl (hl a.length 0 (by omega))
theorem answers_is : exequaturlaw11_answers.f = some true := rfl
theorem split_shape {D : List Int} {n : Nat} (h8 : 8 + n ≤ D.length) : D.take (8 + n) = D.take 4 ++ (D.drop 4).take 4 ++ (D.drop 8).take n := by
  have e1 : D.take 8 = D.take 4 ++ (D.drop 4).take 4 := by rw [show 8 = 4 + 4 from rfl, List.take_add]
  rw [List.take_add, e1]
theorem cut_in (x : List Int) (i n : Nat) : (x.take (i + (8 + n))).drop (i + 8) = ((x.drop i).drop 8).take n := by
  rw [List.drop_drop, List.drop_take, show i + (8 + n) - (i + 8) = n by omega]
theorem cut_fr (x : List Int) (i n : Nat) : (x.take (i + (8 + n))).drop i = (x.drop i).take (8 + n) := by
  rw [List.drop_take, show i + (8 + n) - i = 8 + n by omega]
theorem tn1 (i n : Nat) : ((i : Int) + 8 + (n : Int)).toNat = i + (8 + n) := by omega
theorem tn2 (i : Nat) : ((i : Int) + 8).toNat = i + 8 := by omega
theorem wsum (i k : Nat) (h : i ≤ 100000000) (hk : k ≤ 1000) : wrap64 ((i : Int) + (k : Int)) = (i : Int) + k := w64 (by omega) (by omega)
theorem wsum3 (i n : Nat) (h : i ≤ 100000000) (hn : n ≤ 32768) : wrap64 ((i : Int) + 8 + (n : Int)) = (i : Int) + 8 + n := w64 (by omega) (by omega)
set_option maxHeartbeats 400000 in
theorem rsplit_loop (x : List Int) (hb : Byt x) (hx : x.length ≤ 100000000) : ∀ (m i : Nat) (out : List (List Int)), i ≤ x.length → x.length < i + m → out.length ≤ i →
    Ev (fun k => exequaturref10_Split.l0 k x out (i : Int)) (out ++ (splitF m x i).1, ((splitF m x i).2 : Int)) := by
  intro m
  induction m with
  | zero => intro i out h1 h2; omega
  | succ m ih =>
    intro i out hi hm ho
    have hs : splitF (m + 1) x i = if (oneL (x.drop i)).2 = true then ((oneL (x.drop i)).1 :: (splitF m x (i + 8 + (oneL (x.drop i)).1.length)).1, (splitF m x (i + 8 + (oneL (x.drop i)).1.length)).2) else ([], i) := rfl
    have hdl : (x.drop i).length = x.length - i := List.length_drop
    have hbd : Byt (x.drop i) := hb.drop i
    refine Ev.step (fun k => by rw [exequaturref10_Split.l0]) ?_
    have w1 : wrap64 ((x.length : Int) - (i : Int)) = (x.length : Int) - i := w64 (by omega) (by omega)
    by_cases h8 : (x.drop i).length < 8
    · rw [hs, show oneL (x.drop i) = ([], false) from if_pos h8, if_neg (by decide)]
      exact evNeg (by rw [w1]; omega) (evNow (by simp))
    · refine evPos (by rw [w1]; omega) (evPos (by omega) (evPos (by omega) ?_))
      refine evVal (a := getL ((x.drop i).take 4)) (by rw [Int.toNat_natCast]; exact number_is hbd (by omega)) ?_
      obtain ⟨n, hn⟩ : ∃ n : Nat, getL ((x.drop i).take 4) = (n : Int) := ⟨(getL ((x.drop i).take 4)).toNat, by have := (getL_range ((x.drop i).take 4)).1; omega⟩
      have w2 : wrap64 (wrap64 ((x.length : Int) - (i : Int)) - 8) = (x.length : Int) - i - 8 := by rw [w1]; exact w64 (by omega) (by omega)
      have hst : ∀ b, (b = true → oneL (x.drop i) = ([], false)) → (b = false → n ≤ 32768 ∧ 8 + n ≤ (x.drop i).length) → Ev (fun k => exequaturref10_Split.j1 k x out (i : Int) (getL ((x.drop i).take 4)) b) (out ++ (splitF (m + 1) x i).1, ((splitF (m + 1) x i).2 : Int)) := by
        intro b hbt hbf
        refine Ev.step (fun k => by rw [exequaturref10_Split.j1]) ?_
        by_cases hbb : b = true
        · rw [hs, hbt hbb, if_neg (by decide)]
          exact evPos hbb (evNow (by simp))
        · obtain ⟨hn1, hn2⟩ := hbf (by simpa using hbb)
          clear hbt hbf
          have hi9 : i ≤ 100000000 := Nat.le_trans hi hx
          have w3 : wrap64 ((i : Int) + 8) = (i : Int) + 8 := wsum i 8 hi9 (by decide)
          have w4 : wrap64 ((i : Int) + 8 + (n : Int)) = (i : Int) + 8 + n := wsum3 i n hi9 hn1
          rw [hn]
          rw [w3, w4, tn1, tn2, Int.toNat_natCast]
          rw [cut_in, cut_fr]
          obtain ⟨D, hD⟩ : ∃ D, D = x.drop i := ⟨_, rfl⟩
          rw [← hD] at hs hdl hbd h8 hn hn2 ⊢
          have hinl : ((D.drop 8).take n).length = n := by rw [List.length_take, List.length_drop]; omega
          have h4 : four (n : Int) = D.take 4 := by rw [← hn]; exact four_getL hbd (by omega)
          have ho1 : oneL D = ((D.drop 8).take n, decide (markL (strOfNums (D.take 4) ++ strOfNums ((D.drop 8).take n)) = (D.drop 4).take 4)) := by
            rw [oneL, if_neg h8, if_neg (by omega), hn, Int.toNat_natCast]
          have hfl : frameL ((D.drop 8).take n) = D.take 4 ++ markL (strOfNums (D.take 4) ++ strOfNums ((D.drop 8).take n)) ++ (D.drop 8).take n := by
            rw [frameL, hinl, h4]
          have hml := markL_length (strOfNums (D.take 4) ++ strOfNums ((D.drop 8).take n))
          obtain ⟨M, hM⟩ : ∃ M, M = markL (strOfNums (D.take 4) ++ strOfNums ((D.drop 8).take n)) := ⟨_, rfl⟩
          have hbM : Byt M := by rw [hM]; exact byt_mark _
          rw [← hM] at ho1 hfl hml
          refine evNeg hbb (evPos (by omega) (evPos (by omega) (evPos (by omega) ?_)))
          refine evVal (a := (D.drop 8).take n) rfl ?_
          refine evVal (a := frameL ((D.drop 8).take n)) (rframe_is _ (by rw [hinl]; omega)) ?_
          refine evPos (by omega) (evPos (by omega) ?_)
          by_cases hmk : M = (D.drop 4).take 4
          · refine evPos (by rw [hfl, hmk, split_shape hn2]) (evPos (by omega) ?_)
            have hr := ih (i + 8 + n) (out ++ [(D.drop 8).take n]) (by omega) (by omega) (by rw [List.length_append, List.length_singleton]; omega)
            rw [show ((i + 8 + n : Nat) : Int) = (i : Int) + 8 + n by omega] at hr
            refine evEq hr ?_
            rw [hs, ho1, if_pos (by simpa using hmk), hinl]
            simp
          · refine evNeg (fun h => hmk ?_) (evNow ?_)
            · have hbi : Byt ((D.drop 8).take n) := (hbd.drop 8).take n
              have h2 := strOf_inj (by rw [hfl]; exact ((hbd.take 4).append hbM).append hbi) (hbd.take _) h
              rw [hfl, split_shape hn2] at h2
              have h3 := List.append_cancel_right h2
              exact List.append_cancel_left h3
            · rw [hs, ho1, if_neg (by simpa using hmk)]; simp
      by_cases hbig : getL ((x.drop i).take 4) > 32768
      · exact evPos hbig (hst true (fun _ => by rw [oneL, if_neg h8, if_pos (.inl hbig)]) (fun h => by cases h))
      · refine evNeg hbig ?_
        rw [w2]
        refine hst _ (fun h => ?_) (fun h => ?_)
        · have := of_decide_eq_true h
          rw [oneL, if_neg h8, if_pos (.inr (by omega))]
        · have := of_decide_eq_false h
          constructor <;> omega
theorem rsplit_is (x : List Int) (hb : Byt x) (hx : x.length ≤ 100000000) : Ev (fun k => exequaturref10_Split.f k x) ((splitL x).1, ((splitL x).2 : Int)) := by
  have h := rsplit_loop x hb hx (x.length + 1) 0 [] (by omega) (by omega) (by simp)
  rw [List.nil_append] at h
  exact h
theorem split_count (m : Nat) (l : List Int) (i : Nat) : (splitF m l i).1.length ≤ m := by
  induction m generalizing i with
  | zero => exact Nat.le_refl _
  | succ m ih =>
    unfold splitF
    split
    · simp only [List.length_cons]; have := ih (i + 8 + (oneL (l.drop i)).1.length); omega
    · simp
end Go.Proofs.YtkmnbnfkpccobaaDoor.X
