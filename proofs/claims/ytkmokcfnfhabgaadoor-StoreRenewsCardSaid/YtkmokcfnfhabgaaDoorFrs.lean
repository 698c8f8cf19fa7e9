/- Frames and records: back again, in plain lists. -/
import Derived.Test.YtkmokcfnfhabgaaDoorDoo
import Derived.Test.YtkmokcfnfhabgaaDoorOpn
import Derived.Test.YtkmokcfnfhabgaaDoorEv
set_option linter.unusedVariables false
set_option linter.unusedSimpArgs false
namespace Go.Proofs.YtkmokcfnfhabgaaDoor.X
open Go.RowKit Go.Maps Go.Proofs.YtkmokcfnfhabgaaDoorW.PrintWords Go.Proofs.YtkmokcfnfhabgaaDoorW.PrintLast Go.Proofs.YtkmokcfnfhabgaaDoorW.PrintMore Go.Proofs.YtkmokcfnfhabgaaDoor.Q

def Byt (l : List Int) : Prop := ∀ x ∈ l, 0 ≤ x ∧ x < 256
theorem Byt.take {l : List Int} (h : Byt l) (n : Nat) : Byt (l.take n) := fun x hx => h x (List.mem_of_mem_take hx)
theorem Byt.drop {l : List Int} (h : Byt l) (n : Nat) : Byt (l.drop n) := fun x hx => h x (List.mem_of_mem_drop hx)
theorem Byt.append {a b : List Int} (h : Byt a) (h' : Byt b) : Byt (a ++ b) := fun x hx => (List.mem_append.1 hx).elim (h x) (h' x)
theorem byt_four (v : Int) : Byt (four v) := by
  intro x hx
  simp only [four, List.mem_cons, List.not_mem_nil, or_false] at hx
  rcases hx with rfl | rfl | rfl | rfl <;> omega
theorem byt_bytesOf (s : ByteArray) : Byt (bytesOf s) := by
  intro x hx
  simp only [bytesOf, List.mem_map] at hx
  obtain ⟨b, _, rfl⟩ := hx
  have := UInt8.toNat_lt b
  omega
theorem byt_mark (s : ByteArray) : Byt (markL s) := (byt_bytesOf _).take 4
theorem byt_frame {l : List Int} (h : Byt l) : Byt (frameL l) := ((byt_four _).append (byt_mark _)).append h
theorem strOf_inj {a b : List Int} (ha : Byt a) (hb : Byt b) (h : (strOfNums a).toList = (strOfNums b).toList) : a = b := by
  have hm : ∀ {l : List Int}, Byt l → ((strOfNums l).data.toList).map (fun c => (c.toNat : Int)) = l := by
    intro l hl
    simp only [strOfNums, List.map_map]
    conv => rhs; rw [← List.map_id l]
    refine List.map_congr_left fun x hx => ?_
    have := hl x hx
    simp only [Function.comp_apply, id_eq, UInt8.toNat_ofNat']
    omega
  rw [← hm ha, ← hm hb]
  rw [bytes_list.1 h]
/-- The number of four bytes. -/
theorem getL_cons {a b c d : Int} (r : List Int) (h : Byt (a :: b :: c :: d :: r)) : getL ((a :: b :: c :: d :: r).take 4) = a * 16777216 + b * 65536 + c * 256 + d := by
  have ha := h a (by simp); have hb := h b (by simp); have hc := h c (by simp); have hd := h d (by simp)
  have := getL_four a.toNat b.toNat c.toNat d.toNat (by omega) (by omega) (by omega) (by omega)
  rw [Int.toNat_of_nonneg ha.1, Int.toNat_of_nonneg hb.1, Int.toNat_of_nonneg hc.1, Int.toNat_of_nonneg hd.1] at this
  exact this
theorem four_getL {l : List Int} (h : Byt l) (hl : 4 ≤ l.length) : four (getL (l.take 4)) = l.take 4 := by
  match l, hl, h with
  | a :: b :: c :: d :: r, _, h =>
    have ha := h a (by simp); have hb := h b (by simp); have hc := h c (by simp); have hd := h d (by simp)
    rw [getL_cons r h]
    simp only [four, List.take_succ_cons, List.take_zero, List.cons.injEq, and_true]
    omega
theorem frame_len (a : List Int) : (frameL a).length = 8 + a.length := by
  simp only [frameL, List.length_append, markL_length]
  simp [four]
theorem frame_parts (a r : List Int) : frameL a ++ r = four (a.length : Int) ++ (markL (strOfNums (four (a.length : Int)) ++ strOfNums a) ++ (a ++ r)) := by simp [frameL, List.append_assoc]
theorem frame_take4 (a r : List Int) : (frameL a ++ r).take 4 = four (a.length : Int) := by rw [frame_parts]; exact List.take_left' rfl
theorem frame_drop4 (a r : List Int) : (frameL a ++ r).drop 4 = markL (strOfNums (four (a.length : Int)) ++ strOfNums a) ++ (a ++ r) := by rw [frame_parts]; exact List.drop_left' rfl
theorem frame_drop8 (a r : List Int) : (frameL a ++ r).drop 8 = a ++ r := by
  rw [show 8 = 4 + 4 from rfl, ← List.drop_drop, frame_drop4]; exact List.drop_left' (markL_length _)
theorem getL_len (n : Nat) (h : n < 4294967296) : getL (four (n : Int)) = (n : Int) := by
  have hb : Byt (four (n : Int)) := byt_four _
  have := getL_cons (a := (n : Int) / 16777216 % 256) (b := (n : Int) / 65536 % 256) (c := (n : Int) / 256 % 256) (d := (n : Int) % 256) [] hb
  rw [show four (n : Int) = (((n : Int) / 16777216 % 256) :: ((n : Int) / 65536 % 256) :: ((n : Int) / 256 % 256) :: ((n : Int) % 256) :: []).take 4 from rfl, this]
  omega
theorem oneL_frame (a r : List Int) (h : a.length ≤ 32768) : oneL (frameL a ++ r) = (a, true) := by
  have h8 : ¬ (frameL a ++ r).length < 8 := by rw [List.length_append, frame_len]; omega
  have hg : getL ((frameL a ++ r).take 4) = (a.length : Int) := by rw [frame_take4]; exact getL_len _ (by omega)
  have hd : (frameL a ++ r).drop 8 = a ++ r := frame_drop8 a r
  have h4 : ((frameL a ++ r).drop 4).take 4 = markL (strOfNums (four (a.length : Int)) ++ strOfNums a) := by
    rw [frame_drop4]; exact List.take_left' (markL_length _)
  have ht : (frameL a ++ r).take 4 = four (a.length : Int) := frame_take4 a r
  have hl : (frameL a ++ r).length = 8 + a.length + r.length := by rw [List.length_append, frame_len]
  have hta : (a ++ r).take a.length = a := List.take_left
  rw [oneL, if_neg h8, hg, if_neg (by omega), hd, h4, ht, Int.toNat_natCast, hta, decide_eq_true rfl]
/-- What is cut off from a frame is none. -/
theorem oneL_part (a : List Int) (h : a.length ≤ 32768) (j : Nat) (hj : j < 8 + a.length) : (oneL ((frameL a).take j)).2 = false := by
  have hl : ((frameL a).take j).length = j := by rw [List.length_take, frame_len]; omega
  by_cases h8 : j < 8
  · rw [oneL, if_pos (by omega)]
  · have ht : ((frameL a).take j).take 4 = four (a.length : Int) := by
      have := frame_take4 a []
      rw [List.append_nil] at this
      rw [List.take_take, show min 4 j = 4 by omega, this]
    rw [oneL, if_neg (by omega), ht, getL_len _ (by omega), hl, if_pos (.inr (by omega))]
/-- Frames one behind the other. -/
def fr (l : List (List Int)) : List Int := l.flatMap frameL
theorem fr_nil : fr [] = [] := rfl
theorem fr_cons (a : List Int) (l : List (List Int)) : fr (a :: l) = frameL a ++ fr l := rfl
theorem fr_append (l m : List (List Int)) : fr (l ++ m) = fr l ++ fr m := List.flatMap_append
theorem fr_len (l : List (List Int)) (h : ∀ a ∈ l, a.length ≤ 32768) : 8 * l.length ≤ (fr l).length ∧ (fr l).length ≤ 32776 * l.length := by
  induction l with
  | nil => simp [fr]
  | cons a l ih =>
    have ih := ih fun b hb => h b (List.mem_cons_of_mem _ hb)
    have ha := h a (List.mem_cons_self ..)
    rw [fr_cons, List.length_append, frame_len, List.length_cons]
    omega
theorem byt_fr (l : List (List Int)) (h : ∀ a ∈ l, Byt a) : Byt (fr l) := by
  induction l with
  | nil => intro x hx; simp [fr] at hx
  | cons a l ih => rw [fr_cons]; exact (byt_frame (h a (List.mem_cons_self ..))).append (ih fun b hb => h b (List.mem_cons_of_mem _ hb))
theorem take_getD (l : List (List Int)) (i : Nat) (h : i < l.length) : l.take (i + 1) = l.take i ++ [l.getD i []] := by
  rw [List.take_add_one]
  simp [List.getD_eq_getElem?_getD, List.getElem?_eq_getElem h]
theorem fr_take (l : List (List Int)) (i : Nat) (h : i < l.length) : fr (l.take (i + 1)) = fr (l.take i) ++ frameL (l.getD i []) := by
  rw [take_getD l i h, fr_append, fr_cons, fr_nil, List.append_nil]
theorem splitF_step (m : Nat) (x : List Int) (i : Nat) : splitF (m + 1) x i = if (oneL (x.drop i)).2 = true then ((oneL (x.drop i)).1 :: (splitF m x (i + 8 + (oneL (x.drop i)).1.length)).1, (splitF m x (i + 8 + (oneL (x.drop i)).1.length)).2) else ([], i) := rfl
theorem splitF_frames (r : List Int) (m : Nat) : ∀ (l : List (List Int)) (pre : List Int), (∀ a ∈ l, a.length ≤ 32768) →
    splitF (m + l.length) (pre ++ (fr l ++ r)) pre.length = (l ++ (splitF m (pre ++ (fr l ++ r)) (pre.length + (fr l).length)).1, (splitF m (pre ++ (fr l ++ r)) (pre.length + (fr l).length)).2) := by
  intro l
  induction l with
  | nil => intro pre _; simp [fr]
  | cons a l ih =>
    intro pre h
    have ha := h a (List.mem_cons_self ..)
    have hd : (pre ++ (fr (a :: l) ++ r)).drop pre.length = frameL a ++ (fr l ++ r) := by rw [List.drop_left, fr_cons, List.append_assoc]
    have hx : pre ++ (fr (a :: l) ++ r) = (pre ++ frameL a) ++ (fr l ++ r) := by rw [fr_cons]; simp [List.append_assoc]
    have ih := ih (pre ++ frameL a) fun b hb => h b (List.mem_cons_of_mem _ hb)
    rw [← hx, List.length_append, frame_len] at ih
    rw [List.length_cons, show m + (l.length + 1) = (m + l.length) + 1 from rfl, splitF_step, hd, oneL_frame a _ ha]
    simp only [if_true]
    rw [show pre.length + 8 + a.length = pre.length + (8 + a.length) by omega, ih]
    have e : pre.length + (8 + a.length) + (fr l).length = pre.length + (fr (a :: l)).length := by rw [fr_cons, List.length_append, frame_len]; omega
    rw [e]
    rfl
theorem splitL_more (l : List (List Int)) (r : List Int) (h : ∀ a ∈ l, a.length ≤ 32768) : l.length ≤ (splitL (fr l ++ r)).1.length := by
  have hl := (fr_len l h).1
  have hs := splitF_frames r ((fr l ++ r).length + 1 - l.length) l [] h
  rw [show (fr l ++ r).length + 1 - l.length + l.length = (fr l ++ r).length + 1 by rw [List.length_append]; omega] at hs
  simp only [List.nil_append, List.length_nil] at hs
  rw [splitL, hs, List.length_append]
  omega
theorem splitL_frames (l : List (List Int)) (r : List Int) (h : ∀ a ∈ l, a.length ≤ 32768) (hr : (oneL r).2 = false) : splitL (fr l ++ r) = (l, (fr l).length) := by
  have hl := (fr_len l h).1
  obtain ⟨m, hm⟩ : ∃ m, (fr l ++ r).length + 1 = (m + 1) + l.length := ⟨(fr l ++ r).length - l.length, by rw [List.length_append]; omega⟩
  have hs := splitF_frames r (m + 1) l [] h
  simp only [List.nil_append, List.length_nil, Nat.zero_add] at hs
  have hd : (fr l ++ r).drop (fr l).length = r := List.drop_left
  rw [splitL, hm, hs, splitF_step, hd, hr]
  simp
theorem oneL_nil : (oneL []).2 = false := rfl
theorem splitL_all (l : List (List Int)) (h : ∀ a ∈ l, a.length ≤ 32768) : splitL (fr l) = (l, (fr l).length) := by
  have := splitL_frames l [] h oneL_nil
  rwa [List.append_nil] at this

theorem four_len (n : Int) : (four n).length = 4 := rfl
theorem rnumL_four (n : Nat) (r : List Int) (hn : n < 4294967296) : rnumL (four (n : Int) ++ r) false = ((n : Int), r, false) := by
  have h4 : ¬ (four (n : Int) ++ r).length < 4 := by rw [List.length_append, four_len]; omega
  have e : rnumL (four (n : Int) ++ r) false = (getL ((four (n : Int) ++ r).take 4), (four (n : Int) ++ r).drop 4, false) := if_neg h4
  rw [e, List.take_left' (four_len _), List.drop_left' (four_len _), getL_len n hn]
theorem strOfNums_bytes (s : ByteArray) : strOfNums (bytesOf s) = s := by
  apply ByteArray.ext
  apply Array.toList_inj.1
  simp only [strOfNums, bytesOf, List.map_map]
  conv => rhs; rw [← List.map_id s.data.toList]
  refine List.map_congr_left fun x hx => ?_
  simp
theorem rtextL_four (s : ByteArray) (r : List Int) (hs : s.size < 4294967296) : rtextL (four (s.size : Int) ++ (bytesOf s ++ r)) false = (s, r, false) := by
  have h1 := rnumL_four s.size (bytesOf s ++ r) hs
  have e : rtextL (four (s.size : Int) ++ (bytesOf s ++ r)) false = (strOfNums ((bytesOf s ++ r).take (s.size : Int).toNat), (bytesOf s ++ r).drop (s.size : Int).toNat, false) := by
    unfold rtextL
    rw [h1]
    refine if_neg ?_
    simp only [Bool.false_eq_true, false_or, List.length_append, bytesOf_length]
    omega
  rw [e, Int.toNat_natCast, List.take_left' (bytesOf_length s), List.drop_left' (bytesOf_length s), strOfNums_bytes]
/-- A change, as a record says it: a row that is gone has no value. -/
def normC (c : S49) : S49 := if c.f2 = true then ⟨c.f0, ⟨#[]⟩, true⟩ else ⟨c.f0, c.f1, false⟩
theorem oneC_chg (c : S49) (r : List Int) (h0 : c.f0.size < 4294967296) (h1 : c.f1.size < 4294967296) : oneC (chgL c ++ r) false = (normC c, r, false) := by
  obtain ⟨k, v, g⟩ := c
  cases g with
  | true =>
    have e : chgL ⟨k, v, true⟩ ++ r = four ((1 : Nat) : Int) ++ (four (k.size : Int) ++ (bytesOf k ++ (four ((⟨#[]⟩ : ByteArray).size : Int) ++ (bytesOf ⟨#[]⟩ ++ r)))) := by
      simp only [chgL, if_true, List.append_nil, List.append_assoc]
      rfl
    rw [e]
    simp only [oneC]
    rw [rnumL_four 1 _ (by omega)]
    simp only
    rw [rtextL_four k _ h0]
    simp only
    rw [rtextL_four _ _ (by decide)]
    rfl
  | false =>
    have e : chgL ⟨k, v, false⟩ ++ r = four ((0 : Nat) : Int) ++ (four (k.size : Int) ++ (bytesOf k ++ (four (v.size : Int) ++ (bytesOf v ++ r)))) := by
      simp only [chgL, Bool.false_eq_true, if_false, List.append_assoc]
      rfl
    rw [e]
    simp only [oneC]
    rw [rnumL_four 0 _ (by omega)]
    simp only
    rw [rtextL_four k _ h0]
    simp only
    rw [rtextL_four v _ h1]
    rfl
theorem chF_rec (l : List S49) (r : List Int) (out : List S49) (h : ∀ c ∈ l, c.f0.size < 4294967296 ∧ c.f1.size < 4294967296) : chF l.length (l.flatMap chgL ++ r) false out = (out ++ l.map normC, false) := by
  induction l generalizing out with
  | nil => simp [chF]
  | cons c l ih =>
    have hc := h c (List.mem_cons_self ..)
    have e : chF (c :: l).length ((c :: l).flatMap chgL ++ r) false out = chF l.length (oneC (chgL c ++ (l.flatMap chgL ++ r)) false).2.1 (oneC (chgL c ++ (l.flatMap chgL ++ r)) false).2.2 (out ++ [(oneC (chgL c ++ (l.flatMap chgL ++ r)) false).1]) := by
      rw [List.flatMap_cons, List.append_assoc]; rfl
    rw [e, oneC_chg c _ hc.1 hc.2, ih _ (fun x hx => h x (List.mem_cons_of_mem _ hx))]
    simp
theorem chL_rec (l : List S49) (hl : l.length < 4294967296) (h : ∀ c ∈ l, c.f0.size < 4294967296 ∧ c.f1.size < 4294967296) : chL (recL l) = (l.map normC, false) := by
  have e : recL l = four (l.length : Int) ++ (l.flatMap chgL ++ []) := by rw [List.append_nil]; rfl
  unfold chL
  rw [e, rnumL_four _ _ hl]
  simp only [Int.toNat_natCast]
  rw [chF_rec l [] [] h]
  rfl
theorem chgL_norm (c : S49) : chgL (normC c) = chgL c := by
  obtain ⟨k, v, g⟩ := c
  cases g <;> rfl
theorem recL_norm (l : List S49) : recL (l.map normC) = recL l := by
  unfold recL
  rw [List.length_map, List.flatMap_map]
  congr 2
  funext c; exact chgL_norm c
theorem chOk_rec (l : List S49) (hl : l.length < 4294967296) (h : ∀ c ∈ l, c.f0.size < 4294967296 ∧ c.f1.size < 4294967296) : chOk (recL l) = true := by
  unfold chOk
  rw [chL_rec l hl h, recL_norm]
  simp
theorem turnD_norm (D : DataW Unit) (l : List S49) : turnD D (l.map normC) = turnD D l := by
  unfold turnD
  rw [List.foldl_map]
  congr 1
  funext D c
  obtain ⟨k, v, g⟩ := c
  cases g <;> rfl
/-- How records turn rows. -/
theorem openD_recs (ls : List (List S49)) (D : DataW Unit) (hl : ∀ l ∈ ls, l.length < 4294967296 ∧ ∀ c ∈ l, c.f0.size < 4294967296 ∧ c.f1.size < 4294967296) : openD (ls.map recL) D = some (ls.foldl turnD D) := by
  induction ls generalizing D with
  | nil => rfl
  | cons l ls ih =>
    have h := hl l (List.mem_cons_self ..)
    rw [List.map_cons, openD, chOk_rec l h.1 h.2, if_pos rfl, chL_rec l h.1 h.2, turnD_norm, ih _ (fun x hx => hl x (List.mem_cons_of_mem _ hx))]
    rfl
end Go.Proofs.YtkmokcfnfhabgaaDoor.X
