/- Frames one behind the other: what is split off them, in plain lists of bytes. -/
import Derived.Test.YtkmnbnfkpccobaaDoorFrm
set_option linter.unusedVariables false
set_option linter.unusedSimpArgs false
namespace Go.Proofs.YtkmnbnfkpccobaaDoor.X
open Go.RowKit Go.Proofs.YtkmnbnfkpccobaaDoorW.PrintWords Go.Proofs.YtkmnbnfkpccobaaDoorW.PrintMore Go.Proofs.YtkmnbnfkpccobaaDoor.Q

theorem frame_len (a : List Int) : (frameL a).length = 8 + a.length := by
  simp only [frameL, List.length_append, markL_length]
  simp [four]
theorem frame_parts (a r : List Int) : frameL a ++ r = four (a.length : Int) ++ (markL (strOfNums (four (a.length : Int)) ++ strOfNums a) ++ (a ++ r)) := by simp [frameL, List.append_assoc]
theorem frame_take4 (a r : List Int) : (frameL a ++ r).take 4 = four (a.length : Int) := by rw [frame_parts]; exact List.take_left' rfl
theorem frame_drop4 (a r : List Int) : (frameL a ++ r).drop 4 = markL (strOfNums (four (a.length : Int)) ++ strOfNums a) ++ (a ++ r) := by rw [frame_parts]; exact List.drop_left' rfl
theorem frame_drop8 (a r : List Int) : (frameL a ++ r).drop 8 = a ++ r := by
  rw [show 8 = 4 + 4 from rfl, ← List.drop_drop, frame_drop4]; exact List.drop_left' (markL_length _)
theorem getL_len (n : Nat) (h : n < 4294967296) : getL (four (n : Int)) = (n : Int) := by
  have hb : Byt (four (n : Int)) := byt_four _
  have := getL_cons (a := (n : Int) / 16777216 % 256) (b := (n : Int) / 65536 % 256) (c := (n : Int) / 256 % 256) (d := (n : Int) % 256) [] hb
  rw [show four (n : Int) = (((n : Int) / 16777216 % 256) :: ((n : Int) / 65536 % 256) :: ((n : Int) / 256 % 256) :: ((n : Int) % 256) :: []).take 4 from rfl, this]
  omega
theorem oneL_frame (a r : List Int) (h : a.length ≤ 1000) : oneL (frameL a ++ r) = (a, true) := by
  have h8 : ¬ (frameL a ++ r).length < 8 := by rw [List.length_append, frame_len]; omega
  have hg : getL ((frameL a ++ r).take 4) = (a.length : Int) := by rw [frame_take4]; exact getL_len _ (by omega)
  have hd : (frameL a ++ r).drop 8 = a ++ r := frame_drop8 a r
  have h4 : ((frameL a ++ r).drop 4).take 4 = markL (strOfNums (four (a.length : Int)) ++ strOfNums a) := by
    rw [frame_drop4]; exact List.take_left' (markL_length _)
  have ht : (frameL a ++ r).take 4 = four (a.length : Int) := frame_take4 a r
  have hl : (frameL a ++ r).length = 8 + a.length + r.length := by rw [List.length_append, frame_len]
  have hta : (a ++ r).take a.length = a := List.take_left
  rw [oneL, if_neg h8, hg, if_neg (by omega), hd, h4, ht, Int.toNat_natCast, hta, decide_eq_true rfl]
/-- What is cut off from a frame is none. -/
theorem oneL_part (a : List Int) (h : a.length ≤ 1000) (j : Nat) (hj : j < 8 + a.length) : (oneL ((frameL a).take j)).2 = false := by
  have hl : ((frameL a).take j).length = j := by rw [List.length_take, frame_len]; omega
  by_cases h8 : j < 8
  · rw [oneL, if_pos (by omega)]
  · have ht : ((frameL a).take j).take 4 = four (a.length : Int) := by
      have := frame_take4 a []
      rw [List.append_nil] at this
      rw [List.take_take, show min 4 j = 4 by omega, this]
    rw [oneL, if_neg (by omega), ht, getL_len _ (by omega), hl, if_pos (.inr (by omega))]
/-- Frames one behind the other. -/
def fr (l : List (List Int)) : List Int := l.flatMap frameL
theorem fr_nil : fr [] = [] := rfl
theorem fr_cons (a : List Int) (l : List (List Int)) : fr (a :: l) = frameL a ++ fr l := rfl
theorem fr_append (l m : List (List Int)) : fr (l ++ m) = fr l ++ fr m := List.flatMap_append
theorem fr_len (l : List (List Int)) (h : ∀ a ∈ l, a.length ≤ 1000) : 8 * l.length ≤ (fr l).length ∧ (fr l).length ≤ 1008 * l.length := by
  induction l with
  | nil => simp [fr]
  | cons a l ih =>
    have ih := ih fun b hb => h b (List.mem_cons_of_mem _ hb)
    have ha := h a (List.mem_cons_self ..)
    rw [fr_cons, List.length_append, frame_len, List.length_cons]
    omega
theorem byt_fr (l : List (List Int)) (h : ∀ a ∈ l, Byt a) : Byt (fr l) := by
  induction l with
  | nil => intro x hx; simp [fr] at hx
  | cons a l ih => rw [fr_cons]; exact (byt_frame (h a (List.mem_cons_self ..))).append (ih fun b hb => h b (List.mem_cons_of_mem _ hb))
theorem take_getD (l : List (List Int)) (i : Nat) (h : i < l.length) : l.take (i + 1) = l.take i ++ [l.getD i []] := by
  rw [List.take_add_one]
  simp [List.getD_eq_getElem?_getD, List.getElem?_eq_getElem h]
theorem fr_take (l : List (List Int)) (i : Nat) (h : i < l.length) : fr (l.take (i + 1)) = fr (l.take i) ++ frameL (l.getD i []) := by
  rw [take_getD l i h, fr_append, fr_cons, fr_nil, List.append_nil]
theorem splitF_step (m : Nat) (x : List Int) (i : Nat) : splitF (m + 1) x i = if (oneL (x.drop i)).2 = true then ((oneL (x.drop i)).1 :: (splitF m x (i + 8 + (oneL (x.drop i)).1.length)).1, (splitF m x (i + 8 + (oneL (x.drop i)).1.length)).2) else ([], i) := rfl
theorem splitF_frames (r : List Int) (m : Nat) : ∀ (l : List (List Int)) (pre : List Int), (∀ a ∈ l, a.length ≤ 1000) →
    splitF (m + l.length) (pre ++ (fr l ++ r)) pre.length = (l ++ (splitF m (pre ++ (fr l ++ r)) (pre.length + (fr l).length)).1, (splitF m (pre ++ (fr l ++ r)) (pre.length + (fr l).length)).2) := by
  intro l
  induction l with
  | nil => intro pre _; simp [fr]
  | cons a l ih =>
    intro pre h
    have ha := h a (List.mem_cons_self ..)
    have hd : (pre ++ (fr (a :: l) ++ r)).drop pre.length = frameL a ++ (fr l ++ r) := by rw [List.drop_left, fr_cons, List.append_assoc]
    have hx : pre ++ (fr (a :: l) ++ r) = (pre ++ frameL a) ++ (fr l ++ r) := by rw [fr_cons]; simp [List.append_assoc]
    have ih := ih (pre ++ frameL a) fun b hb => h b (List.mem_cons_of_mem _ hb)
    rw [← hx, List.length_append, frame_len] at ih
    rw [List.length_cons, show m + (l.length + 1) = (m + l.length) + 1 from rfl, splitF_step, hd, oneL_frame a _ ha]
    simp only [if_true]
    rw [show pre.length + 8 + a.length = pre.length + (8 + a.length) by omega, ih]
    have e : pre.length + (8 + a.length) + (fr l).length = pre.length + (fr (a :: l)).length := by rw [fr_cons, List.length_append, frame_len]; omega
    rw [e]
    rfl
theorem splitL_more (l : List (List Int)) (r : List Int) (h : ∀ a ∈ l, a.length ≤ 1000) : l.length ≤ (splitL (fr l ++ r)).1.length := by
  have hl := (fr_len l h).1
  have hs := splitF_frames r ((fr l ++ r).length + 1 - l.length) l [] h
  rw [show (fr l ++ r).length + 1 - l.length + l.length = (fr l ++ r).length + 1 by rw [List.length_append]; omega] at hs
  simp only [List.nil_append, List.length_nil] at hs
  rw [splitL, hs, List.length_append]
  omega
theorem splitL_frames (l : List (List Int)) (r : List Int) (h : ∀ a ∈ l, a.length ≤ 1000) (hr : (oneL r).2 = false) : splitL (fr l ++ r) = (l, (fr l).length) := by
  have hl := (fr_len l h).1
  obtain ⟨m, hm⟩ : ∃ m, (fr l ++ r).length + 1 = (m + 1) + l.length := ⟨(fr l ++ r).length - l.length, by rw [List.length_append]; omega⟩
  have hs := splitF_frames r (m + 1) l [] h
  simp only [List.nil_append, List.length_nil, Nat.zero_add] at hs
  have hd : (fr l ++ r).drop (fr l).length = r := List.drop_left
  rw [splitL, hm, hs, splitF_step, hd, hr]
  simp
theorem oneL_nil : (oneL []).2 = false := rfl
theorem splitL_all (l : List (List Int)) (h : ∀ a ∈ l, a.length ≤ 1000) : splitL (fr l) = (l, (fr l).length) := by
  have := splitL_frames l [] h oneL_nil
  rwa [List.append_nil] at this
/-- Of frames that are cut off just the whole ones are there. -/
theorem splitL_cut (l : List (List Int)) (h : ∀ a ∈ l, a.length ≤ 1000) (n k : Nat) (hn : n < l.length) (h1 : (fr (l.take n)).length ≤ k) (h2 : k < (fr (l.take (n + 1))).length) :
    splitL ((fr l).take k) = (l.take n, (fr (l.take n)).length) := by
  have hf := fr_take l n hn
  have ha : (l.getD n []).length ≤ 1000 := h _ (by simp [List.getD_eq_getElem?_getD, List.getElem?_eq_getElem hn])
  have hsp : fr l = fr (l.take n) ++ (frameL (l.getD n []) ++ fr (l.drop (n + 1))) := by
    rw [← List.append_assoc, ← hf, ← fr_append, List.take_append_drop]
  have hk : (fr l).take k = fr (l.take n) ++ (frameL (l.getD n [])).take (k - (fr (l.take n)).length) := by
    rw [hf, List.length_append, frame_len] at h2
    rw [hsp, List.take_append, List.take_of_length_le h1, List.take_append_of_le_length (by rw [frame_len]; omega)]
  rw [hk]
  rw [hf, List.length_append, frame_len] at h2
  exact splitL_frames _ _ (fun a hx => h a (List.mem_of_mem_take hx)) (oneL_part _ ha _ (by omega))
end Go.Proofs.YtkmnbnfkpccobaaDoor.X
