/- A part of the proof of a card: what some functions of the program come to, each under the conditions that its theorem names. -/
import Derived.Sort.Walk0
import Derived.Test.YtpoblffgclmmlaaGreatDoorPkPk12
import Derived.Test.YtpoblffgclmmlaaGreatDoorPkPk14
import Derived.Test.YtpoblffgclmmlaaGreatDoorPkPk15
section
set_option linter.unusedVariables false
set_option linter.unusedSimpArgs false
namespace Go.Proofs.YtpoblffgclmmlaaGreatDoor.X
open Go.RowKit Go.Maps Go.Proofs.YtpoblffgclmmlaaGreatDoorW.PrintWords Go.Proofs.YtpoblffgclmmlaaGreatDoorW.PrintLast Go.Proofs.YtpoblffgclmmlaaGreatDoorW.PrintMore Go.Proofs.YtpoblffgclmmlaaGreatDoor.Q

def Byt (l : List Int) : Prop := ∀ x ∈ l, 0 ≤ x ∧ x < 256
theorem Byt.take {l : List Int} (h : Byt l) (n : Nat) : Byt (l.take n) := fun x hx => h x (List.mem_of_mem_take hx)
theorem Byt.drop {l : List Int} (h : Byt l) (n : Nat) : Byt (l.drop n) := fun x hx => h x (List.mem_of_mem_drop hx)
theorem Byt.append {a b : List Int} (h : Byt a) (h' : Byt b) : Byt (a ++ b) := fun x hx => (List.mem_append.1 hx).elim (h x) (h' x)
theorem byt_four (v : Int) : Byt (four v) := by
 intro x hx
 simp only [four, List.mem_cons, List.not_mem_nil, or_false] at hx
 rcases hx with rfl | rfl | rfl | rfl <;> omega
/-- The number of four bytes. -/
theorem getL_cons {a b c d : Int} (r : List Int) (h : Byt (a :: b :: c :: d :: r)) : getL ((a :: b :: c :: d :: r).take 4) = a * 16777216 + b * 65536 + c * 256 + d := by
 have ha := h a (by simp); have hb := h b (by simp); have hc := h c (by simp); have hd := h d (by simp)
 have := getL_four a.toNat b.toNat c.toNat d.toNat (by omega) (by omega) (by omega) (by omega)
 rw [Int.toNat_of_nonneg ha.1, Int.toNat_of_nonneg hb.1, Int.toNat_of_nonneg hc.1, Int.toNat_of_nonneg hd.1] at this
 exact this
theorem frame_len (a : List Int) : (frameL a).length = 8 + a.length := by
 simp only [frameL, List.length_append, markL_length]
 simp [four]
theorem frame_parts (a r : List Int) : frameL a ++ r = four (a.length : Int) ++ (markL (strOfNums (four (a.length : Int)) ++ strOfNums a) ++ (a ++ r)) := by simp [frameL, List.append_assoc]
theorem frame_take4 (a r : List Int) : (frameL a ++ r).take 4 = four (a.length : Int) := by rw [frame_parts]; exact List.take_left' rfl
theorem frame_drop4 (a r : List Int) : (frameL a ++ r).drop 4 = markL (strOfNums (four (a.length : Int)) ++ strOfNums a) ++ (a ++ r) := by rw [frame_parts]; exact List.drop_left' rfl
theorem frame_drop8 (a r : List Int) : (frameL a ++ r).drop 8 = a ++ r := by
 rw [show 8 = 4 + 4 from rfl, ← List.drop_drop, frame_drop4]; exact List.drop_left' (markL_length _)
theorem getL_len (n : Nat) (h : n < 4294967296) : getL (four (n : Int)) = (n : Int) := by
 have hb : Byt (four (n : Int)) := byt_four _
 have := getL_cons (a := (n : Int) / 16777216 % 256) (b := (n : Int) / 65536 % 256) (c := (n : Int) / 256 % 256) (d := (n : Int) % 256) [] hb
 rw [show four (n : Int) = (((n : Int) / 16777216 % 256) :: ((n : Int) / 65536 % 256) :: ((n : Int) / 256 % 256) :: ((n : Int) % 256) :: []).take 4 from rfl, this]
 omega
theorem oneL_frame (a r : List Int) (h : a.length ≤ 32768) : oneL (frameL a ++ r) = (a, true) := by
 have h8 : ¬ (frameL a ++ r).length < 8 := by rw [List.length_append, frame_len]; omega
 have hg : getL ((frameL a ++ r).take 4) = (a.length : Int) := by rw [frame_take4]; exact getL_len _ (by omega)
 have hd : (frameL a ++ r).drop 8 = a ++ r := frame_drop8 a r
 have h4 : ((frameL a ++ r).drop 4).take 4 = markL (strOfNums (four (a.length : Int)) ++ strOfNums a) := by
  rw [frame_drop4]; exact List.take_left' (markL_length _)
 have ht : (frameL a ++ r).take 4 = four (a.length : Int) := frame_take4 a r
 have hl : (frameL a ++ r).length = 8 + a.length + r.length := by rw [List.length_append, frame_len]
 have hta : (a ++ r).take a.length = a := List.take_left
 rw [oneL, if_neg h8, hg, if_neg (by omega), hd, h4, ht, Int.toNat_natCast, hta, decide_eq_true rfl]
/-- Frames one behind the other. -/
def fr (l : List (List Int)) : List Int := l.flatMap frameL
theorem fr_nil : fr [] = [] := rfl
theorem fr_cons (a : List Int) (l : List (List Int)) : fr (a :: l) = frameL a ++ fr l := rfl
theorem fr_append (l m : List (List Int)) : fr (l ++ m) = fr l ++ fr m := List.flatMap_append
theorem fr_len (l : List (List Int)) (h : ∀ a ∈ l, a.length ≤ 32768) : 8 * l.length ≤ (fr l).length ∧ (fr l).length ≤ 32776 * l.length := by
 induction l with
 | nil => simp [fr]
 | cons a l ih =>
  have ih := ih fun b hb => h b (List.mem_cons_of_mem _ hb)
  have ha := h a (List.mem_cons_self ..)
  rw [fr_cons, List.length_append, frame_len, List.length_cons]
  omega
theorem splitF_step (m : Nat) (x : List Int) (i : Nat) : splitF (m + 1) x i = if (oneL (x.drop i)).2 = true then ((oneL (x.drop i)).1 :: (splitF m x (i + 8 + (oneL (x.drop i)).1.length)).1, (splitF m x (i + 8 + (oneL (x.drop i)).1.length)).2) else ([], i) := rfl
theorem splitF_frames (r : List Int) (m : Nat) : ∀ (l : List (List Int)) (pre : List Int), (∀ a ∈ l, a.length ≤ 32768) →
  splitF (m + l.length) (pre ++ (fr l ++ r)) pre.length = (l ++ (splitF m (pre ++ (fr l ++ r)) (pre.length + (fr l).length)).1, (splitF m (pre ++ (fr l ++ r)) (pre.length + (fr l).length)).2) := by
 intro l
 induction l with
 | nil => intro pre _; simp [fr]
 | cons a l ih =>
  intro pre h
  have ha := h a (List.mem_cons_self ..)
  have hd : (pre ++ (fr (a :: l) ++ r)).drop pre.length = frameL a ++ (fr l ++ r) := by rw [List.drop_left, fr_cons, List.append_assoc]
  have hx : pre ++ (fr (a :: l) ++ r) = (pre ++ frameL a) ++ (fr l ++ r) := by rw [fr_cons]; simp [List.append_assoc]
  have ih := ih (pre ++ frameL a) fun b hb => h b (List.mem_cons_of_mem _ hb)
  rw [← hx, List.length_append, frame_len] at ih
  rw [List.length_cons, show m + (l.length + 1) = (m + l.length) + 1 from rfl, splitF_step, hd, oneL_frame a _ ha]
  simp only [if_true]
  rw [show pre.length + 8 + a.length = pre.length + (8 + a.length) by omega, ih]
  have e : pre.length + (8 + a.length) + (fr l).length = pre.length + (fr (a :: l)).length := by rw [fr_cons, List.length_append, frame_len]; omega
  rw [e]
  rfl
theorem splitL_frames (l : List (List Int)) (r : List Int) (h : ∀ a ∈ l, a.length ≤ 32768) (hr : (oneL r).2 = false) : splitL (fr l ++ r) = (l, (fr l).length) := by
 have hl := (fr_len l h).1
 obtain ⟨m, hm⟩ : ∃ m, (fr l ++ r).length + 1 = (m + 1) + l.length := ⟨(fr l ++ r).length - l.length, by rw [List.length_append]; omega⟩
 have hs := splitF_frames r (m + 1) l [] h
 simp only [List.nil_append, List.length_nil, Nat.zero_add] at hs
 have hd : (fr l ++ r).drop (fr l).length = r := List.drop_left
 rw [splitL, hm, hs, splitF_step, hd, hr]
 simp
theorem oneL_nil : (oneL []).2 = false := rfl
theorem four_len (n : Int) : (four n).length = 4 := rfl
theorem rnumL_four (n : Nat) (r : List Int) (hn : n < 4294967296) : rnumL (four (n : Int) ++ r) false = ((n : Int), r, false) := by
 have h4 : ¬ (four (n : Int) ++ r).length < 4 := by rw [List.length_append, four_len]; omega
 have e : rnumL (four (n : Int) ++ r) false = (getL ((four (n : Int) ++ r).take 4), (four (n : Int) ++ r).drop 4, false) := if_neg h4
 rw [e, List.take_left' (four_len _), List.drop_left' (four_len _), getL_len n hn]
theorem strOfNums_bytes (s : ByteArray) : strOfNums (bytesOf s) = s := by
 apply ByteArray.ext
 apply Array.toList_inj.1
 simp only [strOfNums, bytesOf, List.map_map]
 conv => rhs; rw [← List.map_id s.data.toList]
 refine List.map_congr_left fun x hx => ?_
 simp
theorem rtextL_four (s : ByteArray) (r : List Int) (hs : s.size < 4294967296) : rtextL (four (s.size : Int) ++ (bytesOf s ++ r)) false = (s, r, false) := by
 have h1 := rnumL_four s.size (bytesOf s ++ r) hs
 have e : rtextL (four (s.size : Int) ++ (bytesOf s ++ r)) false = (strOfNums ((bytesOf s ++ r).take (s.size : Int).toNat), (bytesOf s ++ r).drop (s.size : Int).toNat, false) := by
  unfold rtextL
  rw [h1]
  refine if_neg ?_
  simp only [Bool.false_eq_true, false_or, List.length_append, bytesOf_length]
  omega
 rw [e, Int.toNat_natCast, List.take_left' (bytesOf_length s), List.drop_left' (bytesOf_length s), strOfNums_bytes]
/-- A change, as a record says it: a row that is gone has no value. -/
def normC (c : S69) : S69 := if c.f2 = true then ⟨c.f0, ⟨#[]⟩, true⟩ else ⟨c.f0, c.f1, false⟩
theorem oneC_chg (c : S69) (r : List Int) (h0 : c.f0.size < 4294967296) (h1 : c.f1.size < 4294967296) : oneC (chgL c ++ r) false = (normC c, r, false) := by
 obtain ⟨k, v, g⟩ := c
 cases g with
 | true =>
  have e : chgL ⟨k, v, true⟩ ++ r = four ((1 : Nat) : Int) ++ (four (k.size : Int) ++ (bytesOf k ++ (four ((⟨#[]⟩ : ByteArray).size : Int) ++ (bytesOf ⟨#[]⟩ ++ r)))) := by
   simp only [chgL, if_true, List.append_nil, List.append_assoc]
   rfl
  rw [e]
  simp only [oneC]
  rw [rnumL_four 1 _ (by omega)]
  simp only
  rw [rtextL_four k _ h0]
  simp only
  rw [rtextL_four _ _ (by decide)]
  rfl
 | false =>
  have e : chgL ⟨k, v, false⟩ ++ r = four ((0 : Nat) : Int) ++ (four (k.size : Int) ++ (bytesOf k ++ (four (v.size : Int) ++ (bytesOf v ++ r)))) := by
   simp only [chgL, Bool.false_eq_true, if_false, List.append_assoc]
   rfl
  rw [e]
  simp only [oneC]
  rw [rnumL_four 0 _ (by omega)]
  simp only
  rw [rtextL_four k _ h0]
  simp only
  rw [rtextL_four v _ h1]
  rfl
theorem chF_rec (l : List S69) (r : List Int) (out : List S69) (h : ∀ c ∈ l, c.f0.size < 4294967296 ∧ c.f1.size < 4294967296) : chF l.length (l.flatMap chgL ++ r) false out = (out ++ l.map normC, false) := by
 induction l generalizing out with
 | nil => simp [chF]
 | cons c l ih =>
  have hc := h c (List.mem_cons_self ..)
  have e : chF (c :: l).length ((c :: l).flatMap chgL ++ r) false out = chF l.length (oneC (chgL c ++ (l.flatMap chgL ++ r)) false).2.1 (oneC (chgL c ++ (l.flatMap chgL ++ r)) false).2.2 (out ++ [(oneC (chgL c ++ (l.flatMap chgL ++ r)) false).1]) := by
   rw [List.flatMap_cons, List.append_assoc]; rfl
  rw [e, oneC_chg c _ hc.1 hc.2, ih _ (fun x hx => h x (List.mem_cons_of_mem _ hx))]
  simp
theorem chL_rec (l : List S69) (hl : l.length < 4294967296) (h : ∀ c ∈ l, c.f0.size < 4294967296 ∧ c.f1.size < 4294967296) : chL (recL l) = (l.map normC, false) := by
 have e : recL l = four (l.length : Int) ++ (l.flatMap chgL ++ []) := by rw [List.append_nil]; rfl
 unfold chL
 rw [e, rnumL_four _ _ hl]
 simp only [Int.toNat_natCast]
 rw [chF_rec l [] [] h]
 rfl
theorem chgL_norm (c : S69) : chgL (normC c) = chgL c := by
 obtain ⟨k, v, g⟩ := c
 cases g <;> rfl
theorem recL_norm (l : List S69) : recL (l.map normC) = recL l := by
 unfold recL
 rw [List.length_map, List.flatMap_map]
 congr 2
 funext c; exact chgL_norm c
theorem chOk_rec (l : List S69) (hl : l.length < 4294967296) (h : ∀ c ∈ l, c.f0.size < 4294967296 ∧ c.f1.size < 4294967296) : chOk (recL l) = true := by
 unfold chOk
 rw [chL_rec l hl h, recL_norm]
 simp
theorem turnD_norm (D : DataW Unit) (l : List S69) : turnD D (l.map normC) = turnD D l := by
 unfold turnD
 rw [List.foldl_map]
 congr 1
 funext D c
 obtain ⟨k, v, g⟩ := c
 cases g <;> rfl
/-- How records turn rows. -/
theorem openD_recs (ls : List (List S69)) (D : DataW Unit) (hl : ∀ l ∈ ls, l.length < 4294967296 ∧ ∀ c ∈ l, c.f0.size < 4294967296 ∧ c.f1.size < 4294967296) : openD (ls.map recL) D = some (ls.foldl turnD D) := by
 induction ls generalizing D with
 | nil => rfl
 | cons l ls ih =>
  have h := hl l (List.mem_cons_self ..)
  rw [List.map_cons, openD, chOk_rec l h.1 h.2, if_pos rfl, chL_rec l h.1 h.2, turnD_norm, ih _ (fun x hx => hl x (List.mem_cons_of_mem _ hx))]
  rfl
end Go.Proofs.YtpoblffgclmmlaaGreatDoor.X
namespace Go.Proofs.YtpoblffgclmmlaaGreatDoor.X
open Go.RowKit Go.WideMaps Go.Maps Go.Proofs.YtpoblffgclmmlaaGreatDoorW.PrintWords Go.Proofs.YtpoblffgclmmlaaGreatDoorW.PrintLast Go.Proofs.YtpoblffgclmmlaaGreatDoorW.PrintMore Go.Proofs.YtpoblffgclmmlaaGreatDoor.Q

/-- A key, as a list of bytes. -/
abbrev kl (s : ByteArray) : List UInt8 := s.data.toList
theorem kl_inj {a b : ByteArray} (h : kl a = kl b) : a = b := ByteArray.ext (Array.toList_inj.1 h)
def geB (x y : ByteArray) : Bool := !(Op.bytesLess x.toList y.toList)
theorem geB_iff (x y : ByteArray) : geB x y = true ↔ ¬ kl x < kl y := by
 unfold geB
 rw [bytesLess_eq, show x.toList = kl x from ByteArray.toList_eq x, show y.toList = kl y from ByteArray.toList_eq y]
 simp
/-- One row of the old ones, where a change is laid in. -/
def stepT (c : S69) (a : List S82 × Bool) (x : S82) : List S82 × Bool :=
 if a.2 = false ∧ geB x.f0 c.f0 = true then ((if x.f0 = c.f0 then a.1 ++ [⟨c.f0, c.f1⟩] else a.1 ++ [⟨c.f0, c.f1⟩] ++ [x]), true)
 else ((if x.f0 = c.f0 then a.1 else a.1 ++ [x]), a.2)
def stepsT (c : S69) (rows : List S82) : List S82 × Bool := rows.foldl (stepT c) ([], c.f2)
/-- Rows behind one change. -/
def turn1 (rows : List S82) (c : S69) : List S82 :=
 if (stepsT c rows).2 = true then (stepsT c rows).1 else (stepsT c rows).1 ++ [⟨c.f0, c.f1⟩]
/-- Rows behind changes. -/
def turnR (rows : List S82) (l : List S69) : List S82 := l.foldl turn1 rows
/-- Rising by key. -/
def Ris (r : List S82) : Prop := r.Pairwise fun a b => kl a.f0 < kl b.f0
def other (k : ByteArray) (r : List S82) : List S82 := r.filter fun x => decide (x.f0 ≠ k)
theorem foldl_placed (c : S69) (q acc : List S82) : q.foldl (stepT c) (acc, true) = (acc ++ other c.f0 q, true) := by
 induction q generalizing acc with
 | nil => simp [other]
 | cons x q ih =>
  have hs : stepT c (acc, true) x = ((if x.f0 = c.f0 then acc else acc ++ [x]), true) := by
   unfold stepT; rw [if_neg (by simp)]
  rw [List.foldl_cons, hs, ih]
  unfold other
  rw [List.filter_cons]
  by_cases h : x.f0 = c.f0
  ·
   simp [h]
  ·
   simp [h]
theorem turn1_gone (rows : List S82) (c : S69) (hc : c.f2 = true) : turn1 rows c = other c.f0 rows := by
 have h : stepsT c rows = (other c.f0 rows, true) := by
  unfold stepsT; rw [hc, foldl_placed, List.nil_append]
 unfold turn1
 rw [h, if_pos rfl]
theorem foldl_free (c : S69) (q acc : List S82) : ∃ p1 p2, q = p1 ++ p2 ∧ (∀ x ∈ p1, kl x.f0 < kl c.f0) ∧ (∀ y ys, p2 = y :: ys → ¬ kl y.f0 < kl c.f0) ∧
  ((q.foldl (stepT c) (acc, false) = (acc ++ p1 ++ ⟨c.f0, c.f1⟩ :: other c.f0 p2, true)) ∨ (p2 = [] ∧ q.foldl (stepT c) (acc, false) = (acc ++ p1, false))) := by
 induction q generalizing acc with
 | nil => exact ⟨[], [], rfl, by simp, by simp, .inr ⟨rfl, by simp⟩⟩
 | cons x q ih =>
  by_cases hg : geB x.f0 c.f0 = true
  ·
   refine ⟨[], x :: q, rfl, by simp, ?_, .inl ?_⟩
   ·
    intro y ys e
    obtain ⟨rfl, _⟩ := List.cons.inj e
    exact (geB_iff _ _).1 hg
   ·
    have hs : stepT c (acc, false) x = ((if x.f0 = c.f0 then acc ++ [⟨c.f0, c.f1⟩] else acc ++ [⟨c.f0, c.f1⟩] ++ [x]), true) := by
     unfold stepT; rw [if_pos ⟨rfl, hg⟩]
    rw [List.foldl_cons, hs, foldl_placed]
    unfold other
    rw [List.filter_cons]
    by_cases h : x.f0 = c.f0
    ·
     simp [h]
    ·
     simp [h]
  ·
   have hlt : kl x.f0 < kl c.f0 := by
    exact Classical.not_not.1 (fun h => hg ((geB_iff _ _).2 h))
   have hne : x.f0 ≠ c.f0 := fun e => by rw [e] at hlt; exact absurd hlt (List.lt_irrefl _)
   have hs : stepT c (acc, false) x = (acc ++ [x], false) := by
    unfold stepT; rw [if_neg (fun h => hg h.2), if_neg hne]
   obtain ⟨p1, p2, e, h1, h2, h3⟩ := ih (acc ++ [x])
   refine ⟨x :: p1, p2, by rw [e]; rfl, ?_, h2, ?_⟩
   ·
    intro y hy
    rcases List.mem_cons.1 hy with h | h
    ·
     rw [h]; exact hlt
    ·
     exact h1 y h
   ·
    rw [List.foldl_cons, hs]
    rcases h3 with h | ⟨h, h'⟩
    ·
     exact .inl (by rw [h]; simp)
    ·
     exact .inr ⟨h, by rw [h']; simp⟩
theorem turn1_put (rows : List S82) (c : S69) (hc : c.f2 = false) (hr : Ris rows) : ∃ p1 p2, rows = p1 ++ p2 ∧ (∀ x ∈ p1, kl x.f0 < kl c.f0) ∧ (∀ x ∈ p2, ¬ kl x.f0 < kl c.f0) ∧ turn1 rows c = p1 ++ ⟨c.f0, c.f1⟩ :: other c.f0 p2 := by
 obtain ⟨p1, p2, e, h1, h2, h3⟩ := foldl_free c rows []
 refine ⟨p1, p2, e, h1, ?_, ?_⟩
 ·
  intro x hx
  cases p2 with
  | nil => cases hx
  | cons y ys =>
   have hy := h2 y ys rfl
   rcases List.mem_cons.1 hx with h | h
   ·
    rw [h]; exact hy
   ·
    have hp : Ris (y :: ys) := by
     unfold Ris at hr
     rw [e] at hr
     exact (List.pairwise_append.1 hr).2.1
    have hyx := (List.pairwise_cons.1 hp).1 x h
    intro hlt
    exact hy (List.lt_trans hyx hlt)
 ·
  unfold turn1 stepsT
  rw [hc]
  rcases h3 with h | ⟨h, h'⟩
  ·
   rw [h, if_pos rfl]; simp
  ·
   rw [h', h]; simp [other]
theorem other_mem {k : ByteArray} {r : List S82} {x : S82} : x ∈ other k r ↔ x ∈ r ∧ x.f0 ≠ k := by
 unfold other
 rw [List.mem_filter]; simp
theorem Ris.other {r : List S82} (h : Ris r) (k : ByteArray) : Ris (other k r) := List.Pairwise.filter _ h
theorem not_lt_ne {a b : ByteArray} (h : ¬ kl a < kl b) (hne : a ≠ b) : kl b < kl a := by
 refine Classical.not_not.1 fun h' => hne (kl_inj ?_)
 exact List.le_antisymm h' h
theorem Ris.turn1 {rows : List S82} (hr : Ris rows) (c : S69) : Ris (turn1 rows c) := by
 cases hc : c.f2 with
 | true => rw [turn1_gone rows c hc]; exact hr.other _
 | false =>
  obtain ⟨p1, p2, e, h1, h2, h3⟩ := turn1_put rows c hc hr
  rw [h3]
  have hr' := hr
  unfold Ris at hr'
  rw [e] at hr'
  obtain ⟨ha, hb, hab⟩ := List.pairwise_append.1 hr'
  refine List.pairwise_append.2 ⟨ha, List.pairwise_cons.2 ⟨?_, Ris.other hb _⟩, ?_⟩
  ·
   intro x hx
   have := other_mem.1 hx
   exact not_lt_ne (h2 x this.1) this.2
  ·
   intro x hx y hy
   rcases List.mem_cons.1 hy with h | h
   ·
    rw [h]; exact h1 x hx
   ·
    exact hab x hx y (other_mem.1 h).1
theorem turn1_mem {rows : List S82} (hr : Ris rows) (c : S69) (x : S82) : x ∈ turn1 rows c ↔ (x ∈ rows ∧ x.f0 ≠ c.f0) ∨ (c.f2 = false ∧ x = ⟨c.f0, c.f1⟩) := by
 cases hc : c.f2 with
 | true => rw [turn1_gone rows c hc, other_mem]; simp
 | false =>
  obtain ⟨p1, p2, e, h1, h2, h3⟩ := turn1_put rows c hc hr
  rw [h3, e, List.mem_append, List.mem_cons, other_mem, List.mem_append]
  constructor
  ·
   rintro (h | h | ⟨h, h'⟩)
   ·
    refine .inl ⟨.inl h, fun e => ?_⟩
    have := h1 x h
    rw [e] at this
    exact List.lt_irrefl _ this
   ·
    exact .inr ⟨rfl, h⟩
   ·
    exact .inl ⟨.inr h, h'⟩
  ·
   rintro (⟨h | h, h'⟩ | ⟨_, h⟩)
   ·
    exact .inl h
   ·
    exact .inr (.inr ⟨h, h'⟩)
   ·
    exact .inr (.inl h)
/-- A map and rows say the same. -/
structure Mir (D : DataW Unit) (r : List S82) : Prop where
 tidy : Tidy D
 strs : ∀ es, D = .map es → ∀ p ∈ es, ∃ x, p.1 = .string x
 ris : Ris r
 has : ∀ key, hasS D key = true ↔ ∃ x ∈ r, x.f0 = key
 val : ∀ x ∈ r, valS D x.f0 = x.f1
theorem Mir.empty : Mir (.map []) [] := by
 refine ⟨tidy_empty, ?_, List.Pairwise.nil, ?_, by simp⟩
 ·
  intro es h p hp
  cases h; cases hp
 ·
  intro key
  simp [hasS, Maps.has]
theorem insert_mem {x p : Lit × DataW Unit} (l : List (Lit × DataW Unit)) : p ∈ DataW.insert x l → p = x ∨ p ∈ l := by
 induction l with
 | nil => intro h; rw [DataW.insert] at h; exact .inl (List.mem_singleton.1 h)
 | cons y r ih =>
  intro h
  rw [DataW.insert] at h
  split at h
  ·
   rcases List.mem_cons.1 h with h | h
   ·
    exact .inl h
   ·
    exact .inr h
  ·
   rcases List.mem_cons.1 h with h | h
   ·
    exact .inr (by rw [h]; exact List.mem_cons_self ..)
   ·
    rcases ih h with h | h
    ·
     exact .inl h
    ·
     exact .inr (List.mem_cons_of_mem _ h)
theorem kb_ne {a b : ByteArray} (h : a ≠ b) : kb a ≠ kb b := fun e => h (kl_inj (Lit.string.inj e))
theorem kb_key (a : ByteArray) : WideAt.IsKeyLit (kb a) := by simp [WideAt.IsKeyLit]
theorem valS_put (D : DataW Unit) (hD : IsMap D) (k v : ByteArray) : valS (D.put (kb k) (.lit (.string v.data.toList))) k = v := by
 unfold valS
 rw [atKey_put_same hD (kb_key k)]
theorem valS_put_other (D : DataW Unit) (k v key : ByteArray) (h : key ≠ k) : valS (D.put (kb k) (.lit (.string v.data.toList))) key = valS D key := by
 unfold valS
 rw [atKey_put_other (kb_ne h)]
theorem valS_del_other (D : DataW Unit) (k key : ByteArray) (h : key ≠ k) : valS (D.del (kb k)) key = valS D key := by
 unfold valS
 rw [atKey_del_other (kb_ne h)]
def turnC (D : DataW Unit) (c : S69) : DataW Unit := if c.f2 = true then D.del (kb c.f0) else D.put (kb c.f0) (.lit (.string c.f1.data.toList))
theorem Mir.step {D : DataW Unit} {r : List S82} (h : Mir D r) (c : S69) : Mir (turnC D c) (turn1 r c) := by
 obtain ⟨k, v, g⟩ := c
 obtain ⟨es0, hes0, hpw⟩ := h.tidy
 cases g with
 | true =>
  have e : turnC D ⟨k, v, true⟩ = D.del (kb k) := rfl
  rw [e]
  refine ⟨h.tidy.del _, ?_, h.ris.turn1 _, ?_, ?_⟩
  ·
   intro es he p hp
   rw [hes0] at he
   have he' : es = es0.filter fun p => !p.1.sameKey (kb k) := (DataW.map.inj he).symm
   rw [he'] at hp
   exact h.strs es0 hes0 p (List.mem_filter.1 hp).1
  ·
   intro key
   by_cases hk : key = k
   ·
    subst hk
    have : hasS (D.del (kb key)) key = false := has_del_same
    rw [this]
    constructor
    ·
     intro h; cases h
    ·
     rintro ⟨x, hx, hxk⟩
     rcases (turn1_mem h.ris _ x).1 hx with ⟨_, h2⟩ | ⟨h2, _⟩
     ·
      exact absurd hxk h2
     ·
      cases h2
   ·
    have : hasS (D.del (kb k)) key = hasS D key := has_del_other (kb_ne hk)
    rw [this, h.has key]
    constructor
    ·
     rintro ⟨x, hx, hxk⟩
     exact ⟨x, (turn1_mem h.ris _ x).2 (.inl ⟨hx, by rw [hxk]; exact hk⟩), hxk⟩
    ·
     rintro ⟨x, hx, hxk⟩
     rcases (turn1_mem h.ris _ x).1 hx with ⟨h1, _⟩ | ⟨h2, _⟩
     ·
      exact ⟨x, h1, hxk⟩
     ·
      cases h2
  ·
   intro x hx
   rcases (turn1_mem h.ris _ x).1 hx with ⟨h1, h2⟩ | ⟨h2, _⟩
   ·
    rw [valS_del_other D k x.f0 h2]; exact h.val x h1
   ·
    cases h2
 | false =>
  have e : turnC D ⟨k, v, false⟩ = D.put (kb k) (.lit (.string v.data.toList)) := rfl
  rw [e]
  refine ⟨h.tidy.put (kb_key k) _, ?_, h.ris.turn1 _, ?_, ?_⟩
  ·
   intro es he p hp
   rw [hes0] at he
   have he' : es = DataW.insert (kb k, .lit (.string v.data.toList)) (es0.filter fun p => !p.1.sameKey (kb k)) := (DataW.map.inj he).symm
   rw [he'] at hp
   rcases insert_mem _ hp with h2 | h2
   ·
    exact ⟨_, by rw [h2]⟩
   ·
    exact h.strs es0 hes0 p (List.mem_filter.1 h2).1
  ·
   intro key
   by_cases hk : key = k
   ·
    subst hk
    have : hasS (D.put (kb key) (.lit (.string v.data.toList))) key = true := has_put_same h.tidy.isMap (kb_key key) _
    rw [this]
    exact ⟨fun _ => ⟨⟨key, v⟩, (turn1_mem h.ris _ _).2 (.inr ⟨rfl, rfl⟩), rfl⟩, fun _ => rfl⟩
   ·
    have : hasS (D.put (kb k) (.lit (.string v.data.toList))) key = hasS D key := has_put_other (kb_ne hk) _
    rw [this, h.has key]
    constructor
    ·
     rintro ⟨x, hx, hxk⟩
     exact ⟨x, (turn1_mem h.ris _ x).2 (.inl ⟨hx, by rw [hxk]; exact hk⟩), hxk⟩
    ·
     rintro ⟨x, hx, hxk⟩
     rcases (turn1_mem h.ris _ x).1 hx with ⟨h1, _⟩ | ⟨_, h2⟩
     ·
      exact ⟨x, h1, hxk⟩
     ·
      rw [h2] at hxk; exact absurd hxk.symm hk
  ·
   intro x hx
   rcases (turn1_mem h.ris _ x).1 hx with ⟨h1, h2⟩ | ⟨_, h2⟩
   ·
    rw [valS_put_other D k v x.f0 h2]; exact h.val x h1
   ·
    rw [h2]; exact valS_put D h.tidy.isMap k v
theorem Mir.turn {D : DataW Unit} {r : List S82} (h : Mir D r) (l : List S69) : Mir (turnD D l) (turnR r l) := by
 induction l generalizing D r with
 | nil => exact h
 | cons c l ih => exact ih (h.step c)
theorem Mir.keys {D : DataW Unit} {r : List S82} (h : Mir D r) : keysD D = r.map fun x => x.f0 := by
 obtain ⟨es, hes, hpw⟩ := h.tidy
 have hlt : (r.map fun x => kl x.f0).Pairwise fun a b => a < b := List.pairwise_map.2 h.ris
 have hp : (r.map fun x => kl x.f0).Perm (strKeys D) := by
  rw [hes]
  refine perm_strKeys hpw (h.strs es hes) (hlt.imp (fun {a b} hab e => by rw [e] at hab; exact List.lt_irrefl _ hab)) ?_
  intro x
  have := h.has ⟨x.toArray⟩
  rw [hes] at this
  rw [show (Lit.string x) = kb ⟨x.toArray⟩ by simp [kb]]
  refine Iff.trans ?_ this.symm
  rw [List.mem_map]
  constructor
  ·
   rintro ⟨y, hy, e⟩
   exact ⟨y, hy, kl_inj (by rw [e])⟩
  ·
   rintro ⟨y, hy, e⟩
   exact ⟨y, hy, by rw [e]⟩
 unfold keysD
 rw [← mergeSort_of_perm hp, List.mergeSort_of_pairwise (hlt.imp (fun {a b} hab => by simp only [leB, decide_eq_true_eq]; exact List.le_of_lt hab)), List.map_map]
 refine List.map_congr_left fun x _ => ?_
 simp
theorem Mir.all {D : DataW Unit} {r : List S82} (h : Mir D r) : allD D = r.map fun x => (⟨x.f0, x.f1, false⟩ : S69) := by
 unfold allD
 rw [h.keys, List.map_map]
 refine List.map_congr_left fun x hx => ?_
 show (⟨x.f0, valS D x.f0, false⟩ : S69) = _
 rw [h.val x hx]
/-- How much rows are. -/
def wgt (r : List S82) : Nat := (r.map fun x => 12 + x.f0.size + x.f1.size).sum
def wgtC (l : List S69) : Nat := (l.map fun x => 12 + x.f0.size + x.f1.size).sum
theorem wgt_other (k : ByteArray) (r : List S82) : wgt (other k r) ≤ wgt r := by
 unfold wgt other
 induction r with
 | nil => simp
 | cons x r ih =>
  rw [List.filter_cons]
  split
  ·
   simp only [List.map_cons, List.sum_cons]; omega
  ·
   simp only [List.map_cons, List.sum_cons]; omega
theorem wgt_turn1 {r : List S82} (h : Ris r) (c : S69) : wgt (turn1 r c) ≤ wgt r + (12 + c.f0.size + c.f1.size) := by
 cases hc : c.f2 with
 | true =>
  rw [turn1_gone r c hc]
  have := wgt_other c.f0 r; omega
 | false =>
  obtain ⟨p1, p2, e, _, _, h3⟩ := turn1_put r c hc h
  have h4 := wgt_other c.f0 p2
  rw [h3, e]
  unfold wgt at *
  simp only [List.map_append, List.map_cons, List.sum_append, List.sum_cons]
  omega
theorem wgt_turn {r : List S82} (h : Ris r) (l : List S69) : wgt (turnR r l) ≤ wgt r + wgtC l := by
 induction l generalizing r with
 | nil => exact Nat.le_add_right _ _
 | cons c l ih =>
  have h1 := wgt_turn1 h c
  have h2 := ih (h.turn1 c)
  have e : wgtC (c :: l) = (12 + c.f0.size + c.f1.size) + wgtC l := by simp [wgtC]
  show wgt (turnR (turn1 r c) l) ≤ _
  omega
theorem Mir.recs {D : DataW Unit} {r : List S82} (h : Mir D r) : (recL (allD D)).length = 4 + wgt r := by
 rw [h.all]
 unfold recL wgt
 rw [List.length_append, four_len, List.flatMap_map]
 congr 1
 clear h
 induction r with
 | nil => rfl
 | cons x r ih =>
  rw [List.flatMap_cons, List.length_append, ih, chgL_len]
  simp
theorem turn1_len (r : List S82) (c : S69) (h : Ris r) : (turn1 r c).length ≤ r.length + 1 := by
 cases hc : c.f2 with
 | true =>
  rw [turn1_gone r c hc]
  exact Nat.le_succ_of_le (List.length_filter_le _ _)
 | false =>
  obtain ⟨p1, p2, e, _, _, h3⟩ := turn1_put r c hc h
  have h4 : (other c.f0 p2).length ≤ p2.length := List.length_filter_le _ _
  rw [h3, e]
  simp only [List.length_append, List.length_cons]
  omega
theorem Ris.turn {r : List S82} (h : Ris r) (l : List S69) : Ris (turnR r l) := by
 induction l generalizing r with
 | nil => exact h
 | cons c l ih => exact ih (h.turn1 c)
theorem turnR_take (rows : List S82) (l : List S69) (i : Nat) (h : i < l.length) : turnR rows (l.take (i + 1)) = turn1 (turnR rows (l.take i)) (l.getD i z69) := by
 unfold turnR
 rw [List.take_add_one, List.foldl_append]
 simp [List.getD_eq_getElem?_getD, List.getElem?_eq_getElem h]
theorem stepsT_take (c : S69) (out : List S82) (j : Nat) (h : j < out.length) : stepsT c (out.take (j + 1)) = stepT c (stepsT c (out.take j)) (out.getD j z82) := by
 unfold stepsT
 rw [List.take_add_one, List.foldl_append]
 simp [List.getD_eq_getElem?_getD, List.getElem?_eq_getElem h]
end Go.Proofs.YtpoblffgclmmlaaGreatDoor.X
end
section
set_option linter.unusedVariables false
set_option linter.unusedSimpArgs false
namespace Go.Proofs.YtpoblffgclmmlaaGreatDoor.X
open Go.RowKit Go.WideMaps Go.Maps Go.Proofs.YtpoblffgclmmlaaGreatDoorW.PrintWords Go.Proofs.YtpoblffgclmmlaaGreatDoorW.PrintLast Go.Proofs.YtpoblffgclmmlaaGreatDoorW.PrintMore Go.Proofs.YtpoblffgclmmlaaGreatDoor.Q

/-- A new tape. -/
def TapeS.new : TapeS := ⟨[], 0, -1, false⟩
theorem TapeS.new_good : TapeS.new.Good := ⟨by decide, by decide, by decide⟩
theorem tnew_says (w : World) : Calls Tryz.prog 17 #[] w fun e w' => ∃ t, e = .returned (.pointer (some ⟨t, 0, none⟩)) ∧ TpAt w' w.heap.size t (.slice none 0 0) TapeS.new ∧ Below w.heap.size w w' := new_says w
/-- Behind Open. -/
def TapeS.opened (T : TapeS) : TapeS := ⟨T.b.take (splitL T.b).2, if (splitL T.b).2 < T.b.length then ((splitL T.b).2 : Int) else T.sure, -1, false⟩
theorem topen_says (t : Nat) (v : Value) (T : TapeS) (hf : T.fuse = -1) (hd : T.down = false) (w0 w : World) (hGL : GL w0) (hB : Below w0.heap.size w0 w) (hT : TpAt w w0.heap.size t v T) (hG : T.Good) :
  Calls Tryz.prog 19 #[.pointer (some ⟨t, 0, none⟩)] w fun e w' => Tur w w' (fun k => k = t) ∧
   ((openD (splitL T.b).1 (.map []) = none ∧ e = .returned (.tuple #[.pointer none, .int .i64 2]) ∧ TpAt w' w0.heap.size t v T) ∨
   ∃ D s m n v', openD (splitL T.b).1 (.map []) = some D ∧ e = .returned (.tuple #[.pointer (some ⟨s, 0, none⟩), .int .i64 0]) ∧ StoreAt w' w.heap.size s t m n D ∧ n ≤ 3300000000000 ∧
    TpAt w' w0.heap.size t v' T.opened ∧ Rowd v v' w.heap.size) := by
 obtain ⟨b, sure, fuse, down⟩ := T
 simp only at hf hd
 subst hf
 subst hd
 refine (open_says t v b sure w0 w hGL hB hT hG.len).mono ?_
 rintro e w' ⟨hk, h | ⟨D, s, m, n, v', h1, h2, h3, h4, h5, h6⟩⟩
 ·
  exact ⟨hk, .inl h⟩
 ·
  refine ⟨hk, .inr ⟨D, s, m, n, v', h1, h2, h3, h4, h5, fun k hk => ?_⟩⟩
  rcases h6 with h | h
  ·
   exact .inl (by rw [← h]; exact hk)
  ·
   exact .inr (h k hk)
/-- Open, where all is well. -/
theorem topen_ok (t : Nat) (v : Value) (T : TapeS) (hf : T.fuse = -1) (hd : T.down = false) (D : DataW Unit) (hD : openD (splitL T.b).1 (.map []) = some D) (w0 w : World) (hGL : GL w0) (hB : Below w0.heap.size w0 w) (hT : TpAt w w0.heap.size t v T) (hG : T.Good) :
  Calls Tryz.prog 19 #[.pointer (some ⟨t, 0, none⟩)] w fun e w' => Tur w w' (fun k => k = t) ∧
   ∃ s m n v', e = .returned (.tuple #[.pointer (some ⟨s, 0, none⟩), .int .i64 0]) ∧ StoreAt w' w.heap.size s t m n D ∧ n ≤ 3300000000000 ∧ TpAt w' w0.heap.size t v' T.opened ∧ Rowd v v' w.heap.size := by
 refine (topen_says t v T hf hd w0 w hGL hB hT hG).mono ?_
 rintro e w' ⟨hk, ⟨h, _⟩ | ⟨D', s, m, n, v', h1, h2, h3, h4, h5, h6⟩⟩
 ·
  rw [hD] at h; cases h
 ·
  rw [hD] at h1
  obtain rfl := Option.some.inj h1
  exact ⟨hk, s, m, n, v', h2, h3, h4, h5, h6⟩
theorem StoreAt.lower {W : World} {base base' s t m n : Nat} {D : DataW Unit} (h : StoreAt W base s t m n D) (hb : base' ≤ base) : StoreAt W base' s t m n D := ⟨h.blk, h.map, Nat.le_trans hb h.ge, Nat.le_trans hb h.mge⟩
/-- A row that was just made. -/
theorem C_made {α : Type} {d : Kd α} {e : Nat} (w : World) (xs : List α) (cs : List Value) (hl : xs.length ≤ maxLen) (hr : Reps (d.M (w.alloc (.cells cs.toArray e)) w.heap.size (fun _ => False)) d.sz xs cs) :
  d.R e (w.alloc (.cells cs.toArray e)) w.heap.size (fun _ => True) (.slice (some ⟨w.heap.size, 0, none⟩) xs.length xs.length) xs := by
 refine ⟨fun _ _ => trivial, cs, ⟨hr.1, .inr ⟨w.heap.size, xs.length, cs.toArray, rfl, Nat.le_refl _, heap_alloc_new w _, Nat.le_refl _, hl, by simp [hr.1], ?_⟩⟩, hr.imp_ (fun _ _ h => d.M_mono (fun _ h => h.elim) h)⟩
 simp [hr.1, List.take_of_length_le]
theorem TapeS.append_well (T : TapeS) (ys : List Int) (hf : T.fuse = -1) (hd : T.down = false) : T.append ys = (⟨T.b ++ ys, ((T.b ++ ys).length : Int), -1, false⟩, 0) := by
 obtain ⟨b, sure, fuse, down⟩ := T
 simp only at hf hd
 subst hf
 subst hd
 have e1 : TapeS.write ⟨b, sure, -1, false⟩ ys = (⟨b ++ ys, sure, -1, false⟩, 0) := by
  have hb : burnL (ys.length : Int) (-1) false false = (((ys.length : Int), true), (-1, false)) := rfl
  unfold TapeS.write
  simp only [hb]
  rw [Int.toNat_natCast, List.take_length]
  rfl
 unfold TapeS.append
 rw [e1]
 rfl
end Go.Proofs.YtpoblffgclmmlaaGreatDoor.X
end
