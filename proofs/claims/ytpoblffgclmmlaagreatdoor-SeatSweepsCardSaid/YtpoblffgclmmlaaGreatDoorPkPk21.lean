/- A part of the proof of a card: what some functions of the program come to, each under the conditions that its theorem names. -/
import Derived.Test.YtpoblffgclmmlaaGreatDoorPkPk8
import Derived.Test.YtpoblffgclmmlaaGreatDoorPkPk11
import Derived.Test.YtpoblffgclmmlaaGreatDoorPkPk15
import Derived.Test.YtpoblffgclmmlaaGreatDoorPkPk17
import Derived.Test.YtpoblffgclmmlaaGreatDoorPkPk20
section
set_option linter.unusedVariables false
set_option linter.unusedSimpArgs false
namespace Go.Proofs.YtpoblffgclmmlaaGreatDoor.X
open Go.RowKit Go.Proofs.YtpoblffgclmmlaaGreatDoorW.PrintWords Go.Proofs.YtpoblffgclmmlaaGreatDoorW.PrintLast Go.Proofs.YtpoblffgclmmlaaGreatDoorW.PrintMore Go.Proofs.YtpoblffgclmmlaaGreatDoor.Q

/-- Behind the digits. -/
def tailS (k : Nat) (x0 : ByteArray) (x4 : List ByteArray) (x5 x6 x7 : Int) : Option (List ByteArray × Bool) :=
 (if x7 = x5 then (some (([] : List ByteArray), false)) else (if x7 ≥ (x0.size : Int) then (some (([] : List ByteArray), false)) else (if (bt x0 x7) = 58 then (if (wrap64 (x7 - x5)) > 1 then (if 0 ≤ x5 then (if x5 < (x0.size : Int) then (if (bt x0 x5) = 48 then (some (([] : List ByteArray), false)) else (if x6 > (wrap64 ((wrap64 ((x0.size : Int) - x7)) - 1)) then (some (([] : List ByteArray), false)) else (if 0 ≤ (wrap64 (x7 + 1)) then (if (wrap64 (x7 + 1)) ≤ (wrap64 ((wrap64 (x7 + 1)) + x6)) then (if (wrap64 ((wrap64 (x7 + 1)) + x6)) ≤ (x0.size : Int) then (if x4.length < 8796093022208 then (exequaturref13_Split.l0 k x0 (x4 ++ [x0.extract ((wrap64 (x7 + 1)) : Int).toNat ((wrap64 ((wrap64 (x7 + 1)) + x6)) : Int).toNat]) (wrap64 ((wrap64 (x7 + 1)) + x6))) else (none)) else (none)) else (none)) else (none)))) else (none)) else (none)) else (if x6 > (wrap64 ((wrap64 ((x0.size : Int) - x7)) - 1)) then (some (([] : List ByteArray), false)) else (if 0 ≤ (wrap64 (x7 + 1)) then (if (wrap64 (x7 + 1)) ≤ (wrap64 ((wrap64 (x7 + 1)) + x6)) then (if (wrap64 ((wrap64 (x7 + 1)) + x6)) ≤ (x0.size : Int) then (if x4.length < 8796093022208 then (exequaturref13_Split.l0 k x0 (x4 ++ [x0.extract ((wrap64 (x7 + 1)) : Int).toNat ((wrap64 ((wrap64 (x7 + 1)) + x6)) : Int).toNat]) (wrap64 ((wrap64 (x7 + 1)) + x6))) else (none)) else (none)) else (none)) else (none)))) else (some (([] : List ByteArray), false)))))
theorem bt_at (s : ByteArray) (k : Nat) (h : k < s.data.toList.length) : bt s (k : Int) = ((s.data.toList[k]'h).toNat : Int) := by
 have := (bt_get s k (a := s.data.toList[k]) (r := s.data.toList.drop (k + 1)) (List.drop_eq_getElem_cons h)).1
 exact this
theorem take_more (R : List UInt8) (j : Nat) (h : j < R.length) : R.take (j + 1) = R.take j ++ [R[j]] := by
 rw [List.take_add_one, List.getElem?_eq_getElem h]; rfl
/-- The digits from i on are read up to k': where they end, or are too many. -/
theorem scan_ev (s : ByteArray) (hs : s.size ≤ 4294967280) (out : List ByteArray) (i : Nat) : ∀ d k n : Nat, k + d = s.size → i ≤ k → (∀ c ∈ (s.data.toList.drop i).take (k - i), IsDig c) → n = dval 0 ((s.data.toList.drop i).take (k - i)) → n < 10995116277760 →
  ∃ k' n' : Nat, i ≤ k' ∧ k' ≤ s.size ∧ (∀ c ∈ (s.data.toList.drop i).take (k' - i), IsDig c) ∧ n' = dval 0 ((s.data.toList.drop i).take (k' - i)) ∧ n' < 10995116277770 ∧
   (k' = s.size ∨ (∃ h : k' < s.data.toList.length, ¬ IsDig s.data.toList[k']) ∨ 1099511627776 ≤ n') ∧
   ∀ r, Ev (fun q => tailS q s out (i : Int) (n' : Int) (k' : Int)) r → Ev (fun q => exequaturref13_Split.l1 q s out (i : Int) (n : Int) (k : Int)) r := by
 have hlen : s.data.toList.length = s.size := by rw [Array.length_toList, ByteArray.size_data]
 intro d
 induction d with
 | zero =>
  intro k n hk hi hd hn hnb
  refine ⟨k, n, hi, by omega, hd, hn, by omega, .inl (by omega), fun r hr => ?_⟩
  refine Ev.step (f := fun q => tailS q s out (i : Int) (n : Int) (k : Int)) (fun q => ?_) hr
  show exequaturref13_Split.l1 (q + 1) s out (i : Int) (n : Int) (k : Int) = tailS q s out (i : Int) (n : Int) (k : Int)
  simp only [exequaturref13_Split.l1]
  rw [if_neg (show ¬ (k : Int) < (s.size : Int) by omega)]
  unfold tailS
  by_cases e : (k : Int) = (i : Int)
  ·
   rw [if_pos e, if_pos e]
  ·
   rw [if_neg e, if_neg e, if_pos (show (k : Int) ≥ (s.size : Int) by omega), if_pos (show (k : Int) ≥ (s.size : Int) by omega)]
 | succ d ih =>
  intro k n hk hi hd hn hnb
  have hkl : k < s.data.toList.length := by omega
  have hb := bt_at s k hkl
  have hdrop : (s.data.toList.drop i)[k - i]'(by rw [List.length_drop]; omega) = s.data.toList[k] := by
   rw [List.getElem_drop]; congr 1; omega
  by_cases hdig : IsDig s.data.toList[k]
  ·
   by_cases hbig : n < 1099511627776
   ·
    have hst : (s.data.toList.drop i).take (k + 1 - i) = (s.data.toList.drop i).take (k - i) ++ [s.data.toList[k]] := by
     rw [show k + 1 - i = (k - i) + 1 by omega, take_more _ _ (by rw [List.length_drop]; omega), hdrop]
    have hdg := hdig
    unfold IsDig at hdg
    have hn2 : n * 10 + (s.data.toList[k].toNat - 48) = dval 0 ((s.data.toList.drop i).take (k + 1 - i)) := by
     rw [hst, dval_append, ← hn]; rfl
    obtain ⟨k', n', h1, h2, h3, h4, h5, h6, h7⟩ := ih (k + 1) (n * 10 + (s.data.toList[k].toNat - 48)) (by omega) (by omega) (by
     rw [hst]
     intro c hc
     rcases List.mem_append.1 hc with h | h
     ·
      exact hd c h
     ·
      rw [List.mem_singleton.1 h]; exact hdig) hn2 (by omega)
    refine ⟨k', n', h1, h2, h3, h4, h5, h6, fun r hr => ?_⟩
    refine Ev.step (f := fun q => exequaturref13_Split.l1 q s out (i : Int) ((n * 10 + (s.data.toList[k].toNat - 48) : Nat) : Int) ((k + 1 : Nat) : Int)) (fun q => ?_) (h7 r hr)
    show exequaturref13_Split.l1 (q + 1) s out (i : Int) (n : Int) (k : Int) = _
    simp only [exequaturref13_Split.l1]
    rw [if_pos (by omega), if_pos (by omega), hb, if_pos (by omega), if_pos (by omega), if_pos (by omega)]
    have e1 : wrap64 ((wrap64 ((n : Int) * 10)) + (((s.data.toList[k].toNat : Int) - 48) % 256)) = ((n * 10 + (s.data.toList[k].toNat - 48) : Nat) : Int) := by
     rw [w64 (x := (n : Int) * 10) (by omega) (by omega), w64 (by omega) (by omega)]; omega
    have e2 : wrap64 ((k : Int) + 1) = ((k + 1 : Nat) : Int) := by rw [w64 (by omega) (by omega)]; rfl
    rw [e1, e2]
   ·
    refine ⟨k, n, hi, by omega, hd, hn, by omega, .inr (.inr (by omega)), fun r hr => ?_⟩
    refine Ev.step (f := fun q => tailS q s out (i : Int) (n : Int) (k : Int)) (fun q => ?_) hr
    show exequaturref13_Split.l1 (q + 1) s out (i : Int) (n : Int) (k : Int) = tailS q s out (i : Int) (n : Int) (k : Int)
    unfold IsDig at hdig
    simp only [exequaturref13_Split.l1]
    rw [if_pos (show (k : Int) < (s.size : Int) by omega), if_pos (show (0 : Int) ≤ (k : Int) by omega), if_pos (show bt s (k : Int) ≥ 48 by rw [hb]; omega), if_pos (show bt s (k : Int) ≤ 57 by rw [hb]; omega), if_neg (show ¬ (n : Int) < 1099511627776 by omega)]
    rfl
  ·
   refine ⟨k, n, hi, by omega, hd, hn, by omega, .inr (.inl ⟨hkl, hdig⟩), fun r hr => ?_⟩
   refine Ev.step (f := fun q => tailS q s out (i : Int) (n : Int) (k : Int)) (fun q => ?_) hr
   show exequaturref13_Split.l1 (q + 1) s out (i : Int) (n : Int) (k : Int) = tailS q s out (i : Int) (n : Int) (k : Int)
   unfold IsDig at hdig
   simp only [exequaturref13_Split.l1]
   rw [if_pos (show (k : Int) < (s.size : Int) by omega), if_pos (show (0 : Int) ≤ (k : Int) by omega)]
   by_cases h48 : bt s (k : Int) ≥ 48
   ·
    rw [if_pos h48, if_neg (show ¬ bt s (k : Int) ≤ 57 by rw [hb] at h48 ⊢; omega)]
    rfl
   ·
    rw [if_neg h48]
    rfl
theorem no_front (R : List UInt8) (j : Nat) (hR : R.length ≤ 4294967280) (hd : ∀ c ∈ R.take j, IsDig c) (hj : j ≤ R.length) (hstop : j = R.length ∨ (∃ h : j < R.length, ¬ IsDig R[j]) ∨ 1099511627776 ≤ dval 0 (R.take j))
  (hno : ∀ h : j < R.length, R[j] = 58 → 0 < j → False) (x : ByteArray) (l : List ByteArray) (e : R = txs (x :: l)) : False := by
 rw [txs_cons] at e
 have hx : x.data.toList.length = x.size := by rw [Array.length_toList, ByteArray.size_data]
 have hlen := congrArg List.length e
 simp only [List.length_append, List.length_cons] at hlen
 have hpos : 0 < (dd x.size).length := List.length_pos_iff.2 (dd_ne _)
 rcases Nat.lt_trichotomy j (dd x.size).length with hlt | heq | hgt
 ·
  have ht : R.take j = (dd x.size).take j := by rw [e, List.take_append_of_le_length (by omega)]
  have hv : dval 0 (R.take j) ≤ x.size := by
   have h1 : dval 0 (dd x.size) = dval (dval 0 ((dd x.size).take j)) ((dd x.size).drop j) := by rw [← dval_append, List.take_append_drop]
   have h2 := dval_le (dval 0 ((dd x.size).take j)) ((dd x.size).drop j)
   rw [dval_dd] at h1
   rw [ht]; omega
  rcases hstop with h | ⟨h, hn⟩ | h
  ·
   omega
  ·
   have hg : R[j] = (dd x.size)[j] := by
    simp only [e]
    exact List.getElem_append_left hlt
   rw [hg] at hn
   exact hn (dd_dig _ _ (List.getElem_mem hlt))
  ·
   omega
 ·
  have hjl : j < R.length := by omega
  have hg : R[j] = 58 := by
   simp only [e]
   rw [List.getElem_append_right (by omega)]
   simp [heq]
  exact hno hjl hg (by omega)
 ·
  have hm : (58 : UInt8) ∈ R.take j := by
   have hlt : (dd x.size).length < (R.take j).length := by rw [List.length_take]; omega
   have hg : (R.take j)[(dd x.size).length] = 58 := by
    rw [List.getElem_take]
    simp only [e]
    rw [List.getElem_append_right (Nat.le_refl _)]
    simp
   rw [← hg]; exact List.getElem_mem hlt
  have := hd 58 hm
  unfold IsDig at this
  have e58 : (58 : UInt8).toNat = 58 := rfl
  omega
theorem colon_at (R : List UInt8) (j : Nat) (hj : j < R.length) (hc : R[j] = 58) : R = R.take j ++ 58 :: R.drop (j + 1) := by
 conv => lhs; rw [← List.take_append_drop j R]
 rw [List.drop_eq_getElem_cons hj, hc]
theorem dig_colon {l : List UInt8} (h : ∀ c ∈ l, IsDig c) : (58 : UInt8) ∉ l := fun hm => by
 have := h 58 hm
 unfold IsDig at this
 have e58 : (58 : UInt8).toNat = 58 := rfl
 omega
def LeftL (a0 : ByteArray) (done : List ByteArray) (R : List UInt8) : Prop := ∀ l, txs l = a0.data.toList → ∃ l', l = done ++ l' ∧ txs l' = R
def rspR (s : ByteArray) : List ByteArray × Bool := match unTx s with
 | some l => (l, true)
 | none => ([], false)
theorem rspR_none {a0 : ByteArray} {done : List ByteArray} {R : List UInt8} (h : LeftL a0 done R) (hr : R ≠ []) (hc : ∀ x l, R = txs (x :: l) → False) : rspR a0 = ([], false) := by
 unfold rspR
 cases hU : unTx a0 with
 | none => rfl
 | some l =>
  exfalso
  obtain ⟨l', _, h2⟩ := h l ((unTx_iff a0 l).1 hU)
  cases l' with
  | nil => rw [txs_nil] at h2; exact hr h2.symm
  | cons x l => exact hc x l h2.symm
theorem rspR_some {a0 : ByteArray} {l : List ByteArray} (h : txs l = a0.data.toList) : rspR a0 = (l, true) := by
 unfold rspR
 rw [(unTx_iff a0 l).2 h]
theorem colon_front {R : List UInt8} {j : Nat} (hj : j < R.length) (hc : R[j] = 58) (hd : ∀ c ∈ R.take j, IsDig c) {x : ByteArray} {l : List ByteArray} (e : R = txs (x :: l)) : R.take j = dd x.size ∧ R.drop (j + 1) = x.data.toList ++ txs l := by
 have hcut := colon_at R j hj hc
 obtain ⟨f1, f2⟩ := txs_front e
 rw [hcut, headC_of (dig_colon hd)] at f1
 rw [hcut, headC_of (dig_colon hd), drop_colon] at f2
 exact ⟨f1, f2⟩
theorem colon_size {R : List UInt8} {j n : Nat} (hj : j < R.length) (hc : R[j] = 58) (hd : ∀ c ∈ R.take j, IsDig c) (hn : n = dval 0 (R.take j)) {x : ByteArray} {l : List ByteArray} (e : R = txs (x :: l)) : n = x.size ∧ n + (txs l).length + (j + 1) = R.length := by
 obtain ⟨f1, f2⟩ := colon_front hj hc hd e
 have h1 : n = x.size := by rw [hn, f1, dval_dd]
 have h2 := congrArg List.length f2
 have hxs : x.data.toList.length = x.size := by rw [Array.length_toList, ByteArray.size_data]
 rw [List.length_drop, List.length_append] at h2
 exact ⟨h1, by omega⟩
theorem zero_bad {R : List UInt8} {j : Nat} (hj : j < R.length) (hc : R[j] = 58) (hd : ∀ c ∈ R.take j, IsDig c) (h0 : R.head? = some 48) (h1 : 1 < j) {x : ByteArray} {l : List ByteArray} (e : R = txs (x :: l)) : False := by
 obtain ⟨f1, f2⟩ := colon_front hj hc hd e
 have hh : (dd x.size).head? = some 48 := by
  rw [← f1]
  cases R with
  | nil => cases h0
  | cons a r => rw [show j = (j - 1) + 1 by omega, List.take_succ_cons]; exact h0
 have hx0 := dd_head hh
 rw [hx0, dd_small (by omega)] at f1
 have := congrArg List.length f1
 rw [List.length_take, List.length_singleton] at this
 omega
theorem step_ok {R : List UInt8} {j n : Nat} (hj : j < R.length) (hc : R[j] = 58) (hd : ∀ c ∈ R.take j, IsDig c) (hj0 : 0 < j) (hn : n = dval 0 (R.take j)) (hz : j = 1 ∨ R.head? ≠ some 48) (hle : n + (j + 1) ≤ R.length) (y : ByteArray) (hy : y.data.toList = (R.drop (j + 1)).take n) :
  y.size = n ∧ R = tx y ++ R.drop (j + 1 + n) := by
 have hys : y.size = n := by
  have h := congrArg List.length hy
  rw [Array.length_toList, ByteArray.size_data, List.length_take, List.length_drop] at h
  omega
 refine ⟨hys, ?_⟩
 have hdd : dd n = R.take j := by
  rw [hn]
  cases hR : R with
  | nil => rw [hR] at hj; simp at hj
  | cons c r =>
   rw [hR] at hd hz
   rw [show j = (j - 1) + 1 by omega, List.take_succ_cons] at hd ⊢
   refine dd_dval hd (fun ec => ?_)
   rcases hz with hz | hz
   ·
    subst hz; rfl
   ·
    exact absurd (by rw [List.head?_cons, ec]) hz
 unfold tx
 have e : R.drop (j + 1 + n) = (R.drop (j + 1)).drop n := by rw [List.drop_drop]
 rw [hys, hdd, hy, List.append_assoc, List.cons_append, e, List.take_append_drop]
 exact colon_at R j hj hc
theorem rest_get (L : List UInt8) (i k : Nat) (hk : k < L.length) (hi : i ≤ k) : ∃ h : k - i < (L.drop i).length, (L.drop i)[k - i] = L[k] := by
 refine ⟨by rw [List.length_drop]; omega, ?_⟩
 rw [List.getElem_drop]
 congr 1; omega
theorem head_at (L : List UInt8) (i : Nat) (hi : i < L.length) : (L.drop i).head? = some L[i] := by
 rw [List.drop_eq_getElem_cons hi]; rfl
/-- What is known of the place behind the digits. -/
structure Plc (s : ByteArray) (i k n : Nat) : Prop where
 lo : i ≤ k
 hi : k ≤ s.size
 dig : ∀ c ∈ (s.data.toList.drop i).take (k - i), IsDig c
 val : n = dval 0 ((s.data.toList.drop i).take (k - i))
 big : n < 10995116277770
 stop : k = s.size ∨ (∃ h : k < s.data.toList.length, ¬ IsDig s.data.toList[k]) ∨ 1099511627776 ≤ n
theorem Plc.stopR {s : ByteArray} {i k n : Nat} (h : Plc s i k n) (hlen : s.data.toList.length = s.size) : k - i = (s.data.toList.drop i).length ∨ (∃ h : k - i < (s.data.toList.drop i).length, ¬ IsDig (s.data.toList.drop i)[k - i]) ∨ 1099511627776 ≤ dval 0 ((s.data.toList.drop i).take (k - i)) := by
 have h1 := h.lo
 have h2 := h.hi
 rcases h.stop with h3 | ⟨h3, hn⟩ | h3
 ·
  left; rw [List.length_drop]; omega
 ·
  right; left
  obtain ⟨h4, h5⟩ := rest_get s.data.toList i k h3 h1
  exact ⟨h4, by rw [h5]; exact hn⟩
 ·
  right; right; rw [← h.val]; exact h3
theorem Plc.none {s : ByteArray} {i k n : Nat} (h : Plc s i k n) (hs : s.size ≤ 4294967280) (hlen : s.data.toList.length = s.size) {out : List ByteArray} (hL : LeftL s out (s.data.toList.drop i)) (hi : i < s.size)
  (hno : ∀ h : k < s.data.toList.length, s.data.toList[k] = 58 → i < k → False) : rspR s = ([], false) := by
 have h1 := h.lo
 have h2 := h.hi
 have hRl : (s.data.toList.drop i).length = s.size - i := by rw [List.length_drop, hlen]
 have hRne : s.data.toList.drop i ≠ [] := fun e => by rw [e] at hRl; simp at hRl; omega
 refine rspR_none hL hRne (fun x l e => no_front _ (k - i) (by omega) h.dig (by omega) (h.stopR hlen) (fun hj hc hp => ?_) x l e)
 have hkl : k < s.data.toList.length := by omega
 obtain ⟨h4, h5⟩ := rest_get s.data.toList i k hkl h1
 exact hno hkl (by rw [← h5]; exact hc) (by omega)
structure Col (s : ByteArray) (i k : Nat) : Prop where
 lt : k - i < (s.data.toList.drop i).length
 at_ : (s.data.toList.drop i)[k - i] = 58
theorem Plc.next {s : ByteArray} {i k n : Nat} (h : Plc s i k n) (c : Col s i k) (hik : i < k) (hlen : s.data.toList.length = s.size) {out : List ByteArray} (hP : txs out ++ s.data.toList.drop i = s.data.toList) (hL : LeftL s out (s.data.toList.drop i))
  (hz : k - i = 1 ∨ (s.data.toList.drop i).head? ≠ some 48) (hle : k + 1 + n ≤ s.size) :
  txs (out ++ [s.extract (k + 1) (k + 1 + n)]) ++ s.data.toList.drop (k + 1 + n) = s.data.toList ∧ LeftL s (out ++ [s.extract (k + 1) (k + 1 + n)]) (s.data.toList.drop (k + 1 + n)) := by
 have hq : (s.data.toList.drop i).drop (k - i + 1) = s.data.toList.drop (k + 1) := by rw [List.drop_drop]; congr 1; omega
 have hq2 : (s.data.toList.drop i).drop (k - i + 1 + n) = s.data.toList.drop (k + 1 + n) := by rw [List.drop_drop]; congr 1; omega
 have hex : (s.extract (k + 1) (k + 1 + n)).data.toList = ((s.data.toList.drop i).drop (k - i + 1)).take n := by
  rw [ByteArray.data_extract, Array.toList_extract, List.extract_eq_take_drop, hq]; congr 1; omega
 have hRl : (s.data.toList.drop i).length = s.size - i := by rw [List.length_drop, hlen]
 obtain ⟨g1, g2⟩ := step_ok c.lt c.at_ h.dig (by omega) h.val hz (by omega) _ hex
 rw [hq2] at g2
 refine ⟨?_, ?_⟩
 ·
  rw [txs_snoc, List.append_assoc, ← g2, hP]
 ·
  intro l hl
  obtain ⟨l', e1, e2⟩ := hL l hl
  cases l' with
  | nil =>
   rw [txs_nil] at e2
   rw [← e2] at hRl
   simp at hRl; omega
  | cons x l'' =>
   obtain ⟨f1, f2⟩ := colon_front c.lt c.at_ h.dig e2.symm
   obtain ⟨f3, _⟩ := colon_size c.lt c.at_ h.dig h.val e2.symm
   have hxl : x.data.toList.length = n := by rw [Array.length_toList, ByteArray.size_data]; exact f3.symm
   have hx : s.extract (k + 1) (k + 1 + n) = x := by
    apply ByteArray.ext; apply Array.toList_inj.1
    rw [hex, f2, List.take_left' hxl]
   refine ⟨l'', by rw [e1, hx]; simp, ?_⟩
   rw [← hq2, ← List.drop_drop, f2, List.drop_left' hxl]
theorem wA (i k : Nat) (h : k ≤ 4294967280) (hi : i ≤ k) : wrap64 ((k : Int) - (i : Int)) = ((k - i : Nat) : Int) := by rw [w64 (by omega) (by omega)]; omega
theorem wB (z k : Nat) (hz : z ≤ 4294967280) (h : k ≤ z) : wrap64 ((wrap64 ((z : Int) - (k : Int))) - 1) = (z : Int) - (k : Int) - 1 := by rw [w64 (x := (z : Int) - (k : Int)) (by omega) (by omega), w64 (by omega) (by omega)]
theorem wC (k : Nat) (h : k ≤ 4294967280) : wrap64 ((k : Int) + 1) = ((k + 1 : Nat) : Int) := by rw [w64 (by omega) (by omega)]; omega
theorem wD (k n : Nat) (h : k ≤ 4294967280) (hn : n < 10995116277770) : wrap64 (((k + 1 : Nat) : Int) + (n : Int)) = ((k + 1 + n : Nat) : Int) := by rw [w64 (by omega) (by omega)]; omega
theorem rsplit_ev (s : ByteArray) (hs : s.size ≤ 4294967280) : ∀ d i : Nat, ∀ out : List ByteArray, i + d = s.size → txs out ++ s.data.toList.drop i = s.data.toList → LeftL s out (s.data.toList.drop i) → Ev (fun q => exequaturref13_Split.l0 q s out (i : Int)) (rspR s) := by
 have hlen : s.data.toList.length = s.size := by rw [Array.length_toList, ByteArray.size_data]
 intro d
 induction d using Nat.strongRecOn with
 | _ d ih =>
 intro i out hi hP hL
 by_cases hend : i = s.size
 ·
  refine Ev.step (fun k => ?_) (evNow (r' := (out, true)) ?_)
  ·
   show exequaturref13_Split.l0 (k + 1) s out (i : Int) = some (out, true)
   simp only [exequaturref13_Split.l0]
   rw [if_neg (by omega)]
  ·
   rw [List.drop_of_length_le (by omega), List.append_nil] at hP
   rw [rspR_some hP]
 ·
  obtain ⟨k, n, h1, h2, h3, h4, h5, h6, h7⟩ := scan_ev s hs out i (s.size - i) i 0 (by omega) (Nat.le_refl _) (by rw [Nat.sub_self]; simp) (by rw [Nat.sub_self]; rfl) (by omega)
  have hp : Plc s i k n := ⟨h1, h2, h3, h4, h5, h6⟩
  refine Ev.step (f := fun q => exequaturref13_Split.l1 q s out (i : Int) 0 (i : Int)) (fun q => ?_) (h7 _ ?_)
  ·
   show exequaturref13_Split.l0 (q + 1) s out (i : Int) = _
   simp only [exequaturref13_Split.l0]
   rw [if_pos (by omega)]
  ·
   clear h3 h4 h6 h7
   have hout : out.length < 8796093022208 := by
    have h8 := txs_long out
    have h9 := congrArg List.length hP
    rw [List.length_append, hlen] at h9
    omega
   unfold tailS
   by_cases hki : k = i
   ·
    exact evPos (by omega) (evNow (hp.none hs hlen hL (by omega) (fun _ _ h => by omega)).symm)
   ·
    refine evNeg (by omega) ?_
    by_cases hke : k = s.size
    ·
     exact evPos (by omega) (evNow (hp.none hs hlen hL (by omega) (fun h _ _ => by omega)).symm)
    ·
     have hk : k < s.data.toList.length := by omega
     have hbt := bt_at s k hk
     refine evNeg (by omega) ?_
     by_cases hc58 : s.data.toList[k] = 58
     ·
      obtain ⟨g1, g2⟩ := rest_get s.data.toList i k hk h1
      have hc : Col s i k := ⟨g1, by rw [g2, hc58]⟩
      have hil : i < s.data.toList.length := by omega
      have hhead := head_at s.data.toList i hil
      have hbi := bt_at s i hil
      have hk32 : k ≤ 4294967280 := by omega
      have w1 := Lib.hid (wA i k hk32 h1)
      have w2 := Lib.hid (wB s.size k hs h2)
      have w3 := Lib.hid (wC k hk32)
      have w4 := Lib.hid (wD k n hk32 h5)
      have hRne : s.data.toList.drop i ≠ [] := fun e => by rw [e] at hhead; cases hhead
      have hRl : (s.data.toList.drop i).length = s.size - i := by rw [List.length_drop, hlen]
      refine evPos (by rw [hbt, hc58]; rfl) ?_
      rw [w2.out, w3.out, w4.out, w1.out, Int.toNat_natCast, Int.toNat_natCast]
      clear w1 w2 w3 w4
      by_cases h10 : k - i = 1
      ·
       refine evNeg (by omega) ?_
       by_cases hn : k + 1 + n ≤ s.size
       ·
        obtain ⟨q1, q2⟩ := hp.next hc (by omega) hlen hP hL (.inl h10) hn
        exact evNeg (by omega) (evPos (by omega) (evPos (by omega) (evPos (by omega) (evPos hout (ih (s.size - (k + 1 + n)) (by omega) (k + 1 + n) _ (by omega) q1 q2)))))
       ·
        refine evPos (by omega) (evNow (rspR_none hL hRne (fun x l e => ?_)).symm)
        have := colon_size hc.lt hc.at_ hp.dig hp.val e
        omega
      ·
       refine evPos (by omega) (evPos (by omega) (evPos (by omega) ?_))
       by_cases hb0 : bt s (i : Int) = 48
       ·
        refine evPos hb0 (evNow (rspR_none hL hRne (fun x l e => zero_bad hc.lt hc.at_ hp.dig ?_ (by omega) e)).symm)
        rw [hhead]; congr 1
        rw [hbi] at hb0
        exact UInt8.toNat_inj.1 (by rw [show (48 : UInt8).toNat = 48 from rfl]; omega)
       ·
        refine evNeg hb0 ?_
        have hne48 : (s.data.toList.drop i).head? ≠ some 48 := by
         rw [hhead]
         intro e
         have e := Option.some.inj e
         rw [hbi, e] at hb0
         exact hb0 rfl
        by_cases hn : k + 1 + n ≤ s.size
        ·
         obtain ⟨q1, q2⟩ := hp.next hc (by omega) hlen hP hL (.inr hne48) hn
         exact evNeg (by omega) (evPos (by omega) (evPos (by omega) (evPos (by omega) (evPos hout (ih (s.size - (k + 1 + n)) (by omega) (k + 1 + n) _ (by omega) q1 q2)))))
        ·
         refine evPos (by omega) (evNow (rspR_none hL hRne (fun x l e => ?_)).symm)
         have := colon_size hc.lt hc.at_ hp.dig hp.val e
         omega
     ·
      refine evNeg ?_ (evNow (hp.none hs hlen hL (by omega) (fun h hc _ => hc58 hc)).symm)
      rw [hbt]
      intro h58
      exact hc58 (UInt8.toNat_inj.1 (by rw [show (58 : UInt8).toNat = 58 from rfl]; omega))
theorem Dec_ev (v : Int) (h : I64 v) : Ev (fun k => exequaturref01_Dec.f k v) (itB v) := by
 unfold I64 at h
 refine ⟨v.natAbs + 1, fun k hk => ?_⟩
 obtain ⟨d, rfl⟩ : ∃ d, k = d + 1 := ⟨k - 1, by omega⟩
 show exequaturref01_Dec.f (d + 1) v = _
 unfold exequaturref01_Dec.f itB Lib.itoa
 by_cases hv : v < 0
 ·
  have e1 : IntKind.u64.wrap (IntKind.u64.wrap (wrap64 (-(wrap64 (v + 1)))) + 1) = ((v.natAbs : Nat) : Int) := by
   rw [show wrap64 (v + 1) = v + 1 by unfold wrap64; omega, show wrap64 (-(v + 1)) = -(v + 1) by unfold wrap64; omega, IntKind.wrap_u64, IntKind.wrap_u64]; omega
  have s1 : (⟨(dd v.natAbs).toArray⟩ : ByteArray).size = (dd v.natAbs).length := by show (List.toArray _).size = _; simp
  have s2 := dd_len20 v.natAbs (by omega)
  rw [if_pos hv, if_pos hv, e1, dec_ev d _ (by omega) (by omega)]
  simp only [Option.bind_some]
  rw [if_pos (by rw [s1]; omega)]
  rfl
 ·
  have e1 : IntKind.u64.wrap v = ((v.toNat : Nat) : Int) := by rw [IntKind.wrap_u64]; omega
  rw [if_neg hv, if_neg hv, e1, dec_ev d _ (by omega) (by omega)]
  rfl
theorem numB_none_iff {s : ByteArray} : numB s = none ↔ ∀ v, I64 v → s ≠ itB v := by
 constructor
 ·
  intro h v hv e
  rw [e, numB_it hv] at h; cases h
 ·
  intro h
  cases hn : numB s with
  | none => rfl
  | some v =>
   obtain ⟨e, hv⟩ := numB_some hn
   exact absurd e (h v hv)
theorem it_neg {v : Int} (h : v < 0) : (itB v).data.toList = 45 :: dd v.natAbs := by
 show Lib.itoa v = _
 unfold Lib.itoa; rw [if_pos h]
theorem it_pos {v : Int} (h : ¬ v < 0) : (itB v).data.toList = dd v.toNat := by
 show Lib.itoa v = _
 unfold Lib.itoa; rw [if_neg h]
theorem wrap_i64 (x : Int) : I64 (wrap64 x) := by unfold I64 wrap64; omega
theorem dval_lt (l : List UInt8) (hl : ∀ c ∈ l, IsDig c) : dval 0 l < 10 ^ l.length := by
 have : ∀ (l : List UInt8) (acc : Nat), (∀ c ∈ l, IsDig c) → dval acc l < (acc + 1) * 10 ^ l.length := by
  intro l
  induction l with
  | nil => intro acc _; simp [dval]
  | cons c l ih =>
   intro acc hl
   have hc := hl c (List.mem_cons_self ..)
   unfold IsDig at hc
   have h := ih (acc * 10 + (c.toNat - 48)) (fun d hd => hl d (List.mem_cons_of_mem _ hd))
   have e : dval acc (c :: l) = dval (acc * 10 + (c.toNat - 48)) l := rfl
   have h2 : (acc * 10 + (c.toNat - 48) + 1) * 10 ^ l.length ≤ ((acc + 1) * 10) * 10 ^ l.length := Nat.mul_le_mul_right _ (by omega)
   rw [e, List.length_cons, Nat.pow_succ]
   calc dval (acc * 10 + (c.toNat - 48)) l < (acc * 10 + (c.toNat - 48) + 1) * 10 ^ l.length := h
    _ ≤ ((acc + 1) * 10) * 10 ^ l.length := h2
    _ = (acc + 1) * (10 ^ l.length * 10) := by rw [Nat.mul_assoc, Nat.mul_comm 10]
 have := this l 0 hl
 simpa using this
instance decDig (c : UInt8) : Decidable (IsDig c) := by unfold IsDig; infer_instance
/-- What a run of digits comes to. -/
def finN (s t : ByteArray) (n : Nat) : Int × Bool := if 9223372036854775808 < n then (0, false) else if t.size < s.size then (wrap64 (-(wrap64 (n : Int))), (itB (wrap64 (-(wrap64 (n : Int))))).toList == s.toList) else (wrap64 (n : Int), (itB (wrap64 (n : Int))).toList == s.toList)
theorem numl_ev (s t : ByteArray) (ht : t.size ≤ 19) : ∀ d i : Nat, i + d = t.size → (∀ c ∈ t.data.toList.take i, IsDig c) →
  Ev (fun k => exequaturref13_num.l0 k s ((dval 0 (t.data.toList.take i) : Nat) : Int) t (i : Int)) (if (∀ c ∈ t.data.toList, IsDig c) then finN s t (dval 0 t.data.toList) else (0, false)) := by
 have hlen : t.data.toList.length = t.size := by rw [Array.length_toList, ByteArray.size_data]
 intro d
 induction d with
 | zero =>
  intro i hi hd
  have hall : t.data.toList.take i = t.data.toList := List.take_of_length_le (by omega)
  rw [hall] at hd ⊢
  rw [if_pos hd]
  have hlt := dval_lt _ hd
  have h19 : (10 : Nat) ^ t.data.toList.length ≤ 10 ^ 19 := Nat.pow_le_pow_right (by decide) (by omega)
  generalize dval 0 t.data.toList = n at hlt ⊢
  unfold finN
  refine Ev.step (f := fun k => if (n : Int) > 9223372036854775808 then (some (0, false)) else (if (t.size : Int) < (s.size : Int) then ((exequaturref01_Dec.f k (wrap64 (-(wrap64 (n : Int))))).bind fun t385 => (some (wrap64 (-(wrap64 (n : Int))), (t385.toList == s.toList)))) else ((exequaturref01_Dec.f k (wrap64 (n : Int))).bind fun t386 => (some (wrap64 (n : Int), (t386.toList == s.toList)))))) (fun k => ?_) ?_
  ·
   show exequaturref13_num.l0 (k + 1) s (n : Int) t (i : Int) = _
   simp only [exequaturref13_num.l0]
   rw [if_neg (show ¬ (i : Int) < (t.size : Int) by omega)]
  ·
   by_cases h1 : 9223372036854775808 < n
   ·
    rw [if_pos h1]; exact evPos (by omega) (evNow rfl)
   ·
    rw [if_neg h1]
    refine evNeg (by omega) ?_
    by_cases h2 : t.size < s.size
    ·
     rw [if_pos h2]
     refine evPos (by omega) ?_
     obtain ⟨K, hK⟩ := Dec_ev _ (wrap_i64 (-(wrap64 (n : Int))))
     exact ⟨K, fun k hk => by show (exequaturref01_Dec.f k _).bind _ = _; have hh : exequaturref01_Dec.f k _ = _ := hK k hk; rw [hh]; rfl⟩
    ·
     rw [if_neg h2]
     refine evNeg (by omega) ?_
     obtain ⟨K, hK⟩ := Dec_ev _ (wrap_i64 (n : Int))
     exact ⟨K, fun k hk => by show (exequaturref01_Dec.f k _).bind _ = _; have hh : exequaturref01_Dec.f k _ = _ := hK k hk; rw [hh]; rfl⟩
 | succ d ih =>
  intro i hi hd
  have hil : i < t.data.toList.length := by omega
  have hb := bt_at t i hil
  have hw : wrap64 ((i : Int) + 1) = ((i + 1 : Nat) : Int) := by rw [w64 (by omega) (by omega)]; omega
  have hw := Lib.hid hw
  by_cases hdig : IsDig t.data.toList[i]
  ·
   have hst := take_more t.data.toList i hil
   have hd2 : ∀ c ∈ t.data.toList.take (i + 1), IsDig c := by
    rw [hst]
    intro c hc
    rcases List.mem_append.1 hc with h | h
    ·
     exact hd c h
    ·
     rw [List.mem_singleton.1 h]; exact hdig
   have hlt := dval_lt _ hd2
   have h19 : (10 : Nat) ^ (t.data.toList.take (i + 1)).length ≤ 10 ^ 19 := Nat.pow_le_pow_right (by decide) (by rw [List.length_take]; omega)
   have hv : dval 0 (t.data.toList.take (i + 1)) = dval 0 (t.data.toList.take i) * 10 + (t.data.toList[i].toNat - 48) := by rw [hst, dval_append]; rfl
   have hih := ih (i + 1) (by omega) hd2
   have hdg := hdig
   unfold IsDig at hdg
   refine Ev.step (f := fun k => exequaturref13_num.l0 k s ((dval 0 (t.data.toList.take (i + 1)) : Nat) : Int) t ((i + 1 : Nat) : Int)) (fun k => ?_) hih
   show exequaturref13_num.l0 (k + 1) s ((dval 0 (t.data.toList.take i) : Nat) : Int) t (i : Int) = _
   have e1 : IntKind.u64.wrap ((IntKind.u64.wrap (((dval 0 (t.data.toList.take i) : Nat) : Int) * 10)) + (((t.data.toList[i].toNat : Int) - 48) % 256)) = ((dval 0 (t.data.toList.take (i + 1)) : Nat) : Int) := by
    rw [hv] at hlt ⊢
    rw [IntKind.wrap_u64, IntKind.wrap_u64]; omega
   simp only [exequaturref13_num.l0]
   rw [if_pos (by omega), if_pos (by omega), hb, if_neg (by omega), if_neg (by omega), e1, hw.out]
  ·
   have hno : ¬ ∀ c ∈ t.data.toList, IsDig c := fun h => hdig (h _ (List.getElem_mem hil))
   rw [if_neg hno]
   unfold IsDig at hdig
   refine Ev.step (f := fun k => some (0, false)) (fun k => ?_) (evNow rfl)
   show exequaturref13_num.l0 (k + 1) s _ t (i : Int) = _
   simp only [exequaturref13_num.l0]
   rw [if_pos (by omega), if_pos (by omega), hb]
   by_cases h48 : (t.data.toList[i].toNat : Int) < 48
   ·
    rw [if_pos h48]
   ·
    rw [if_neg h48, if_pos (by omega)]
def resN (s t : ByteArray) : Int × Bool := if t.size = 0 ∨ 19 < t.size then (0, false) else if (∀ c ∈ t.data.toList, IsDig c) then finN s t (dval 0 t.data.toList) else (0, false)
theorem numj_ev (s t : ByteArray) : Ev (fun k => exequaturref13_num.j1 k s 0 t) (resN s t) := by
 unfold resN
 by_cases h0 : t.size = 0
 ·
  rw [if_pos (.inl h0)]
  refine Ev.step (f := fun k => exequaturref13_num.j2 k s 0 t true) (fun k => ?_) (Ev.step (f := fun k => some (0, false)) (fun k => ?_) (evNow rfl))
  ·
   show exequaturref13_num.j1 (k + 1) s 0 t = _
   simp only [exequaturref13_num.j1]; rw [if_pos (by omega)]
  ·
   show exequaturref13_num.j2 (k + 1) s 0 t true = _
   simp only [exequaturref13_num.j2, if_true]
 ·
  by_cases h19 : 19 < t.size
  ·
   rw [if_pos (.inr h19)]
   refine Ev.step (f := fun k => exequaturref13_num.j2 k s 0 t true) (fun k => ?_) (Ev.step (f := fun k => some (0, false)) (fun k => ?_) (evNow rfl))
   ·
    show exequaturref13_num.j1 (k + 1) s 0 t = _
    simp only [exequaturref13_num.j1]; rw [if_neg (by omega), decide_eq_true (by omega)]
   ·
    show exequaturref13_num.j2 (k + 1) s 0 t true = _
    simp only [exequaturref13_num.j2, if_true]
  ·
   rw [if_neg (by omega)]
   refine Ev.step (f := fun k => exequaturref13_num.j2 k s 0 t false) (fun k => ?_) (Ev.step (f := fun k => exequaturref13_num.l0 k s 0 t 0) (fun k => ?_) ?_)
   ·
    show exequaturref13_num.j1 (k + 1) s 0 t = _
    simp only [exequaturref13_num.j1]; rw [if_neg (by omega), decide_eq_false (by omega)]
   ·
    show exequaturref13_num.j2 (k + 1) s 0 t false = _
    simp only [exequaturref13_num.j2]; rw [if_neg (by decide)]
   ·
    exact numl_ev s t (by omega) t.size 0 (by omega) (by simp)
theorem data_size (s : ByteArray) : s.data.toList.length = s.size := by rw [Array.length_toList, ByteArray.size_data]
theorem toList_inj {a b : ByteArray} (h : a.toList = b.toList) : a = b := by
 rw [ByteArray.toList_eq, ByteArray.toList_eq] at h
 exact ByteArray.ext (Array.toList_inj.1 h)
theorem fin_cls (s t : ByteArray) (n : Nat) : I64 (finN s t n).1 ∧ ((finN s t n).2 = true → numB s = some (finN s t n).1) := by
 unfold finN
 split
 ·
  exact ⟨by unfold I64; omega, fun h => by cases h⟩
 ·
  split
  ·
   refine ⟨wrap_i64 _, fun h => ?_⟩
   have e := toList_inj (beq_iff_eq.1 h)
   rw [← e]; exact numB_it (wrap_i64 _)
  ·
   refine ⟨wrap_i64 _, fun h => ?_⟩
   have e := toList_inj (beq_iff_eq.1 h)
   rw [← e]; exact numB_it (wrap_i64 _)
theorem res_cls (s t : ByteArray) (ht : s.data.toList = 45 :: t.data.toList ∨ (t = s ∧ s.data.toList.head? ≠ some 45)) :
  I64 (resN s t).1 ∧ ((resN s t).2 = true → numB s = some (resN s t).1) ∧ ((resN s t).2 = false → numB s = none) := by
 have hfin := fin_cls s t (dval 0 t.data.toList)
 have hnone : (resN s t).2 = false → numB s = none := by
  intro hb
  rw [numB_none_iff]
  intro v hv e
  have hI := hv
  unfold I64 at hI
  have key : ∃ m : Nat, t.data.toList = dd m ∧ m ≤ 9223372036854775808 ∧ (m = 9223372036854775808 → t.size < s.size) ∧ (if t.size < s.size then wrap64 (-(wrap64 (m : Int))) else wrap64 (m : Int)) = v := by
   rcases ht with h45 | ⟨rfl, hne⟩
   ·
    by_cases hv0 : v < 0
    ·
     have h1 := it_neg hv0
     rw [← e, h45] at h1
     have h2 := (List.cons.inj h1).2
     have h3 : t.size < s.size := by
      have := congrArg List.length h45
      rw [List.length_cons, data_size, data_size] at this
      omega
     exact ⟨v.natAbs, h2, by omega, fun _ => h3, by rw [if_pos h3]; unfold wrap64; omega⟩
    ·
     have h1 := it_pos hv0
     rw [← e, h45] at h1
     have := dd_dig v.toNat 45 (by rw [← h1]; exact List.mem_cons_self ..)
     unfold IsDig at this
     have e45 : (45 : UInt8).toNat = 45 := rfl
     omega
   ·
    by_cases hv0 : v < 0
    ·
     have h1 := it_neg hv0
     rw [← e] at h1
     rw [h1] at hne
     exact absurd rfl hne
    ·
     have h1 := it_pos hv0
     rw [← e] at h1
     exact ⟨v.toNat, h1, by omega, fun h => by omega, by rw [if_neg (by omega)]; unfold wrap64; omega⟩
  obtain ⟨m, hm, hm2, hm3, hm4⟩ := key
  have hl1 : t.size = (dd m).length := by rw [← hm, data_size]
  have hl2 := dd_len10 18 m (by omega)
  have hl3 : 0 < (dd m).length := List.length_pos_iff.2 (dd_ne m)
  unfold resN at hb
  rw [if_neg (by omega), if_pos (by rw [hm]; exact dd_dig m), hm, dval_dd] at hb
  unfold finN at hb
  rw [if_neg (by omega)] at hb
  by_cases h2 : t.size < s.size
  ·
   rw [if_pos h2] at hb hm4
   simp only at hb
   rw [hm4, ← e] at hb
   simp at hb
  ·
   rw [if_neg h2] at hb hm4
   simp only at hb
   rw [hm4, ← e] at hb
   simp at hb
 refine ⟨?_, ?_, hnone⟩
 ·
  unfold resN
  split
  ·
   unfold I64; omega
  ·
   split
   ·
    exact hfin.1
   ·
    unfold I64; omega
 ·
  unfold resN
  split
  ·
   intro h; cases h
  ·
   split
   ·
    exact hfin.2
   ·
    intro h; cases h
theorem num_ev (s : ByteArray) : ∃ v b, Ev (fun k => exequaturref13_num.f k s) (v, b) ∧ I64 v ∧ (b = true → numB s = some v) ∧ (b = false → numB s = none) := by
 have hlen := data_size s
 by_cases h45 : s.data.toList.head? = some 45
 ·
  obtain ⟨r, hr⟩ : ∃ r, s.data.toList = 45 :: r := by
   cases hs : s.data.toList with
   | nil => rw [hs] at h45; cases h45
   | cons c r => rw [hs, List.head?_cons] at h45; exact ⟨r, by rw [Option.some.inj h45]⟩
  have hpos : 0 < s.size := by rw [← hlen, hr]; simp
  have hex : (s.extract 1 s.size).data.toList = r := by
   rw [ByteArray.data_extract, Array.toList_extract, List.extract_eq_take_drop, hr]
   rw [List.drop_succ_cons, List.drop_zero]
   refine List.take_of_length_le ?_
   have := hlen; rw [hr, List.length_cons] at this; omega
  have hc := res_cls s (s.extract 1 s.size) (.inl (by rw [hex, hr]))
  have hb0 : bt s 0 = 45 := by
   have h := bt_at s 0 (by omega)
   rw [show ((0 : Nat) : Int) = 0 from rfl] at h
   rw [h]
   have : s.data.toList[0]'(by omega) = 45 := by simp only [hr, List.getElem_cons_zero]
   rw [this]; rfl
  refine ⟨_, _, ?_, hc.1, hc.2.1, hc.2.2⟩
  show Ev (fun k => exequaturref13_num.f k s) (resN s (s.extract 1 s.size))
  unfold exequaturref13_num.f
  refine evPos (by omega) (evPos (by omega) ?_)
  refine Ev.step (f := fun k => exequaturref13_num.j1 k s 0 (s.extract 1 s.size)) (fun k => ?_) (numj_ev s _)
  show exequaturref13_num.j0 (k + 1) s 0 s (bt s 0 == 45) = _
  simp only [exequaturref13_num.j0]
  rw [hb0, if_pos (show ((45 : Int) == 45) = true from rfl), if_pos (by omega)]
 ·
  have hc := res_cls s s (.inr ⟨rfl, h45⟩)
  refine ⟨_, _, ?_, hc.1, hc.2.1, hc.2.2⟩
  show Ev (fun k => exequaturref13_num.f k s) (resN s s)
  unfold exequaturref13_num.f
  by_cases h0 : (s.size : Int) > 0
  ·
   refine evPos h0 (evPos (by omega) ?_)
   have hb0 : (bt s 0 == 45) = false := by
    rw [beq_eq_false_iff_ne]
    have h := bt_at s 0 (by omega)
    rw [show ((0 : Nat) : Int) = 0 from rfl] at h
    rw [h]
    intro e
    have hh := head_at s.data.toList 0 (by omega)
    rw [List.drop_zero] at hh
    rw [hh] at h45
    exact h45 (congrArg some (UInt8.toNat_inj.1 (by rw [show (45 : UInt8).toNat = 45 from rfl]; omega)))
   refine Ev.step (f := fun k => exequaturref13_num.j1 k s 0 s) (fun k => ?_) (numj_ev s _)
   show exequaturref13_num.j0 (k + 1) s 0 s (bt s 0 == 45) = _
   simp only [exequaturref13_num.j0]
   rw [hb0, if_neg (by decide)]
  ·
   refine evNeg h0 ?_
   refine Ev.step (f := fun k => exequaturref13_num.j1 k s 0 s) (fun k => ?_) (numj_ev s _)
   show exequaturref13_num.j0 (k + 1) s 0 s false = _
   simp only [exequaturref13_num.j0]
   rw [if_neg (by decide)]
end Go.Proofs.YtpoblffgclmmlaaGreatDoor.X
end
