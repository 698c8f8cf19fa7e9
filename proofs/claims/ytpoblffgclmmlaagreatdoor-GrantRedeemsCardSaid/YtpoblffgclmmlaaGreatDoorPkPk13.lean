/- A part of the proof of a card: what some functions of the program come to, each under the conditions that its theorem names. -/
import Derived.Shelf.SlSorted.Search
import Derived.Test.YtpoblffgclmmlaaGreatDoorPkPk0
import Derived.Test.YtpoblffgclmmlaaGreatDoorPkPk4
import Derived.Test.YtpoblffgclmmlaaGreatDoorPkPk5
import Derived.Test.YtpoblffgclmmlaaGreatDoorPkPk9
import Derived.Test.YtpoblffgclmmlaaGreatDoorPkPk12
section
namespace Go.Proofs.YtpoblffgclmmlaaGreatDoor.Q
open Go.RowKit Go.Proofs.YtpoblffgclmmlaaGreatDoorW.PrintWords Go.Proofs.YtpoblffgclmmlaaGreatDoorW.PrintLast Go.Proofs.YtpoblffgclmmlaaGreatDoorW.PrintMore
attribute [local go_sem] max2_int min2_int max_two min_two max_three min_three max_four min_four   -- for this text's walks alone
open Go.Proofs.YtpoblffgclmmlaaGreatDoor.X
set_option linter.unusedVariables false
set_option linter.unusedSimpArgs false

theorem txs_take (l : List ByteArray) (k : Nat) (h : k < l.length) : txs (l.take (k + 1)) = txs (l.take k) ++ tx (l.getD k ByteArray.empty) := by
 rw [List.take_add_one, List.getElem?_eq_getElem h, Option.toList_some, txs_snoc]
 simp [List.getD_eq_getElem?_getD, List.getElem?_eq_getElem h]
theorem txs_take_le (l : List ByteArray) (k : Nat) : (txs (l.take k)).length ≤ (txs l).length := by
 conv => rhs; rw [← List.take_append_drop k l, txs_append, List.length_append]
 omega
set_option maxHeartbeats 2000000 in
theorem row_Texts.says (A0 : Option Addr) (c0 : Nat) (l0 : List ByteArray) (w : World) (hr0 : Kd.C Kd.string w A0 l0.length l0) (hlen : (txs l0).length ≤ 140737488355328) (hGP : GP w) :
  Calls Tryz.prog 101 #[.slice A0 l0.length c0] w fun e w' => e = .returned (.string ⟨(txs l0).toArray⟩) ∧ Below w.heap.size w w' := by
 have hll := txs_long l0
 go_enter Tryz.func101, Tryz.ntmps101
 go_wp2
 go_loopw [8] (fun v8 wr => ∃ (k : Nat), k ≤ l0.length ∧ v8 = .int .i64 k ∧ w.heap.size ≤ wr.heap.size ∧ Lib.IsBuilderF 185 5 w.heap.size w.heap.size (Lib.byteCells (txs (l0.take k))) wr ∧ Below w.heap.size w wr) (fun v8 _ => l0.length - (intOf v8).toNat)
 case atStart =>
  exact ⟨0, by omega, rfl, by simp, Lib.IsBuilderF.of (Lib.fresh_isBuilder 185 5 w), (Below.refl _ _).alloc (Nat.le_refl _) _⟩
 case round =>
  obtain ⟨k, hk, rfl, hBw, hB, hb⟩ := hrel
  by_cases hlt : k < l0.length
  ·
   have d1 : decide ((k : Int) < (l0.length : Int)) = true := decide_eq_true (by omega)
   have HT := Lib.hid (txs_take l0 k hlt)
   have hle := txs_take_le l0 (k + 1)
   rw [txs_take l0 k hlt, List.length_append] at hle
   obtain ⟨ad, e0, hx⟩ := Kd.at_string hr0 (k : Int) (by omega) (by omega)
   cases e0
   replace hx := (hb.cell (World.block_lt_of_cell? w _ hx)).trans hx
   have hrd : rdOf ByteArray.empty l0 (k : Int) = l0.getD k ByteArray.empty := by unfold rdOf; rw [Int.toNat_natCast]
   rw [hrd] at hx
   simp only [Int.toNat_natCast] at hx
   obtain ⟨s, hs⟩ : ∃ s, s = l0.getD k ByteArray.empty := ⟨_, rfl⟩
   rw [← hs] at hx hle HT
   clear hs hrd
   have hsz : s.data.toList.length = s.size := by rw [Array.length_toList, ByteArray.size_data]
   have htx : (tx s).length = (dd s.size).length + (1 + s.size) := by unfold tx; rw [List.length_append, List.length_cons]; omega
   have hit := Lib.itoa_nonneg s.size
   have hGPr := GP.below hGP hb
   have hIt := Tryz.strconv_Itoa (s.size : Int) (by omega) (by omega) wr hGPr
   rw [hit] at hIt
   obtain ⟨t, ht⟩ : ∃ t : ByteArray, t = ⟨(Lib.decDigits s.size).toArray⟩ := ⟨_, rfl⟩
   have hts : t.size = (dd s.size).length := by rw [ht]; show (List.toArray _).size = _; simp
   rw [← ht] at hIt
   have Ht := Lib.hid ht
   have i0 : (0 ≤ (k : Int)) = True := eq_true (by omega)
   have i3 : ((k : Int) < (l0.length : Int)) = True := eq_true (by omega)
   have s1 : t.size + 1 ≤ 9223372036854775807 := by omega
   have s2 : (t ++ (⟨#[58]⟩ : ByteArray)).size + s.size ≤ 9223372036854775807 := by rw [ByteArray.size_append]; show t.size + 1 + s.size ≤ _; omega
   have s3 : ((t ++ (⟨#[58]⟩ : ByteArray)) ++ s).size = (tx s).length := by rw [ByteArray.size_append, ByteArray.size_append, htx, hts]; show _ + 1 + s.size = _; omega
   have Hl := Lib.hid hle
   have Hs3 := Lib.hid s3
   clear hle hts htx ht hit s3 hsz
   go_wp2_with fail
   refine hIt.mono ?_
   rintro e w1 ⟨rfl, q, os, rfl⟩
   have hb1 := below_grown_sl wr.heap.size wr q os (Nat.le_refl _)
   have hB0 := bldF_below hB hb1
   have hb0 := below_then hb hb.size hb1
   have hBw0 := Nat.le_trans hBw hb1.size
   clear hB hb hBw hx
   generalize Sort.grow (wr.drewN q) os = w1 at hB0 hb0 hBw0 hb1 ⊢
   go_wp2_with fail
   refine (bld_string w.heap.size w.heap.size _ _ w1 hB0 ?_ hBw0).mono ?_
   ·
    have h1 := Hl.out; have h3 := Hs3.out
    rw [Lib.byteCells_length, h3]; omega
   rintro e w2 ⟨rfl, hB1, hb2, -⟩
   go_wp2
   go_roundw
   case measure => simp [intOf]; omega
   case rel =>
    refine ⟨k + 1, by omega, by go_num, Nat.le_trans hBw0 hb2.size, .inr ?_, hb0.trans hb2⟩
    rw [HT.out]
    have e1 : Lib.byteCells (txs (l0.take k) ++ tx s) = Lib.byteCells (txs (l0.take k)) ++ Lib.strCells ((t ++ (⟨#[58]⟩ : ByteArray)) ++ s) := by
     have e2 : ((t ++ (⟨#[58]⟩ : ByteArray)) ++ s).data.toList = tx s := by
      rw [ByteArray.data_append, ByteArray.data_append, Ht.out]
      simp [tx]
     rw [Lib.strCells, e2]; simp [Lib.byteCells]
    rw [e1]
    exact hB1
  ·
   obtain rfl : k = l0.length := by omega
   have d1 : decide (((l0.length : Nat) : Int) < (l0.length : Int)) = false := decide_eq_false (by omega)
   rw [List.take_length] at hB
   go_wp2_with fail
   refine (Tryz.Builder_String_any_k w.heap.size w.heap.size _ _ hB hBw).mono ?_
   rintro e w1 ⟨rfl, -, hb1, -⟩
   go_wp2
   go_ret
   exact ⟨rfl, hb.trans hb1⟩
def row_Texts.f (l0 : List ByteArray) : Option (ByteArray) := if (txs l0).length ≤ 140737488355328 then some ⟨(txs l0).toArray⟩ else none
theorem row_Texts.calls (A0 : Option Addr) (c0 : Nat) (l0 : List ByteArray) (r : ByteArray) (w : World) (hr0 : Kd.C Kd.string w A0 l0.length l0) (hc0 : l0.length ≤ c0) (h : row_Texts.f l0 = some r) (hGP : GP w) :
  Calls Tryz.prog 101 #[.slice A0 l0.length c0] w fun e w' => e = .returned (.string r) ∧ Below w.heap.size w w' := by
 unfold row_Texts.f at h
 split at h
 case isTrue hs =>
  obtain rfl := Option.some.inj h
  exact row_Texts.says A0 c0 l0 w hr0 hs hGP
 case isFalse hs => exact absurd h (by simp)

end Go.Proofs.YtpoblffgclmmlaaGreatDoor.Q
end
section
namespace Go.Proofs.YtpoblffgclmmlaaGreatDoor.Q
open Go.RowKit Go.Proofs.YtpoblffgclmmlaaGreatDoorW.PrintWords Go.Proofs.YtpoblffgclmmlaaGreatDoorW.PrintLast Go.Proofs.YtpoblffgclmmlaaGreatDoorW.PrintMore
attribute [local go_sem] max2_int min2_int max_two min_two max_three min_three max_four min_four   -- for this text's walks alone
open Go.Proofs.YtpoblffgclmmlaaGreatDoor.X
set_option linter.unusedVariables false
set_option linter.unusedSimpArgs false

theorem dd_len_le (k : Nat) : ∀ n, n < 10 ^ (k + 1) → (dd n).length ≤ k + 1 := by
 induction k with
 | zero => intro n h; rw [dd_small (by simpa using h)]; exact Nat.le_refl _
 | succ k ih =>
  intro n h
  by_cases h10 : n < 10
  ·
   rw [dd_small h10]; simp
  ·
   rw [dd_big h10, List.length_append]
   have := ih (n / 10) (by rw [Nat.pow_succ] at h; omega)
   simp only [List.length_singleton]; omega
theorem tx_len_le (s : ByteArray) (h : s.size ≤ 4294967280) : (tx s).length ≤ 11 + s.size := by
 have h1 := dd_len_le 9 s.size (by omega)
 unfold tx
 have h2 : s.data.toList.length = s.size := by rw [Array.length_toList, ByteArray.size_data]
 rw [List.length_append, List.length_cons]; omega
theorem index_colon (a r : List UInt8) (h : (58 : UInt8) ∉ a) : Lib.index (a ++ 58 :: r) [58] = (a.length : Int) := by
 induction a with
 | nil => simp [Lib.index]
 | cons c a ih =>
  have hc : ¬ (58 : UInt8) = c := fun e => h (by rw [e]; exact List.mem_cons_self ..)
  have h1 := ih (fun h' => h (List.mem_cons_of_mem _ h'))
  rw [List.cons_append]
  have h2 : ([58] : List UInt8).isPrefixOf (c :: (a ++ 58 :: r)) = false := by simp [List.isPrefixOf, hc]
  have h3 : ((a.length : Int) == -1) = false := by rw [beq_eq_false_iff_ne]; omega
  simp only [Lib.index, h2, h1, h3]
  simp
theorem cut_texts (a : ByteArray) (l : List ByteArray) : Lib.cut (txs (a :: l)) [58] = (dd a.size, a.data.toList ++ txs l, true) := by
 rw [txs_cons]
 unfold Lib.cut
 rw [index_colon _ _ (dd_colon _), if_pos (by omega), Int.toNat_natCast, List.take_left' rfl]
 show (_, List.drop ((dd a.size).length + 1) _, _) = _
 rw [drop_colon]
theorem cut_len (s : List UInt8) (hs : s ≠ []) : (Lib.cut s [58]).1.length ≤ s.length ∧ (Lib.cut s [58]).2.1.length + 1 ≤ s.length := by
 have h1 : 1 ≤ s.length := List.length_pos_iff.2 hs
 unfold Lib.cut
 split
 ·
  refine ⟨?_, ?_⟩
  ·
   rw [List.length_take]; omega
  ·
   rw [List.length_drop]; show _ - (_ + 1) + 1 ≤ _; omega
 ·
  exact ⟨Nat.le_refl _, h1⟩
theorem atoi_any (s : ByteArray) (hs : s.size ≤ 281474976710656) (w : World) (hGE : GE w) :
  Calls Tryz.prog 167 #[.string s] w fun e w' => ∃ n ev, e = .returned (.tuple #[.int .i64 n, ev]) ∧ Below w.heap.size w w' ∧ ((ev = .nilIface ∧ Lib.atoiAll s.data.toList = .ok n) ∨ ((∃ te pe, ev = .iface te pe) ∧ ∀ v, Lib.atoiAll s.data.toList ≠ .ok v)) := by
 obtain ⟨⟨t3, p3, h3⟩, ⟨t4, p4, h4⟩, -⟩ := hGE
 cases hA : Lib.atoiAll s.data.toList with
 | ok v =>
  refine (Tryz.strconv_Atoi_ok s (by omega) v hA w).mono ?_
  rintro e w1 ⟨rfl, hw1⟩
  refine ⟨v, _, rfl, ?_, .inl ⟨rfl, rfl⟩⟩
  rcases hw1 with rfl | ⟨t, rfl⟩
  ·
   exact Below.refl _ _
  ·
   exact Lib.bytesWorld_below _ _ _
 | range =>
  refine (Tryz.strconv_Atoi_range s hs hA _ w h4 (.inr ⟨_, _, rfl⟩)).mono ?_
  rintro e w1 ⟨N, rfl, hN, hNc, hb1⟩
  exact ⟨_, _, rfl, hb1, .inr ⟨⟨_, _, rfl⟩, fun v h => by cases h⟩⟩
 | _ =>
  refine (Tryz.strconv_Atoi_syntax s hs hA _ w h3 (.inr ⟨_, _, rfl⟩)).mono ?_
  rintro e w1 ⟨N, rfl, hN, hNc, hb1⟩
  exact ⟨_, _, rfl, hb1, .inr ⟨⟨_, _, rfl⟩, fun v h => by cases h⟩⟩
def splR (a0 : ByteArray) : List ByteArray × Int := match unTx a0 with
 | some l => (l, 0)
 | none => ([], 2)
theorem splR_none {a0 : ByteArray} (h : ∀ l, unTx a0 = some l → False) : splR a0 = ([], 2) := by
 unfold splR
 cases hU : unTx a0 with
 | none => rfl
 | some l => exact absurd hU (fun e => h l e)
theorem splR_some {a0 : ByteArray} {l : List ByteArray} (h : txs l = a0.data.toList) : splR a0 = (l, 0) := by
 unfold splR
 rw [(unTx_iff a0 l).2 h]
/-- What is left is of texts still, if the whole was. -/
def LeftT (a0 : ByteArray) (done : List ByteArray) (rest : ByteArray) : Prop := ∀ l, txs l = a0.data.toList → ∃ l', l = done ++ l' ∧ txs l' = rest.data.toList
theorem LeftT.bad {a0 : ByteArray} {done : List ByteArray} {rest : ByteArray} (h : LeftT a0 done rest) (hr : rest.data.toList ≠ []) (hc : ∀ x l, rest.data.toList = txs (x :: l) → False) : splR a0 = ([], 2) := by
 refine splR_none (fun l hl => ?_)
 obtain ⟨l', _, h2⟩ := h l ((unTx_iff a0 l).1 hl)
 cases l' with
 | nil => rw [txs_nil] at h2; exact hr h2.symm
 | cons x l => exact hc x l h2.symm
theorem LeftT.next {a0 : ByteArray} {done : List ByteArray} {rest y r : ByteArray} (h : LeftT a0 done rest) (hr : rest.data.toList ≠ []) (hc : ∀ x l, rest.data.toList = txs (x :: l) → y = x ∧ r.data.toList = txs l) : LeftT a0 (done ++ [y]) r := by
 intro l hl
 obtain ⟨l', h1, h2⟩ := h l hl
 cases l' with
 | nil => rw [txs_nil] at h2; exact absurd h2.symm hr
 | cons x l =>
  obtain ⟨e1, e2⟩ := hc x l h2.symm
  exact ⟨l, by rw [h1, e1]; simp, e2.symm⟩
set_option maxHeartbeats 4000000 in
set_option maxRecDepth 100000 in
theorem row_Split.says (a0 : ByteArray) (w : World) (hs : a0.size ≤ 4294967280) (hGP : GP w) (hGE : GE w) :
  Calls Tryz.prog 166 #[.string a0] w fun e w' => ∃ v0_ : Value, e = .returned (.tuple #[v0_, .int .i64 (splR a0).2]) ∧ Kd.R Kd.string 9 w' w.heap.size (fun _ => True) v0_ (splR a0).1 ∧ Below w.heap.size w w' := by
 have h0 : LeftT a0 [] a0 := fun l hl => ⟨l, rfl, hl⟩
 obtain ⟨m, hm⟩ := hGE.2.2
 go_enter Tryz.func166, Tryz.ntmps166
 go_wp2
 go_loopw [4, 5] (fun v4 v5 wr => ∃ (rest : ByteArray) (done : List ByteArray), v5 = .string rest ∧ done.length + rest.size ≤ a0.size ∧ (txs done).length + 12 * rest.size ≤ 12 * a0.size ∧ RowKit.Hid (LeftT a0 done rest) ∧ Kd.R Kd.string 9 wr w.heap.size (fun _ => True) v4 done ∧ Below w.heap.size w wr) (fun _ v5 _ => match v5 with | .string q => q.size | _ => 0)
 case atStart => exact ⟨a0, [], rfl, by simp only [List.length_nil]; omega, by rw [txs_nil, List.length_nil]; omega, Lib.hid h0, Kd.R_nil _ _ _ _ _, Below.refl _ _⟩
 case round =>
  clear h0
  obtain ⟨rest, done, rfl, hsz, hsx, hL, hR, hb⟩ := hrel
  have hE : rest.toList.isEmpty = decide (rest.size = 0) := by
   rw [ByteArray.toList_eq]; show rest.data.toList.isEmpty = decide (rest.data.size = 0); rw [← Array.length_toList]; cases rest.data.toList <;> rfl
  have hlr : rest.data.toList.length = rest.size := by rw [Array.length_toList, ByteArray.size_data]
  by_cases hlt : rest.size = 0
  ·
   have hE' : rest.toList.isEmpty = true := by rw [hE]; simp [hlt]
   have hnil : rest.data.toList = [] := List.length_eq_zero_iff.1 (by omega)
   clear hE
   have Hnil := Lib.hid hnil
   clear hnil hlt hlr
   obtain ⟨A4, q4, e4⟩ := Kd.R_slice hR
   subst e4
   have hRr := Kd.R_reads' hR
   have hcall := row_Texts.says A4 q4 done wr hRr.2.2 (by omega) (GP.below hGP hb)
   obtain ⟨Y, hY⟩ : ∃ Y : ByteArray, Y = ⟨(txs done).toArray⟩ := ⟨_, rfl⟩
   rw [← hY] at hcall
   have hYd : Y.data.toList = txs done := by rw [hY]
   clear hY
   have Hyd := Lib.hid hYd
   clear hYd
   by_cases hq : Y.toList = a0.toList
   ·
    have q1 : (Y.toList == a0.toList) = true := beq_iff_eq.2 hq
    have q2 : (Y.toList != a0.toList) = false := bne_eq_false_iff_eq.2 hq
    have hsp : splR a0 = (done, 0) := splR_some (by rw [← Hyd.out]; rw [ByteArray.toList_eq, ByteArray.toList_eq] at hq; exact hq)
    have Hsp := Lib.hid hsp
    clear hq hsp
    go_wp2_with fail
    refine hcall.mono ?_
    rintro e w1 ⟨rfl, hb1⟩
    have hR1 := Kd.R_below hR hb1
    go_wp2_with fail
    go_ret2
    rw [Hsp.out]
    exact ⟨_, rfl, hR1, below_then hb hb.size hb1⟩
   ·
    have q1 : (Y.toList == a0.toList) = false := beq_eq_false_iff_ne.2 hq
    have q2 : (Y.toList != a0.toList) = true := bne_iff_ne.2 hq
    have hsp : splR a0 = ([], 2) := splR_none (fun l hl => by
     obtain ⟨l', h1, h2⟩ := hL.out l ((unTx_iff a0 l).1 hl)
     rw [Hnil.out] at h2
     cases l' with
     | nil =>
      rw [List.append_nil] at h1
      refine hq ?_
      rw [ByteArray.toList_eq, ByteArray.toList_eq]
      exact Hyd.out.trans (by rw [← h1]; exact (unTx_iff a0 l).1 hl)
     | cons x l' => exact txs_ne x l' h2)
    have Hsp := Lib.hid hsp
    clear hq hsp
    go_wp2_with fail
    refine hcall.mono ?_
    rintro e w1 ⟨rfl, hb1⟩
    go_wp2_with fail
    go_ret2
    rw [Hsp.out]
    exact ⟨_, rfl, Kd.R_nil _ _ _ _ _, below_then hb hb.size hb1⟩
  ·
   have hE' : rest.toList.isEmpty = false := by rw [hE]; simp [hlt]
   have hne : rest.data.toList ≠ [] := fun e => hlt (by rw [← hlr, e]; rfl)
   have hcl := cut_len _ hne
   have hct := fun x l (e : rest.data.toList = txs (x :: l)) => (by rw [e]; exact cut_texts x l : Lib.cut rest.data.toList [58] = (dd x.size, x.data.toList ++ txs l, true))
   have hcut := Tryz.strings_Cut rest ⟨#[58]⟩ m wr (by omega) ((hb.cell (World.block_lt_of_cell? _ _ hm)).trans hm)
   rw [show (⟨#[58]⟩ : ByteArray).data.toList = [58] from rfl] at hcut
   obtain ⟨C, hC⟩ : ∃ C, C = Lib.cut rest.data.toList [58] := ⟨_, rfl⟩
   rw [← hC] at hcut hcl hct
   obtain ⟨c1, c2, ok⟩ := C
   simp only at hcut hcl hct
   have Hct := Lib.hid hct
   have Hne := Lib.hid hne
   clear hC hE hct hne
   obtain ⟨S1, hS1⟩ : ∃ S : ByteArray, S = ⟨c1.toArray⟩ := ⟨_, rfl⟩
   obtain ⟨S2, hS2⟩ : ∃ S : ByteArray, S = ⟨c2.toArray⟩ := ⟨_, rfl⟩
   rw [← hS1, ← hS2] at hcut
   have l1 : S1.size = c1.length := by rw [hS1]; show (List.toArray _).size = _; simp
   have l2 : S2.size = c2.length := by rw [hS2]; show (List.toArray _).size = _; simp
   have d1 : S1.data.toList = c1 := by rw [hS1]
   have d2 : S2.data.toList = c2 := by rw [hS2]
   have HS := Lib.hid (show S1.data.toList = c1 ∧ S2.data.toList = c2 from ⟨d1, d2⟩)
   clear hS1 hS2 d1 d2 hlr
   have hk1 : S1.size ≤ rest.size := by rw [l1]; have := hcl.1; rw [Array.length_toList, ByteArray.size_data] at this; exact this
   have hk2 : S2.size + 1 ≤ rest.size := by rw [l2]; have := hcl.2; rw [Array.length_toList, ByteArray.size_data] at this; exact this
   clear hcl l1 l2
   go_wp2_with fail
   refine hcut.mono ?_
   rintro e w1 ⟨rfl, q, rfl⟩
   have hb1 : Below wr.heap.size wr (wr.drewN q) := pw_below_drewN (Below.refl _ _) q
   have hB1 := below_then hb hb.size hb1
   have hR1 : Kd.R Kd.string 9 (wr.drewN q) w.heap.size (fun _ => True) u4 done := Kd.R_drewN hR q
   clear hcut
   generalize wr.drewN q = w1 at hb1 hB1 hR1 ⊢
   have hat := atoi_any S1 (by omega) w1 (GE.below hGE hB1)
   rw [(show S1.data.toList = c1 from HS.out.1)] at hat
   have bad : ∀ (hc : ∀ x l, rest.data.toList = txs (x :: l) → (c1, c2, ok) = (dd x.size, x.data.toList ++ txs l, true) → False), splR a0 = ([], 2) :=
    fun hc => hL.out.bad Hne.out (fun x l e => hc x l e (Hct.out x l e))
   cases ok with
   | false =>
    have hsp : splR a0 = ([], 2) := bad (fun x l _ h => by simp at h)
    have Hsp := Lib.hid hsp
    clear bad hsp
    go_wp2_with fail
    refine hat.mono ?_
    rintro e w2 ⟨n, ev, rfl, hb2, hn⟩
    clear hn
    go_wp2_with fail
    go_ret2
    rw [Hsp.out]
    exact ⟨_, rfl, Kd.R_nil _ _ _ _ _, below_then hB1 hB1.size hb2⟩
   | true =>
    go_wp2_with fail
    refine hat.mono ?_
    rintro e w2 ⟨n, ev, rfl, hb2, hn⟩
    have hB2 := below_then hB1 hB1.size hb2
    have hR2 := Kd.R_below hR1 hb2
    rcases hn with ⟨rfl, hA⟩ | ⟨⟨te, pe, rfl⟩, hA⟩
    ·
     by_cases hn0 : n < 0
     ·
      have hsp : splR a0 = ([], 2) := bad (fun x l e h => by
       simp only [Prod.mk.injEq] at h
       have hxs : x.size ≤ rest.size := by
        have := congrArg List.length e
        rw [txs_cons] at this
        simp only [List.length_append, List.length_cons, Array.length_toList, ByteArray.size_data] at this
        omega
       rw [h.1, atoi_dd _ (by omega)] at hA
       have := Lib.NumEnd.ok.inj hA
       omega)
      have Hsp := Lib.hid hsp
      clear bad hsp hA
      have d0 : decide (n < 0) = true := decide_eq_true hn0
      go_wp2_with fail
      go_ret2
      rw [Hsp.out]
      exact ⟨_, rfl, Kd.R_nil _ _ _ _ _, hB2⟩
     ·
      by_cases hn1 : (S2.size : Int) < n
      ·
       have hsp : splR a0 = ([], 2) := bad (fun x l e h => by
        simp only [Prod.mk.injEq] at h
        have hxs : x.size ≤ rest.size := by
         have := congrArg List.length e
         rw [txs_cons] at this
         simp only [List.length_append, List.length_cons, Array.length_toList, ByteArray.size_data] at this
         omega
        rw [h.1, atoi_dd _ (by omega)] at hA
        have h3 := Lib.NumEnd.ok.inj hA
        have h4 := congrArg List.length HS.out.2
        rw [h.2.1, List.length_append] at h4
        simp only [Array.length_toList, ByteArray.size_data] at h4
        omega)
       have Hsp := Lib.hid hsp
       clear bad hsp hA
       have d0 : decide (n < 0) = false := decide_eq_false hn0
       have d1 : decide ((S2.size : Int) < n) = true := decide_eq_true hn1
       go_wp2_with fail
       go_ret2
       rw [Hsp.out]
       exact ⟨_, rfl, Kd.R_nil _ _ _ _ _, hB2⟩
      ·
       obtain ⟨j, rfl⟩ : ∃ j : Nat, n = j := ⟨n.toNat, by omega⟩
       have hj : j ≤ S2.size := by omega
       have d0 : decide ((j : Int) < 0) = false := decide_eq_false (by omega)
       have d1 : decide ((S2.size : Int) < (j : Int)) = false := decide_eq_false (by omega)
       clear bad
       have he1 : (S2.extract 0 j).data.toList = c2.take j := by
        rw [ByteArray.data_extract, Array.toList_extract, List.extract_eq_take_drop, HS.out.2]; rfl
       have he2 : (S2.extract j S2.size).data.toList = c2.drop j := by
        rw [ByteArray.data_extract, Array.toList_extract, List.extract_eq_take_drop, HS.out.2]
        refine List.take_of_length_le ?_
        have := congrArg List.length HS.out.2
        simp only [Array.length_toList, ByteArray.size_data] at this
        rw [List.length_drop]; omega
       have hL2 : LeftT a0 (done ++ [S2.extract 0 j]) (S2.extract j S2.size) := hL.out.next Hne.out (fun x l e => by
        have h := Hct.out x l e
        simp only [Prod.mk.injEq] at h
        have hxs : x.size ≤ rest.size := by
         have := congrArg List.length e
         rw [txs_cons] at this
         simp only [List.length_append, List.length_cons, Array.length_toList, ByteArray.size_data] at this
         omega
        rw [h.1, atoi_dd _ (by omega)] at hA
        have h3 := Lib.NumEnd.ok.inj hA
        have h4 : x.size = j := by omega
        have h5 : x.data.toList.length = j := by rw [Array.length_toList, ByteArray.size_data]; exact h4
        rw [h.2.1] at he1 he2
        rw [List.take_left' h5] at he1
        rw [List.drop_left' h5] at he2
        exact ⟨ByteArray.ext (Array.toList_inj.1 he1), he2⟩)
       have HL2 := Lib.hid hL2
       have ht := tx_len_le (S2.extract 0 j) (by rw [ByteArray.size_extract]; omega)
       rw [ByteArray.size_extract] at ht
       have hx2 : (txs (done ++ [S2.extract 0 j])).length + 12 * (S2.extract j S2.size).size ≤ 12 * a0.size := by
        rw [txs_snoc, List.length_append, ByteArray.size_extract]; omega
       have Hx2 := Lib.hid hx2
       have Hd2 := Lib.hid (show (done ++ [S2.extract 0 j]).length + (S2.extract j S2.size).size ≤ a0.size by rw [List.length_append, List.length_singleton, ByteArray.size_extract]; omega)
       clear hL2 he1 he2 hA ht hx2 hat
       have hdl : done.length < 8796093022208 := by omega
       have Hdl := Lib.hid hdl
       clear hdl
       go_wp2_with (first | ((with_reducible refine gate_builtin (b := .append) (xs := #[.tmp 41, .tmp 45]) rfl ?_); at_builtin; refine Kd.R_append Kd.string (w0 := w) w.heap.size rfl (.tmp 41) (.tmp 45) 88 9 (.string ⟨#[]⟩) 16 rfl Tryz.underlying88 info9 rfl (by decide) (by omega) u4 done (S2.extract 0 j) [.string (S2.extract 0 j)] (fun _ => True) (fun _ => False) rfl rfl ?aP (fun _ hk => hk.elim) ?aF ?aO ?aB ?aS ?aL ?_; (case aP => exact rfl); (case aB => exact hB2); (case aF => exact (fun _ _ => trivial)); (case aO => first | exact hR2 | exact Kd.R_alloc hR2 _); (case aS => exact below_size hB2); (case aL => have := Hdl.out; omega); intro v3 w3 ho hb3 hg hat))
       exact ⟨⟨_, _, rfl, Hd2.out, Hx2.out, HL2, ho, hb3⟩, by show (S2.extract j S2.size).size < rest.size; rw [ByteArray.size_extract]; omega⟩
    ·
     have hsp : splR a0 = ([], 2) := bad (fun x l e h => by
      simp only [Prod.mk.injEq] at h
      have hxs : x.size ≤ rest.size := by
       have := congrArg List.length e
       rw [txs_cons] at this
       simp only [List.length_append, List.length_cons, Array.length_toList, ByteArray.size_data] at this
       omega
      exact hA _ (by rw [h.1]; exact atoi_dd _ (by omega)))
     have Hsp := Lib.hid hsp
     clear bad hsp hA
     go_wp2_with fail
     go_ret2
     rw [Hsp.out]
     exact ⟨_, rfl, Kd.R_nil _ _ _ _ _, hB2⟩
def row_Split.f (a0 : ByteArray) : Option (List ByteArray × Int) := if a0.size ≤ 4294967280 then some (splR a0) else none
theorem row_Split.calls (a0 : ByteArray) (r1 : List ByteArray) (r2 : Int) (w : World) (h : row_Split.f a0 = some (r1, r2)) (hGP : GP w) (hGE : GE w) :
  Calls Tryz.prog 166 #[.string a0] w fun e w' => ∃ v0_ : Value, e = .returned (.tuple #[v0_, .int .i64 r2]) ∧ Kd.R Kd.string 9 w' w.heap.size (fun _ => True) v0_ r1 ∧ Below w.heap.size w w' := by
 unfold row_Split.f at h
 split at h
 case isTrue hs =>
  have h := Option.some.inj h
  have := row_Split.says a0 w hs hGP hGE
  rw [h] at this
  exact this
 case isFalse hs => exact absurd h (by simp)

def row_fields.f (a0 : ByteArray) (a1 : Int) : Option (List ByteArray × Bool) := (row_Split.f a0).bind fun bt353 => (if bt353.2 = 0 then (some (bt353.1, decide ((bt353.1.length : Int) ≥ a1))) else (some (bt353.1, false)))
set_option maxHeartbeats 8000000 in
set_option maxRecDepth 100000 in
theorem row_fields.calls (a0 : ByteArray) (a1 : Int) (r1 : List ByteArray) (r2 : Bool) (w : World) (h : row_fields.f a0 a1 = some (r1, r2)) (hGP : GP w) (hGE : GE w) :
  Calls Tryz.prog 146 #[.string a0, .int .i64 a1] w fun e w' => ∃ v0_ : Value, e = .returned (.tuple #[v0_, .bool r2]) ∧ Kd.R Kd.string 9 w' w.heap.size (fun _ => True) v0_ r1 ∧ Below w.heap.size w w' := by
 have HGP := Aside0.mk hGP
 clear hGP
 have HGE := Aside0.mk hGE
 clear hGE
 have HB := Aside0.mk (Below.refl w.heap.size w)
 have H : ((row_Split.f a0).bind fun bt353 => (if bt353.2 = 0 then (some (bt353.1, decide ((bt353.1.length : Int) ≥ a1))) else (some (bt353.1, false)))) = some (r1, r2) := h
 clear h
 replace H := Option.bind_eq_some_iff.mp H
 obtain ⟨⟨t353, t354⟩, A30, H⟩ := H
 replace H : (if t354 = 0 then (some (t353, decide ((t353.length : Int) ≥ a1))) else (some (t353, false))) = some (r1, r2) := H
 have A3 := Aside0.mk A30
 clear A30
 by_cases c4 : t354 = 0
 ·
  rw [if_pos c4] at H
  have c4b0 : (t354 == 0) = true := beq_iff_eq.mpr c4
  have c4b1 : (t354 != 0) = false := bne_eq_false_iff_eq.mpr c4
  clear c4
  simp only [Option.some.injEq, Prod.mk.injEq] at H
  obtain ⟨rfl, rfl⟩ := H
  go_enter Tryz.func146, Tryz.ntmps146
  go_wp2_with (first | ((with_reducible refine gate_callee (f := 166) rfl ?_); refine goesL_ (some 10) rfl rfl Tryz.func166 (by kernel_rfl) rfl #[.string a0] rfl (by (try simp only [List.map_toArray, List.map_cons, List.map_nil]); first | done | rfl | (simp only [List.length_drop, List.length_take]; rfl)) ?_; (with_reducible refine (row_Split.calls a0 t353 t354 _ A3.out (GP.below HGP.out (by repeat (first | (with_reducible first | exact HB.out | apply below_alloc | apply pw_below_drewN | apply below_drew1) | exact HB.out))) (GE.below HGE.out (by repeat (first | (with_reducible first | exact HB.out | apply below_alloc | apply pw_below_drewN | apply below_drew1) | exact HB.out)))).mono ?_); rintro e w5 ⟨v355, rfl, ho0, hb⟩; refine ⟨_, rfl, ?_⟩; have n0_ := Aside0.mk (Kd.R_lower ho0 (below_size (by repeat (first | (with_reducible first | exact HB.out | apply below_alloc | apply pw_below_drewN | apply below_drew1) | exact HB.out)))); have n1_ := Aside0.mk (below_step (by repeat (first | (with_reducible first | exact HB.out | apply below_alloc | apply pw_below_drewN | apply below_drew1) | exact HB.out)) hb); clear HB; have HO356 := n0_; have HB := n1_; clear n0_ n1_; (try clear hb); (try clear hb2); (try clear hk); (try clear hi); (try clear ho0); obtain ⟨Ao6, co6, eo6⟩ := Kd.R_slice HO356.out; subst eo6))
  go_ret2
  exact ⟨_, by first | rfl | (simp [errW_none, errW_some] <;> rfl) | (simp [*, errW_none, errW_some] <;> rfl), by (with_reducible repeat (first | apply Kd.R_alloc | apply Kd.R_drewN | apply Kd.R_drew)); exact HO356.out, by repeat (first | (with_reducible first | exact HB.out | apply below_alloc | apply pw_below_drewN | apply below_drew1) | exact HB.out)⟩
 ·
  rw [if_neg c4] at H
  have c4b0 : (t354 == 0) = false := beq_eq_false_iff_ne.mpr c4
  have c4b1 : (t354 != 0) = true := bne_iff_ne.mpr c4
  simp only [Option.some.injEq, Prod.mk.injEq] at H
  obtain ⟨rfl, rfl⟩ := H
  go_enter Tryz.func146, Tryz.ntmps146
  go_wp2_with (first | ((with_reducible refine gate_callee (f := 166) rfl ?_); refine goesL_ (some 10) rfl rfl Tryz.func166 (by kernel_rfl) rfl #[.string a0] rfl (by (try simp only [List.map_toArray, List.map_cons, List.map_nil]); first | done | rfl | (simp only [List.length_drop, List.length_take]; rfl)) ?_; (with_reducible refine (row_Split.calls a0 t353 t354 _ A3.out (GP.below HGP.out (by repeat (first | (with_reducible first | exact HB.out | apply below_alloc | apply pw_below_drewN | apply below_drew1) | exact HB.out))) (GE.below HGE.out (by repeat (first | (with_reducible first | exact HB.out | apply below_alloc | apply pw_below_drewN | apply below_drew1) | exact HB.out)))).mono ?_); rintro e w7 ⟨v355, rfl, ho0, hb⟩; refine ⟨_, rfl, ?_⟩; have n0_ := Aside0.mk (Kd.R_lower ho0 (below_size (by repeat (first | (with_reducible first | exact HB.out | apply below_alloc | apply pw_below_drewN | apply below_drew1) | exact HB.out)))); have n1_ := Aside0.mk (below_step (by repeat (first | (with_reducible first | exact HB.out | apply below_alloc | apply pw_below_drewN | apply below_drew1) | exact HB.out)) hb); clear HB; have HO356 := n0_; have HB := n1_; clear n0_ n1_; (try clear hb); (try clear hb2); (try clear hk); (try clear hi); (try clear ho0)))
  go_ret2
  exact ⟨_, by first | rfl | (simp [errW_none, errW_some] <;> rfl) | (simp [*, errW_none, errW_some] <;> rfl), by (with_reducible repeat (first | apply Kd.R_alloc | apply Kd.R_drewN | apply Kd.R_drew)); exact HO356.out, by repeat (first | (with_reducible first | exact HB.out | apply below_alloc | apply pw_below_drewN | apply below_drew1) | exact HB.out)⟩

end Go.Proofs.YtpoblffgclmmlaaGreatDoor.Q
end
section
set_option linter.unusedVariables false
set_option linter.unusedSimpArgs false
namespace Go.Proofs.YtpoblffgclmmlaaGreatDoor.X
open Go.RowKit Go.Proofs.YtpoblffgclmmlaaGreatDoorW.PrintWords Go.Proofs.YtpoblffgclmmlaaGreatDoorW.PrintLast Go.Proofs.YtpoblffgclmmlaaGreatDoorW.PrintMore Go.Proofs.YtpoblffgclmmlaaGreatDoor.Q

theorem bt_at (s : ByteArray) (k : Nat) (h : k < s.data.toList.length) : bt s (k : Int) = ((s.data.toList[k]'h).toNat : Int) := by
 have := (bt_get s k (a := s.data.toList[k]) (r := s.data.toList.drop (k + 1)) (List.drop_eq_getElem_cons h)).1
 exact this
theorem wrap_i64 (x : Int) : I64 (wrap64 x) := by unfold I64 wrap64; omega
instance decDig (c : UInt8) : Decidable (IsDig c) := by unfold IsDig; infer_instance
theorem data_size (s : ByteArray) : s.data.toList.length = s.size := by rw [Array.length_toList, ByteArray.size_data]
theorem toList_inj {a b : ByteArray} (h : a.toList = b.toList) : a = b := by
 rw [ByteArray.toList_eq, ByteArray.toList_eq] at h
 exact ByteArray.ext (Array.toList_inj.1 h)
end Go.Proofs.YtpoblffgclmmlaaGreatDoor.X
end
section
namespace Go.Proofs.YtpoblffgclmmlaaGreatDoor.Q
open Go.RowKit Go.Proofs.YtpoblffgclmmlaaGreatDoorW.PrintWords Go.Proofs.YtpoblffgclmmlaaGreatDoorW.PrintLast Go.Proofs.YtpoblffgclmmlaaGreatDoorW.PrintMore
attribute [local go_sem] max2_int min2_int max_two min_two max_three min_three max_four min_four   -- for this text's walks alone
open Go.Proofs.YtpoblffgclmmlaaGreatDoor.X
set_option linter.unusedVariables false
set_option linter.unusedSimpArgs false

attribute [local go_sem high] eqA69
def text_Word.f (a0 : Int) : Option (Bool) := if a0 ≥ 97 then (if a0 ≤ 122 then (some true) else (if a0 ≥ 65 then (if a0 ≤ 90 then (some true) else (if a0 ≥ 48 then (some (decide (a0 ≤ 57))) else (some false))) else (if a0 ≥ 48 then (some (decide (a0 ≤ 57))) else (some false)))) else (if a0 ≥ 65 then (if a0 ≤ 90 then (some true) else (if a0 ≥ 48 then (some (decide (a0 ≤ 57))) else (some false))) else (if a0 ≥ 48 then (some (decide (a0 ≤ 57))) else (some false)))
set_option maxHeartbeats 8000000 in
set_option maxRecDepth 100000 in
theorem text_Word.calls (a0 : Int) (r : Bool) (w : World) (h : text_Word.f a0 = some r) :
  Calls Tryz.prog 194 #[.int .u8 a0] w fun e w' => e = .returned (.bool r) ∧ Drawn0 w w' := by
 have H : (if a0 ≥ 97 then (if a0 ≤ 122 then (some true) else (if a0 ≥ 65 then (if a0 ≤ 90 then (some true) else (if a0 ≥ 48 then (some (decide (a0 ≤ 57))) else (some false))) else (if a0 ≥ 48 then (some (decide (a0 ≤ 57))) else (some false)))) else (if a0 ≥ 65 then (if a0 ≤ 90 then (some true) else (if a0 ≥ 48 then (some (decide (a0 ≤ 57))) else (some false))) else (if a0 ≥ 48 then (some (decide (a0 ≤ 57))) else (some false)))) = some r := h
 clear h
 by_cases c2 : a0 ≥ 97
 ·
  rw [if_pos c2] at H
  have c2b0 : decide (97 ≤ a0) = true := decide_eq_true c2
  clear c2
  by_cases c3 : a0 ≤ 122
  ·
   rw [if_pos c3] at H
   have c3b0 : decide (a0 ≤ 122) = true := decide_eq_true c3
   clear c3
   obtain rfl := Option.some.inj H
   go_enter Tryz.func194, Tryz.ntmps194
   go_wp2
   go_ret
   exact ⟨by first | rfl | (simp; done) | (simp [*]; done), by repeat (first | exact Drawn0.refl _ | apply Drawn0.step)⟩
  ·
   rw [if_neg c3] at H
   have c3b0 : decide (a0 ≤ 122) = false := decide_eq_false c3
   clear c3
   by_cases c4 : a0 ≥ 65
   ·
    rw [if_pos c4] at H
    have c4b0 : decide (65 ≤ a0) = true := decide_eq_true c4
    clear c4
    by_cases c5 : a0 ≤ 90
    ·
     rw [if_pos c5] at H
     have c5b0 : decide (a0 ≤ 90) = true := decide_eq_true c5
     clear c5
     obtain rfl := Option.some.inj H
     go_enter Tryz.func194, Tryz.ntmps194
     go_wp2
     go_ret
     exact ⟨by first | rfl | (simp; done) | (simp [*]; done), by repeat (first | exact Drawn0.refl _ | apply Drawn0.step)⟩
    ·
     rw [if_neg c5] at H
     have c5b0 : decide (a0 ≤ 90) = false := decide_eq_false c5
     clear c5
     by_cases c6 : a0 ≥ 48
     ·
      rw [if_pos c6] at H
      have c6b0 : decide (48 ≤ a0) = true := decide_eq_true c6
      clear c6
      obtain rfl := Option.some.inj H
      go_enter Tryz.func194, Tryz.ntmps194
      go_wp2
      go_ret
      exact ⟨by first | rfl | (simp; done) | (simp [*]; done), by repeat (first | exact Drawn0.refl _ | apply Drawn0.step)⟩
     ·
      rw [if_neg c6] at H
      have c6b0 : decide (48 ≤ a0) = false := decide_eq_false c6
      clear c6
      obtain rfl := Option.some.inj H
      go_enter Tryz.func194, Tryz.ntmps194
      go_wp2
      go_ret
      exact ⟨by first | rfl | (simp; done) | (simp [*]; done), by repeat (first | exact Drawn0.refl _ | apply Drawn0.step)⟩
   ·
    rw [if_neg c4] at H
    have c4b0 : decide (65 ≤ a0) = false := decide_eq_false c4
    clear c4
    by_cases c7 : a0 ≥ 48
    ·
     rw [if_pos c7] at H
     have c7b0 : decide (48 ≤ a0) = true := decide_eq_true c7
     clear c7
     obtain rfl := Option.some.inj H
     go_enter Tryz.func194, Tryz.ntmps194
     go_wp2
     go_ret
     exact ⟨by first | rfl | (simp; done) | (simp [*]; done), by repeat (first | exact Drawn0.refl _ | apply Drawn0.step)⟩
    ·
     rw [if_neg c7] at H
     have c7b0 : decide (48 ≤ a0) = false := decide_eq_false c7
     clear c7
     obtain rfl := Option.some.inj H
     go_enter Tryz.func194, Tryz.ntmps194
     go_wp2
     go_ret
     exact ⟨by first | rfl | (simp; done) | (simp [*]; done), by repeat (first | exact Drawn0.refl _ | apply Drawn0.step)⟩
 ·
  rw [if_neg c2] at H
  have c2b0 : decide (97 ≤ a0) = false := decide_eq_false c2
  clear c2
  by_cases c8 : a0 ≥ 65
  ·
   rw [if_pos c8] at H
   have c8b0 : decide (65 ≤ a0) = true := decide_eq_true c8
   clear c8
   by_cases c9 : a0 ≤ 90
   ·
    rw [if_pos c9] at H
    have c9b0 : decide (a0 ≤ 90) = true := decide_eq_true c9
    clear c9
    obtain rfl := Option.some.inj H
    go_enter Tryz.func194, Tryz.ntmps194
    go_wp2
    go_ret
    exact ⟨by first | rfl | (simp; done) | (simp [*]; done), by repeat (first | exact Drawn0.refl _ | apply Drawn0.step)⟩
   ·
    rw [if_neg c9] at H
    have c9b0 : decide (a0 ≤ 90) = false := decide_eq_false c9
    clear c9
    by_cases c10 : a0 ≥ 48
    ·
     rw [if_pos c10] at H
     have c10b0 : decide (48 ≤ a0) = true := decide_eq_true c10
     clear c10
     obtain rfl := Option.some.inj H
     go_enter Tryz.func194, Tryz.ntmps194
     go_wp2
     go_ret
     exact ⟨by first | rfl | (simp; done) | (simp [*]; done), by repeat (first | exact Drawn0.refl _ | apply Drawn0.step)⟩
    ·
     rw [if_neg c10] at H
     have c10b0 : decide (48 ≤ a0) = false := decide_eq_false c10
     clear c10
     obtain rfl := Option.some.inj H
     go_enter Tryz.func194, Tryz.ntmps194
     go_wp2
     go_ret
     exact ⟨by first | rfl | (simp; done) | (simp [*]; done), by repeat (first | exact Drawn0.refl _ | apply Drawn0.step)⟩
  ·
   rw [if_neg c8] at H
   have c8b0 : decide (65 ≤ a0) = false := decide_eq_false c8
   clear c8
   by_cases c11 : a0 ≥ 48
   ·
    rw [if_pos c11] at H
    have c11b0 : decide (48 ≤ a0) = true := decide_eq_true c11
    clear c11
    obtain rfl := Option.some.inj H
    go_enter Tryz.func194, Tryz.ntmps194
    go_wp2
    go_ret
    exact ⟨by first | rfl | (simp; done) | (simp [*]; done), by repeat (first | exact Drawn0.refl _ | apply Drawn0.step)⟩
   ·
    rw [if_neg c11] at H
    have c11b0 : decide (48 ≤ a0) = false := decide_eq_false c11
    clear c11
    obtain rfl := Option.some.inj H
    go_enter Tryz.func194, Tryz.ntmps194
    go_wp2
    go_ret
    exact ⟨by first | rfl | (simp; done) | (simp [*]; done), by repeat (first | exact Drawn0.refl _ | apply Drawn0.step)⟩

def strings_IndexByte.f (a0 : ByteArray) (a1 : Int) : Option (Int) := some (Lib.indexByte a0.data.toList a1.toNat.toUInt8)
theorem strings_IndexByte.calls (a0 : ByteArray) (a1 : Int) (r : Int) (w : World) (h : strings_IndexByte.f a0 a1 = some r) :
  Calls Tryz.prog 195 #[.string a0, .int .u8 a1] w fun e w' => e = .returned (.int .i64 r) ∧ Drawn0 w w' := by
 refine (Tryz.strings_IndexByte a0 a1 w).mono ?_
 rintro e w' ⟨rfl, rfl⟩
 unfold strings_IndexByte.f at h
 obtain rfl := Option.some.inj h
 exact ⟨rfl, Drawn0.refl _⟩

def text_Plain.f (a0 : Int) : Option (Bool) := (text_Word.f a0).bind fun t503 => (if t503 = true then (some true) else ((strings_IndexByte.f (⟨#[45, 46, 95, 126]⟩ : ByteArray) a0).bind fun t504 => (some (decide (t504 ≥ 0)))))
set_option maxHeartbeats 8000000 in
set_option maxRecDepth 100000 in
theorem text_Plain.calls (a0 : Int) (r : Bool) (w : World) (h : text_Plain.f a0 = some r) :
  Calls Tryz.prog 172 #[.int .u8 a0] w fun e w' => e = .returned (.bool r) ∧ Drawn0 w w' := by
 have H : ((text_Word.f a0).bind fun t503 => (if t503 = true then (some true) else ((strings_IndexByte.f (⟨#[45, 46, 95, 126]⟩ : ByteArray) a0).bind fun t504 => (some (decide (t504 ≥ 0)))))) = some r := h
 clear h
 replace H := Option.bind_eq_some_iff.mp H
 obtain ⟨t503, A20, H⟩ := H
 replace H : (if t503 = true then (some true) else ((strings_IndexByte.f (⟨#[45, 46, 95, 126]⟩ : ByteArray) a0).bind fun t504 => (some (decide (t504 ≥ 0))))) = some r := H
 have A2 := Aside0.mk A20
 clear A20
 by_cases c3 : t503 = true
 ·
  subst c3
  have H1 : (some true) = some r := by rw [if_pos rfl] at H; exact H
  clear H
  have H := H1
  clear H1
  obtain rfl := Option.some.inj H
  go_enter Tryz.func172, Tryz.ntmps172
  go_wp2_with (first | ((with_reducible refine gate_callee (f := 194) rfl ?_); refine goesL_ (some 4) rfl rfl Tryz.func194 (by kernel_rfl) rfl #[.int .u8 a0] rfl (by (try simp only [List.map_toArray, List.map_cons, List.map_nil]); first | done | rfl | (simp only [List.length_drop, List.length_take]; rfl)) ?_; (with_reducible refine (text_Word.calls a0 true _ A2.out).mono ?_); rintro e w' ⟨rfl, ⟨nd, rfl⟩⟩; refine ⟨_, rfl, ?_⟩))
  go_ret
  exact ⟨by first | rfl | (simp; done) | (simp [*]; done), by repeat (first | exact Drawn0.refl _ | apply Drawn0.step)⟩
 ·
  replace c3 := Bool.eq_false_iff.mpr c3
  subst c3
  have H1 : ((strings_IndexByte.f (⟨#[45, 46, 95, 126]⟩ : ByteArray) a0).bind fun t504 => (some (decide (t504 ≥ 0)))) = some r := by rw [if_neg (show ¬ (false = true) by decide)] at H; exact H
  clear H
  have H := H1
  clear H1
  replace H := Option.bind_eq_some_iff.mp H
  obtain ⟨t504, A40, H⟩ := H
  replace H : (some (decide (t504 ≥ 0))) = some r := H
  have A4 := Aside0.mk A40
  clear A40
  obtain rfl := Option.some.inj H
  go_enter Tryz.func172, Tryz.ntmps172
  go_wp2_with (first | ((with_reducible refine gate_callee (f := 194) rfl ?_); refine goesL_ (some 4) rfl rfl Tryz.func194 (by kernel_rfl) rfl #[.int .u8 a0] rfl (by (try simp only [List.map_toArray, List.map_cons, List.map_nil]); first | done | rfl | (simp only [List.length_drop, List.length_take]; rfl)) ?_; (with_reducible refine (text_Word.calls a0 false _ A2.out).mono ?_); rintro e w' ⟨rfl, ⟨nd, rfl⟩⟩; refine ⟨_, rfl, ?_⟩) | (go_at_call 195; (with_reducible refine (strings_IndexByte.calls (⟨#[45, 46, 95, 126]⟩ : ByteArray) a0 t504 _ A4.out).mono ?_); rintro e w' ⟨rfl, ⟨nd, rfl⟩⟩))
  go_ret
  exact ⟨by first | rfl | (simp; done) | (simp [*]; done), by repeat (first | exact Drawn0.refl _ | apply Drawn0.step)⟩

end Go.Proofs.YtpoblffgclmmlaaGreatDoor.Q
end
section
namespace Go.Proofs.YtpoblffgclmmlaaGreatDoor.Q
open Go.RowKit Go.Proofs.YtpoblffgclmmlaaGreatDoorW.PrintWords Go.Proofs.YtpoblffgclmmlaaGreatDoorW.PrintLast Go.Proofs.YtpoblffgclmmlaaGreatDoorW.PrintMore
attribute [local go_sem] max2_int min2_int max_two min_two max_three min_three max_four min_four   -- for this text's walks alone
open Go.Proofs.YtpoblffgclmmlaaGreatDoor.X
set_option linter.unusedVariables false
set_option linter.unusedSimpArgs false

def pkce_plain.l0 : Nat → ByteArray → Int → Int → Option (Bool)
 | 0, _, _, _ => none
 | k + 1, x0, x5, x6 => if x6 < x5 then (if 0 ≤ x6 then (if x6 < (x0.size : Int) then ((text_Plain.f (bt x0 x6)).bind fun t505 => (if t505 = true then (pkce_plain.l0 k x0 x5 (wrap64 (x6 + 1))) else (some false))) else (none)) else (none)) else (some true)
def pkce_plain.f (k : Nat) (a0 : ByteArray) : Option (Bool) := pkce_plain.l0 k a0 (a0.size : Int) 0
theorem pkce_plain.mono_l : ∀ k, (∀ y0 y1 y2, LeO (pkce_plain.l0 k y0 y1 y2) (pkce_plain.l0 (k + 1) y0 y1 y2))
 | 0 => fun _ _ _ r h => by simp [pkce_plain.l0] at h
 | k + 1 => by
  have ih0 := pkce_plain.mono_l k
  ·
   intro y0 y1 y2
   unfold pkce_plain.l0
   repeat' first
   | (with_reducible exact ih0 _ _ _)
   | (with_reducible exact LeO.refl _)
   | (with_reducible exact LeO.none _)
   | (with_reducible refine LeO.ite ?_ ?_)
   | (with_reducible refine LeO.bind ?_ (fun _ => ?_))
   | exact ih0 _ _ _
   | exact LeO.none _
   | refine LeO.ite ?_ ?_
   | refine LeO.bind ?_ (fun _ => ?_)
theorem pkce_plain.mono : ∀ a0 k, LeO (pkce_plain.f k a0) (pkce_plain.f (k + 1) a0) := by
 intro a0 k
 have ih0 := pkce_plain.mono_l k
 unfold pkce_plain.f
 repeat' first
   | (with_reducible exact ih0 _ _ _)
   | (with_reducible exact LeO.refl _)
   | (with_reducible exact LeO.none _)
   | (with_reducible refine LeO.ite ?_ ?_)
   | (with_reducible refine LeO.bind ?_ (fun _ => ?_))
   | exact ih0 _ _ _
   | exact LeO.none _
   | refine LeO.ite ?_ ?_
   | refine LeO.bind ?_ (fun _ => ?_)
set_option maxHeartbeats 8000000 in
set_option maxRecDepth 100000 in
theorem pkce_plain.calls (k : Nat) (a0 : ByteArray) (r : Bool) (w : World) (h : pkce_plain.f k a0 = some r) :
  Calls Tryz.prog 155 #[.string a0] w fun e w' => e = .returned (.bool r) ∧ Drawn0 w w' := by
 have H : (pkce_plain.l0 k a0 (a0.size : Int) 0) = some r := h
 clear h
 have H' := Aside0.mk H
 clear H
 go_enter Tryz.func155, Tryz.ntmps155
 go_wp2
 go_loopg [6] k (fun kq v6 w' => ∃ (x6_1 : Int), v6 = .int .i64 x6_1 ∧ Aside0 (pkce_plain.l0 kq a0 (a0.size : Int) x6_1 = some r) ∧ Aside0 (kq ≤ k) ∧ Drawn0 w w')
 case atStart => exact ⟨(0), (by first | rfl | (simp; done) | (simp [*]; done)), H', ⟨Nat.le_refl _⟩, by repeat (first | exact Drawn0.refl _ | apply Drawn0.step)⟩
 case round =>
  clear H'
  try clear c1
  obtain ⟨x6_1, rfl, HA, HK1, ⟨m1, rfl⟩⟩ := hrel
  cases gk with
  | zero => exact absurd HA.out (by simp [pkce_plain.l0])
  | succ k1 =>
   have H := HA.out
   clear HA
   simp only [pkce_plain.l0] at H
   by_cases c2 : x6_1 < (a0.size : Int)
   ·
    rw [if_pos c2] at H
    have c2b0 : decide (x6_1 < (a0.size : Int)) = true := decide_eq_true c2
    clear c2
    by_cases c3 : 0 ≤ x6_1
    ·
     rw [if_pos c3] at H
     have c3b0 : decide (0 ≤ x6_1) = true := decide_eq_true c3
     clear c3
     by_cases c4 : x6_1 < (a0.size : Int)
     ·
      rw [if_pos c4] at H
      have c4b0 : decide (x6_1 < (a0.size : Int)) = true := decide_eq_true c4
      clear c4
      replace H := Option.bind_eq_some_iff.mp H
      obtain ⟨t505, A60, H⟩ := H
      replace H : (if t505 = true then (pkce_plain.l0 k1 a0 (a0.size : Int) (wrap64 (x6_1 + 1))) else (some false)) = some r := H
      have A6 := Aside0.mk A60
      clear A60
      by_cases c7 : t505 = true
      ·
       subst c7
       have H1 : (pkce_plain.l0 k1 a0 (a0.size : Int) (wrap64 (x6_1 + 1))) = some r := by rw [if_pos rfl] at H; exact H
       clear H
       have H := H1
       clear H1
       have H' := Aside0.mk H
       clear H
       have p5 : 0 ≤ (x6_1 : Int) := of_decide_eq_true (by first | (with_reducible assumption) | assumption)
       have q5 : x6_1 < (a0.size : Int) := of_decide_eq_true (by first | (with_reducible assumption) | assumption)
       have hx5 := bt_at a0 x6_1
       replace p5 := eq_true p5
       replace q5 := eq_true q5
       go_wp2_with (first | ((with_reducible refine gate_callee (f := 172) rfl ?_); refine goesL_ (some 12) rfl rfl Tryz.func172 (by kernel_rfl) rfl #[.int .u8 (bt a0 x6_1)] rfl (by (try simp only [List.map_toArray, List.map_cons, List.map_nil]); first | done | rfl | (simp only [List.length_drop, List.length_take]; rfl)) ?_; (with_reducible refine (text_Plain.calls (bt a0 x6_1) true _ A6.out).mono ?_); rintro e w' ⟨rfl, ⟨nd, rfl⟩⟩; refine ⟨_, rfl, ?_⟩))
       go_roundg k1
       case measure => have := HK1.out; omega
       case rel => exact ⟨(wrap64 (x6_1 + 1)), (by first | rfl | (simp; done) | (simp [*]; done)), H', ⟨by have := HK1.out; omega⟩, by repeat (first | exact Drawn0.refl _ | apply Drawn0.step)⟩
      ·
       replace c7 := Bool.eq_false_iff.mpr c7
       subst c7
       have H1 : (some false) = some r := by rw [if_neg (show ¬ (false = true) by decide)] at H; exact H
       clear H
       have H := H1
       clear H1
       obtain rfl := Option.some.inj H
       have p5 : 0 ≤ (x6_1 : Int) := of_decide_eq_true (by first | (with_reducible assumption) | assumption)
       have q5 : x6_1 < (a0.size : Int) := of_decide_eq_true (by first | (with_reducible assumption) | assumption)
       have hx5 := bt_at a0 x6_1
       replace p5 := eq_true p5
       replace q5 := eq_true q5
       go_wp2_with (first | ((with_reducible refine gate_callee (f := 172) rfl ?_); refine goesL_ (some 12) rfl rfl Tryz.func172 (by kernel_rfl) rfl #[.int .u8 (bt a0 x6_1)] rfl (by (try simp only [List.map_toArray, List.map_cons, List.map_nil]); first | done | rfl | (simp only [List.length_drop, List.length_take]; rfl)) ?_; (with_reducible refine (text_Plain.calls (bt a0 x6_1) false _ A6.out).mono ?_); rintro e w' ⟨rfl, ⟨nd, rfl⟩⟩; refine ⟨_, rfl, ?_⟩))
       go_ret
       exact ⟨by first | rfl | (simp; done) | (simp [*]; done), by repeat (first | exact Drawn0.refl _ | apply Drawn0.step)⟩
     ·
      rw [if_neg c4] at H
      exact absurd H (by simp)
    ·
     rw [if_neg c3] at H
     exact absurd H (by simp)
   ·
    rw [if_neg c2] at H
    have c2b0 : decide (x6_1 < (a0.size : Int)) = false := decide_eq_false c2
    clear c2
    obtain rfl := Option.some.inj H
    go_wp2
    go_ret
    exact ⟨by first | rfl | (simp; done) | (simp [*]; done), by repeat (first | exact Drawn0.refl _ | apply Drawn0.step)⟩

def text_Equal.l0 : Nat → ByteArray → ByteArray → Int → Int → Int → Option (Bool)
 | 0, _, _, _, _, _ => none
 | k + 1, x0, x1, x5, x14, x15 => if x15 < x14 then (if x15 < (x1.size : Int) then (if 0 ≤ x15 then (if x15 < (x0.size : Int) then (text_Equal.l0 k x0 x1 (Go.bits .or .i64 x5 (wrap64 (Go.bits .xor .u8 (bt x0 x15) (bt x1 x15)))) x14 (wrap64 (x15 + 1))) else (none)) else (none)) else (if 0 ≤ x15 then (if x15 < (x0.size : Int) then (text_Equal.l0 k x0 x1 (Go.bits .or .i64 x5 (wrap64 (Go.bits .xor .u8 (bt x0 x15) 0))) x14 (wrap64 (x15 + 1))) else (none)) else (none))) else (some (x5 == 0))
def text_Equal.f (k : Nat) (a0 : ByteArray) (a1 : ByteArray) : Option (Bool) := text_Equal.l0 k a0 a1 (Go.bits .xor .i64 (a0.size : Int) (a1.size : Int)) (a0.size : Int) 0
theorem text_Equal.mono_l : ∀ k, (∀ y0 y1 y2 y3 y4, LeO (text_Equal.l0 k y0 y1 y2 y3 y4) (text_Equal.l0 (k + 1) y0 y1 y2 y3 y4))
 | 0 => fun _ _ _ _ _ r h => by simp [text_Equal.l0] at h
 | k + 1 => by
  have ih0 := text_Equal.mono_l k
  ·
   intro y0 y1 y2 y3 y4
   unfold text_Equal.l0
   repeat' first
   | (with_reducible exact ih0 _ _ _ _ _)
   | (with_reducible exact LeO.refl _)
   | (with_reducible exact LeO.none _)
   | (with_reducible refine LeO.ite ?_ ?_)
   | (with_reducible refine LeO.bind ?_ (fun _ => ?_))
   | exact ih0 _ _ _ _ _
   | exact LeO.none _
   | refine LeO.ite ?_ ?_
   | refine LeO.bind ?_ (fun _ => ?_)
theorem text_Equal.mono : ∀ a0 a1 k, LeO (text_Equal.f k a0 a1) (text_Equal.f (k + 1) a0 a1) := by
 intro a0 a1 k
 have ih0 := text_Equal.mono_l k
 unfold text_Equal.f
 repeat' first
   | (with_reducible exact ih0 _ _ _ _ _)
   | (with_reducible exact LeO.refl _)
   | (with_reducible exact LeO.none _)
   | (with_reducible refine LeO.ite ?_ ?_)
   | (with_reducible refine LeO.bind ?_ (fun _ => ?_))
   | exact ih0 _ _ _ _ _
   | exact LeO.none _
   | refine LeO.ite ?_ ?_
   | refine LeO.bind ?_ (fun _ => ?_)
set_option maxHeartbeats 8000000 in
set_option maxRecDepth 100000 in
theorem text_Equal.calls (k : Nat) (a0 : ByteArray) (a1 : ByteArray) (r : Bool) (w : World) (h : text_Equal.f k a0 a1 = some r) :
  Calls Tryz.prog 156 #[.string a0, .string a1] w fun e w' => e = .returned (.bool r) ∧ Drawn0 w w' := by
 have H : (text_Equal.l0 k a0 a1 (Go.bits .xor .i64 (a0.size : Int) (a1.size : Int)) (a0.size : Int) 0) = some r := h
 clear h
 have H' := Aside0.mk H
 clear H
 go_enter Tryz.func156, Tryz.ntmps156
 go_wp2
 go_loopg [5, 15] k (fun kq v5 v15 w' => ∃ (x5_1 : Int) (x15_1 : Int), v5 = .int .i64 x5_1 ∧ v15 = .int .i64 x15_1 ∧ Aside0 (text_Equal.l0 kq a0 a1 x5_1 (a0.size : Int) x15_1 = some r) ∧ Aside0 (kq ≤ k) ∧ Drawn0 w w')
 case atStart => exact ⟨(Go.bits .xor .i64 (a0.size : Int) (a1.size : Int)), (0), (by first | rfl | (simp; done) | (simp [*]; done)), (by first | rfl | (simp; done) | (simp [*]; done)), H', ⟨Nat.le_refl _⟩, by repeat (first | exact Drawn0.refl _ | apply Drawn0.step)⟩
 case round =>
  clear H'
  try clear c1
  try clear p2
  obtain ⟨x5_1, x15_1, rfl, rfl, HA, HK1, ⟨m1, rfl⟩⟩ := hrel
  cases gk with
  | zero => exact absurd HA.out (by simp [text_Equal.l0])
  | succ k1 =>
   have H := HA.out
   clear HA
   simp only [text_Equal.l0] at H
   by_cases c3 : x15_1 < (a0.size : Int)
   ·
    rw [if_pos c3] at H
    have c3b0 : decide (x15_1 < (a0.size : Int)) = true := decide_eq_true c3
    clear c3
    by_cases c4 : x15_1 < (a1.size : Int)
    ·
     rw [if_pos c4] at H
     have c4b0 : decide (x15_1 < (a1.size : Int)) = true := decide_eq_true c4
     clear c4
     by_cases c5 : 0 ≤ x15_1
     ·
      rw [if_pos c5] at H
      have c5b0 : decide (0 ≤ x15_1) = true := decide_eq_true c5
      clear c5
      by_cases c7 : x15_1 < (a0.size : Int)
      ·
       rw [if_pos c7] at H
       have c7b0 : decide (x15_1 < (a0.size : Int)) = true := decide_eq_true c7
       clear c7
       have H' := Aside0.mk H
       clear H
       have p6 : 0 ≤ (x15_1 : Int) := of_decide_eq_true (by first | (with_reducible assumption) | assumption)
       have q6 : x15_1 < (a1.size : Int) := of_decide_eq_true (by first | (with_reducible assumption) | assumption)
       have hx6 := bt_at a1 x15_1
       replace p6 := eq_true p6
       replace q6 := eq_true q6
       have p8 : 0 ≤ (x15_1 : Int) := of_decide_eq_true (by first | (with_reducible assumption) | assumption)
       have q8 : x15_1 < (a0.size : Int) := of_decide_eq_true (by first | (with_reducible assumption) | assumption)
       have hx8 := bt_at a0 x15_1
       replace p8 := eq_true p8
       replace q8 := eq_true q8
       go_wp2
       go_roundg k1
       case measure => have := HK1.out; omega
       case rel => exact ⟨(Go.bits .or .i64 x5_1 (wrap64 (Go.bits .xor .u8 (bt a0 x15_1) (bt a1 x15_1)))), (wrap64 (x15_1 + 1)), (by first | rfl | (simp; done) | (simp [*]; done)), (by first | rfl | (simp; done) | (simp [*]; done)), H', ⟨by have := HK1.out; omega⟩, by repeat (first | exact Drawn0.refl _ | apply Drawn0.step)⟩
      ·
       rw [if_neg c7] at H
       exact absurd H (by simp)
     ·
      rw [if_neg c5] at H
      exact absurd H (by simp)
    ·
     rw [if_neg c4] at H
     have c4b0 : decide (x15_1 < (a1.size : Int)) = false := decide_eq_false c4
     clear c4
     by_cases c9 : 0 ≤ x15_1
     ·
      rw [if_pos c9] at H
      have c9b0 : decide (0 ≤ x15_1) = true := decide_eq_true c9
      clear c9
      by_cases c10 : x15_1 < (a0.size : Int)
      ·
       rw [if_pos c10] at H
       have c10b0 : decide (x15_1 < (a0.size : Int)) = true := decide_eq_true c10
       clear c10
       have H' := Aside0.mk H
       clear H
       have p11 : 0 ≤ (x15_1 : Int) := of_decide_eq_true (by first | (with_reducible assumption) | assumption)
       have q11 : x15_1 < (a0.size : Int) := of_decide_eq_true (by first | (with_reducible assumption) | assumption)
       have hx11 := bt_at a0 x15_1
       replace p11 := eq_true p11
       replace q11 := eq_true q11
       go_wp2
       go_roundg k1
       case measure => have := HK1.out; omega
       case rel => exact ⟨(Go.bits .or .i64 x5_1 (wrap64 (Go.bits .xor .u8 (bt a0 x15_1) 0))), (wrap64 (x15_1 + 1)), (by first | rfl | (simp; done) | (simp [*]; done)), (by first | rfl | (simp; done) | (simp [*]; done)), H', ⟨by have := HK1.out; omega⟩, by repeat (first | exact Drawn0.refl _ | apply Drawn0.step)⟩
      ·
       rw [if_neg c10] at H
       exact absurd H (by simp)
     ·
      rw [if_neg c9] at H
      exact absurd H (by simp)
   ·
    rw [if_neg c3] at H
    have c3b0 : decide (x15_1 < (a0.size : Int)) = false := decide_eq_false c3
    clear c3
    obtain rfl := Option.some.inj H
    go_wp2
    go_ret
    exact ⟨by first | rfl | (simp; done) | (simp [*]; done), by repeat (first | exact Drawn0.refl _ | apply Drawn0.step)⟩

-- NOT PRINTED: function 196 (strings_Builder_WriteByte)

def EncRel (s : ByteArray) (B b : Nat) (k bits h : Nat) (wr : World) : Prop :=
 bits < 4294967296 ∧ B ≤ wr.heap.size ∧ ∃ bs : List UInt8, bs.length * 6 + h ≤ 8 * k ∧ Lib.IsBuilderF 185 5 B b (Lib.byteCells bs) wr ∧ bs ++ X.encS (s.data.toList.drop k) (bits % 2 ^ h) h = enc s.data.toList

set_option maxHeartbeats 1000000 in
theorem text_Encode.says (s : ByteArray) (w : World) (hs : s.size ≤ 1000000000) : Calls Tryz.prog 173 #[.string s] w fun e w' => e = .returned (.string ⟨(enc s.data.toList).toArray⟩) ∧ Below w.heap.size w w' := by
 go_enter Tryz.func173, Tryz.ntmps173
 go_wp2
 go_loopw [4, 5, 9] (fun v4 v5 v9 wr => ∃ (k bits h : Nat) , k ≤ s.size ∧ v9 = .int .i64 k ∧ v4 = .int .u32 bits ∧ h < 6 ∧ v5 = .int .i64 h ∧ EncRel s w.heap.size w.heap.size k bits h wr ∧ Below w.heap.size w wr) (fun _ _ v9 _ => s.size - (intOf v9).toNat)
 case atStart =>
  exact ⟨0, 0, 0, by omega, rfl, rfl, by omega, rfl, ⟨by omega, by simp, [], by simp, Lib.IsBuilderF.of (Lib.fresh_isBuilder 185 5 w), by simp [enc]⟩, (Below.refl _ _).alloc (Nat.le_refl _) _⟩
 case round =>
  obtain ⟨k, bits, h, hk, rfl, rfl, hh, rfl, hR, hb⟩ := hrel
  by_cases hlt : k < s.size
  ·
   have hx0 := s[k].toNat_lt
   obtain ⟨x, hx⟩ : ∃ x : Nat, x = bits * 256 % 4294967296 + s[k].toNat := ⟨_, rfl⟩
   have e0 : Go.bits BinOp.or IntKind.u32 (↑bits * 256 % 4294967296) (↑s[k].toNat % 4294967296) = (x : Int) := by
    rw [hx, ← u32_or8 (bits * 256 % 4294967296) s[k].toNat (by omega) (by omega) (by omega), show ((s[k].toNat : Nat) : Int) % 4294967296 = (s[k].toNat : Int) from by omega]
    congr 1
   have hxm : x % 2 ^ (h + 8) = bits % 2 ^ h * 256 + s[k].toNat := by rw [hx]; exact enc_put _ _ _ hh hx0
   have hx32 : x < 4294967296 := by omega
   have hR1 : EncRel s w.heap.size w.heap.size (k + 1) x (h + 8) wr := by
    obtain ⟨hbits, hBw, bs, hlen, hB, hbs⟩ := hR
    refine ⟨hx32, hBw, bs, by omega, hB, ?_⟩
    rw [← hbs, hxm]
    congr 1
    rw [show s.data.toList.drop k = s[k] :: s.data.toList.drop (k + 1) from List.drop_eq_getElem_cons (by simpa using hlt), encS_cons _ _ _ _ hh]
   clear hxm hx0
   clear hx hR
   go_wp2
   clear e0
   obtain ⟨wo, rfl⟩ : ∃ wo : World, wo = wr := ⟨_, rfl⟩
   go_loopw [5] (fun v5 wr => ∃ (h2 : Nat) , h2 < 18 ∧ v5 = .int .i64 h2 ∧ EncRel s w.heap.size w.heap.size (k+1) x h2 wr ∧ Below w.heap.size w wr) (fun v5 _ => (intOf v5).toNat)
   case atStart => exact ⟨h + 8, by omega, by go_num, hR1, hb⟩
   case round =>
    clear hR1 hb
    obtain ⟨h2, hh2, rfl, hR2, hb⟩ := hrel
    by_cases h6 : 6 ≤ h2
    ·
     obtain ⟨-, hBw, bs, hlen, hB, hbs⟩ := hR2
     have Hbs := Lib.hid hbs
     clear hbs
     have hdec : decide (6 ≤ (h2 : Int)) = true := by simp; omega
     have e1 : Go.bits BinOp.and IntKind.u32 (↑x / 2 ^ (h2 - 6)) 63 = ((x / 2 ^ (h2 - 6) % 64 : Nat) : Int) := by
      rw [← u32_and63 (x / 2 ^ (h2 - 6)) (Nat.lt_of_le_of_lt (Nat.div_le_self _ _) hx32)]; simp
     obtain ⟨j, hj⟩ : ∃ j, j = x / 2 ^ (h2 - 6) % 64 := ⟨_, rfl⟩
     rw [← hj] at e1
     have hj64 : j < 64 := by omega
     have Hj := Lib.hid hj
     clear hj
     have hat := alph_at j hj64
     unfold alphS at hat
     go_wp2_with fail
     refine (bld_byte w.heap.size w.heap.size (Lib.byteCells bs) ((al j).toNat) _ hB ?_ hBw).mono ?_
     ·
      rw [Lib.byteCells_length]; omega
     rintro e w1 ⟨rfl, hB1, hb1, -⟩
     go_wp2
     go_roundw
     case measure => simp [intOf]; omega
     case rel =>
      refine ⟨h2 - 6, by omega, by go_num, ⟨hx32, Nat.le_trans hBw hb1.size, bs ++ [al j], ?_, .inr (by rw [← enc_one_put]; exact hB1), ?_⟩, hb.trans hb1⟩
      ·
       simp; omega
      ·
       rw [← Hbs.out, encS_emit _ _ _ h6, ← enc_digit _ _ h6 hh2, ← Hj.out, enc_rest _ _ h6]
       simp
    ·
     have hdec : decide (6 ≤ (h2 : Int)) = false := by simp; omega
     go_wp2
     go_roundw
     case measure => simp [intOf]; omega
     case rel => exact ⟨k + 1, x, h2, by omega, by go_num, rfl, by omega, rfl, hR2, hb⟩
  ·
   obtain rfl : k = s.size := by omega
   obtain ⟨hbits, hBw, bs, hlen, hB, hbs⟩ := hR
   rw [List.drop_of_length_le (by simp), encS_nil _ _ hh] at hbs
   have Hbs := Lib.hid hbs
   clear hbs
   by_cases h0 : h = 0
   ·
    subst h0
    go_wp2_with fail
    refine (Tryz.Builder_String_any_k w.heap.size w.heap.size bs _ hB hBw).mono ?_
    rintro e w1 ⟨rfl, -, hb1, -⟩
    go_wp2
    go_ret
    refine ⟨?_, hb.trans hb1⟩
    rw [← Hbs.out]; simp
   ·
    have e1 : Go.bits BinOp.and IntKind.u32 (↑bits * 2 ^ (6 - h) % 4294967296) 63 = ((bits * 2 ^ (6 - h) % 4294967296 % 64 : Nat) : Int) := by
     rw [← u32_and63 (bits * 2 ^ (6 - h) % 4294967296) (by omega)]; simp
    obtain ⟨j, hj⟩ : ∃ j, j = bits * 2 ^ (6 - h) % 4294967296 % 64 := ⟨_, rfl⟩
    rw [← hj] at e1
    have hj64 : j < 64 := by omega
    have Hj := Lib.hid hj
    clear hj
    have hat := alph_at j hj64
    unfold alphS at hat
    have hpos : decide (0 < h) = true := by simp; omega
    go_wp2_with fail
    refine (bld_byte w.heap.size w.heap.size (Lib.byteCells bs) ((al j).toNat) _ hB ?_ hBw).mono ?_
    ·
     rw [Lib.byteCells_length]; omega
    rintro e w1 ⟨rfl, hB1, hb1, -⟩
    go_wp2_with fail
    refine (Tryz.Builder_String_any_k w.heap.size w.heap.size (bs ++ [al j]) _ (.inr (by rw [← enc_one_put]; exact hB1)) (Nat.le_trans hBw hb1.size)).mono ?_
    rintro e w2 ⟨rfl, -, hb2, -⟩
    go_wp2
    go_ret
    refine ⟨?_, (hb.trans hb1).trans hb2⟩
    rw [← Hbs.out, if_neg h0, ← enc_last _ _ hh, ← Hj.out]
    rfl

def text_Encode.f (a0 : ByteArray) : Option (ByteArray) := if a0.size ≤ 1000000000 then some ⟨(enc a0.data.toList).toArray⟩ else none
theorem text_Encode.calls (a0 : ByteArray) (r : ByteArray) (w : World) (h : text_Encode.f a0 = some r) :
  Calls Tryz.prog 173 #[.string a0] w fun e w' => e = .returned (.string r) ∧ Below w.heap.size w w' := by
 unfold text_Encode.f at h
 split at h
 case isTrue hs =>
  obtain rfl := Option.some.inj h
  exact text_Encode.says a0 w hs
 case isFalse hs => exact absurd h (by simp)

def pkce_Challenge.f (a0 : ByteArray) : Option (ByteArray) := (hash_Sum.f a0).bind fun t506 => ((text_Encode.f t506).bind fun t507 => (some t507))
set_option maxHeartbeats 8000000 in
set_option maxRecDepth 100000 in
theorem pkce_Challenge.calls (a0 : ByteArray) (r : ByteArray) (w : World) (h : pkce_Challenge.f a0 = some r) (hGL : GL w) :
  Calls Tryz.prog 157 #[.string a0] w fun e w' => e = .returned (.string r) ∧ Below w.heap.size w w' := by
 have HGL := Aside0.mk hGL
 clear hGL
 have HB := Aside0.mk (Below.refl w.heap.size w)
 have H : ((hash_Sum.f a0).bind fun t506 => ((text_Encode.f t506).bind fun t507 => (some t507))) = some r := h
 clear h
 replace H := Option.bind_eq_some_iff.mp H
 obtain ⟨t506, A20, H⟩ := H
 replace H : ((text_Encode.f t506).bind fun t507 => (some t507)) = some r := H
 have A2 := Aside0.mk A20
 clear A20
 replace H := Option.bind_eq_some_iff.mp H
 obtain ⟨t507, A30, H⟩ := H
 replace H : (some t507) = some r := H
 have A3 := Aside0.mk A30
 clear A30
 obtain rfl := Option.some.inj H
 go_enter Tryz.func157, Tryz.ntmps157
 go_wp2_with (first | ((with_reducible refine gate_callee (f := 162) rfl ?_); refine goesL_ (some 4) rfl rfl Tryz.func162 (by kernel_rfl) rfl #[.string a0] rfl (by (try simp only [List.map_toArray, List.map_cons, List.map_nil]); first | done | rfl | (simp only [List.length_drop, List.length_take]; rfl)) ?_; (with_reducible refine (hash_Sum.calls a0 t506 _ A2.out (GL.below HGL.out (by repeat (first | (with_reducible first | exact HB.out | apply below_alloc | apply pw_below_drewN | apply below_drew1) | exact HB.out)))).mono ?_); rintro e w4 ⟨rfl, hb⟩; refine ⟨_, rfl, ?_⟩; have n0_ := Aside0.mk (below_step (by repeat (first | (with_reducible first | exact HB.out | apply below_alloc | apply pw_below_drewN | apply below_drew1) | exact HB.out)) hb); clear HB; have HB := n0_; clear n0_; (try clear hb); (try clear hb2); (try clear hk); (try clear hi)) | ((with_reducible refine gate_callee (f := 173) rfl ?_); refine goesL_ (some 5) rfl rfl Tryz.func173 (by kernel_rfl) rfl #[.string t506] rfl (by (try simp only [List.map_toArray, List.map_cons, List.map_nil]); first | done | rfl | (simp only [List.length_drop, List.length_take]; rfl)) ?_; (with_reducible refine (text_Encode.calls t506 t507 _ A3.out).mono ?_); rintro e w5 ⟨rfl, hb⟩; refine ⟨_, rfl, ?_⟩; have n0_ := Aside0.mk (below_step (by repeat (first | (with_reducible first | exact HB.out | apply below_alloc | apply pw_below_drewN | apply below_drew1) | exact HB.out)) hb); clear HB; have HB := n0_; clear n0_; (try clear hb); (try clear hb2); (try clear hk); (try clear hi)))
 go_ret
 exact ⟨by first | rfl | (simp [errW_none, errW_some] <;> rfl) | (simp [*, errW_none, errW_some] <;> rfl), by repeat (first | (with_reducible first | exact HB.out | apply below_alloc | apply pw_below_drewN | apply below_drew1) | exact HB.out)⟩

def pkce_Right.f (k : Nat) (a0 : ByteArray) (a1 : ByteArray) : Option (Bool) := if (a1.size : Int) ≥ 43 then (if (a1.size : Int) ≤ 128 then ((pkce_plain.f k a1).bind fun t508 => (if t508 = true then ((pkce_Challenge.f a1).bind fun t509 => ((text_Equal.f k t509 a0).bind fun t510 => (some t510))) else (some false))) else (some false)) else (some false)
theorem pkce_Right.mono : ∀ a0 a1 k, LeO (pkce_Right.f k a0 a1) (pkce_Right.f (k + 1) a0 a1) := by
 intro a0 a1 k
 unfold pkce_Right.f
 repeat' first
   | (with_reducible exact pkce_plain.mono _ _)
   | (with_reducible exact text_Equal.mono _ _ _)
   | (with_reducible exact LeO.refl _)
   | (with_reducible exact LeO.none _)
   | (with_reducible refine LeO.ite ?_ ?_)
   | (with_reducible refine LeO.bind ?_ (fun _ => ?_))
   | exact pkce_plain.mono _ _
   | exact text_Equal.mono _ _ _
   | exact LeO.none _
   | refine LeO.ite ?_ ?_
   | refine LeO.bind ?_ (fun _ => ?_)
set_option maxHeartbeats 8000000 in
set_option maxRecDepth 100000 in
theorem pkce_Right.calls (k : Nat) (a0 : ByteArray) (a1 : ByteArray) (r : Bool) (w : World) (h : pkce_Right.f k a0 a1 = some r) (hGL : GL w) :
  Calls Tryz.prog 123 #[.string a0, .string a1] w fun e w' => e = .returned (.bool r) ∧ Below w.heap.size w w' := by
 have HGL := Aside0.mk hGL
 clear hGL
 have HB := Aside0.mk (Below.refl w.heap.size w)
 have H : (if (a1.size : Int) ≥ 43 then (if (a1.size : Int) ≤ 128 then ((pkce_plain.f k a1).bind fun t508 => (if t508 = true then ((pkce_Challenge.f a1).bind fun t509 => ((text_Equal.f k t509 a0).bind fun t510 => (some t510))) else (some false))) else (some false)) else (some false)) = some r := h
 clear h
 by_cases c3 : (a1.size : Int) ≥ 43
 ·
  rw [if_pos c3] at H
  have c3b0 : decide (43 ≤ (a1.size : Int)) = true := decide_eq_true c3
  have c3b1 : decide (43 ≤ a1.size) = true := decide_eq_true (by omega)
  clear c3
  by_cases c4 : (a1.size : Int) ≤ 128
  ·
   rw [if_pos c4] at H
   have c4b0 : decide ((a1.size : Int) ≤ 128) = true := decide_eq_true c4
   have c4b1 : decide (a1.size ≤ 128) = true := decide_eq_true (by omega)
   clear c4
   replace H := Option.bind_eq_some_iff.mp H
   obtain ⟨t508, A50, H⟩ := H
   replace H : (if t508 = true then ((pkce_Challenge.f a1).bind fun t509 => ((text_Equal.f k t509 a0).bind fun t510 => (some t510))) else (some false)) = some r := H
   have A5 := Aside0.mk A50
   clear A50
   by_cases c6 : t508 = true
   ·
    subst c6
    have H1 : ((pkce_Challenge.f a1).bind fun t509 => ((text_Equal.f k t509 a0).bind fun t510 => (some t510))) = some r := by rw [if_pos rfl] at H; exact H
    clear H
    have H := H1
    clear H1
    replace H := Option.bind_eq_some_iff.mp H
    obtain ⟨t509, A70, H⟩ := H
    replace H : ((text_Equal.f k t509 a0).bind fun t510 => (some t510)) = some r := H
    have A7 := Aside0.mk A70
    clear A70
    replace H := Option.bind_eq_some_iff.mp H
    obtain ⟨t510, A80, H⟩ := H
    replace H : (some t510) = some r := H
    have A8 := Aside0.mk A80
    clear A80
    obtain rfl := Option.some.inj H
    go_enter Tryz.func123, Tryz.ntmps123
    go_wp2_with (first | (go_at_call 155; (with_reducible refine (pkce_plain.calls k a1 true _ A5.out).mono ?_); rintro e w' ⟨rfl, ⟨nd, rfl⟩⟩) | (go_at_call 157; (with_reducible refine (pkce_Challenge.calls a1 t509 _ A7.out (GL.below HGL.out (by repeat (first | (with_reducible first | exact HB.out | apply below_alloc | apply pw_below_drewN | apply below_drew1) | exact HB.out)))).mono ?_); rintro e w9 ⟨rfl, hb⟩; have n0_ := Aside0.mk (below_step (by repeat (first | (with_reducible first | exact HB.out | apply below_alloc | apply pw_below_drewN | apply below_drew1) | exact HB.out)) hb); clear HB; have HB := n0_; clear n0_; (try clear hb); (try clear hb2); (try clear hk); (try clear hi)) | (go_at_call 156; (with_reducible refine (text_Equal.calls k t509 a0 t510 _ A8.out).mono ?_); rintro e w' ⟨rfl, ⟨nd, rfl⟩⟩))
    go_ret
    exact ⟨by first | rfl | (simp [errW_none, errW_some] <;> rfl) | (simp [*, errW_none, errW_some] <;> rfl), by repeat (first | (with_reducible first | exact HB.out | apply below_alloc | apply pw_below_drewN | apply below_drew1) | exact HB.out)⟩
   ·
    replace c6 := Bool.eq_false_iff.mpr c6
    subst c6
    have H1 : (some false) = some r := by rw [if_neg (show ¬ (false = true) by decide)] at H; exact H
    clear H
    have H := H1
    clear H1
    obtain rfl := Option.some.inj H
    go_enter Tryz.func123, Tryz.ntmps123
    go_wp2_with (first | (go_at_call 155; (with_reducible refine (pkce_plain.calls k a1 false _ A5.out).mono ?_); rintro e w' ⟨rfl, ⟨nd, rfl⟩⟩))
    go_ret
    exact ⟨by first | rfl | (simp [errW_none, errW_some] <;> rfl) | (simp [*, errW_none, errW_some] <;> rfl), by repeat (first | (with_reducible first | exact HB.out | apply below_alloc | apply pw_below_drewN | apply below_drew1) | exact HB.out)⟩
  ·
   rw [if_neg c4] at H
   have c4b0 : decide ((a1.size : Int) ≤ 128) = false := decide_eq_false c4
   have c4b1 : decide (a1.size ≤ 128) = false := decide_eq_false (by omega)
   clear c4
   obtain rfl := Option.some.inj H
   go_enter Tryz.func123, Tryz.ntmps123
   go_wp2
   go_ret
   exact ⟨by first | rfl | (simp [errW_none, errW_some] <;> rfl) | (simp [*, errW_none, errW_some] <;> rfl), by repeat (first | (with_reducible first | exact HB.out | apply below_alloc | apply pw_below_drewN | apply below_drew1) | exact HB.out)⟩
 ·
  rw [if_neg c3] at H
  have c3b0 : decide (43 ≤ (a1.size : Int)) = false := decide_eq_false c3
  have c3b1 : decide (43 ≤ a1.size) = false := decide_eq_false (by omega)
  clear c3
  obtain rfl := Option.some.inj H
  go_enter Tryz.func123, Tryz.ntmps123
  go_wp2
  go_ret
  exact ⟨by first | rfl | (simp [errW_none, errW_some] <;> rfl) | (simp [*, errW_none, errW_some] <;> rfl), by repeat (first | (with_reducible first | exact HB.out | apply below_alloc | apply pw_below_drewN | apply below_drew1) | exact HB.out)⟩

def grant_Redeem.f (k : Nat) (a0_0 : ByteArray) (a0_1 : ByteArray) (a0_2 : ByteArray) (a0_3 : ByteArray) (a0_4 : ByteArray) (a0_5 : ByteArray) (a0_6 : ByteArray) (a0_7 : ByteArray) (a0_8 : ByteArray) (a0_9 : ByteArray) (a0_10 : ByteArray) (a0_11 : Int) (a0_12 : ByteArray) (a1 : ByteArray) (a2 : ByteArray) (a3 : ByteArray) (a4 : Int) : Option (Bool) := if a0_12.toList = ([] : List UInt8) then (if a0_11 > a4 then (if a0_1.toList = a1.toList then (if a0_2.toList = a2.toList then ((pkce_Right.f k a0_3 a3).bind fun t512 => (some t512)) else (some false)) else (some false)) else (some false)) else (some false)
theorem grant_Redeem.mono : ∀ a0 a1 a2 a3 a4 a5 a6 a7 a8 a9 a10 a11 a12 a13 a14 a15 a16 k, LeO (grant_Redeem.f k a0 a1 a2 a3 a4 a5 a6 a7 a8 a9 a10 a11 a12 a13 a14 a15 a16) (grant_Redeem.f (k + 1) a0 a1 a2 a3 a4 a5 a6 a7 a8 a9 a10 a11 a12 a13 a14 a15 a16) := by
 intro a0 a1 a2 a3 a4 a5 a6 a7 a8 a9 a10 a11 a12 a13 a14 a15 a16 k
 unfold grant_Redeem.f
 repeat' first
   | (with_reducible exact pkce_Right.mono _ _ _)
   | (with_reducible exact LeO.refl _)
   | (with_reducible exact LeO.none _)
   | (with_reducible refine LeO.ite ?_ ?_)
   | (with_reducible refine LeO.bind ?_ (fun _ => ?_))
   | exact pkce_Right.mono _ _ _
   | exact LeO.none _
   | refine LeO.ite ?_ ?_
   | refine LeO.bind ?_ (fun _ => ?_)
set_option maxHeartbeats 8000000 in
set_option maxRecDepth 100000 in
theorem grant_Redeem.calls (k : Nat) (a0_0 : ByteArray) (a0_1 : ByteArray) (a0_2 : ByteArray) (a0_3 : ByteArray) (a0_4 : ByteArray) (a0_5 : ByteArray) (a0_6 : ByteArray) (a0_7 : ByteArray) (a0_8 : ByteArray) (a0_9 : ByteArray) (a0_10 : ByteArray) (a0_11 : Int) (a0_12 : ByteArray) (a1 : ByteArray) (a2 : ByteArray) (a3 : ByteArray) (a4 : Int) (r : Bool) (w : World) (h : grant_Redeem.f k a0_0 a0_1 a0_2 a0_3 a0_4 a0_5 a0_6 a0_7 a0_8 a0_9 a0_10 a0_11 a0_12 a1 a2 a3 a4 = some r) (hGL : GL w) :
  Calls Tryz.prog 77 #[.agg #[.string a0_0, .string a0_1, .string a0_2, .string a0_3, .string a0_4, .string a0_5, .string a0_6, .string a0_7, .string a0_8, .string a0_9, .string a0_10, .int .i64 a0_11, .string a0_12], .string a1, .string a2, .string a3, .int .i64 a4] w fun e w' => e = .returned (.bool r) ∧ Below w.heap.size w w' := by
 have HGL := Aside0.mk hGL
 clear hGL
 have hu104 := Tryz.underlying104
 have HB := Aside0.mk (Below.refl w.heap.size w)
 have H : (if a0_12.toList = ([] : List UInt8) then (if a0_11 > a4 then (if a0_1.toList = a1.toList then (if a0_2.toList = a2.toList then ((pkce_Right.f k a0_3 a3).bind fun t512 => (some t512)) else (some false)) else (some false)) else (some false)) else (some false)) = some r := h
 clear h
 by_cases c6 : a0_12.toList = ([] : List UInt8)
 ·
  rw [if_pos c6] at H
  have c6b0 : (a0_12.toList == ([] : List UInt8)) = true := beq_iff_eq.mpr c6
  have c6b1 : (a0_12.toList != ([] : List UInt8)) = false := bne_eq_false_iff_eq.mpr c6
  clear c6
  by_cases c7 : a0_11 > a4
  ·
   rw [if_pos c7] at H
   have c7b0 : decide (a4 < a0_11) = true := decide_eq_true c7
   clear c7
   by_cases c8 : a0_1.toList = a1.toList
   ·
    rw [if_pos c8] at H
    have c8b0 : (a0_1.toList == a1.toList) = true := beq_iff_eq.mpr c8
    have c8b1 : (a0_1.toList != a1.toList) = false := bne_eq_false_iff_eq.mpr c8
    clear c8
    by_cases c9 : a0_2.toList = a2.toList
    ·
     rw [if_pos c9] at H
     have c9b0 : (a0_2.toList == a2.toList) = true := beq_iff_eq.mpr c9
     have c9b1 : (a0_2.toList != a2.toList) = false := bne_eq_false_iff_eq.mpr c9
     clear c9
     replace H := Option.bind_eq_some_iff.mp H
     obtain ⟨t512, A100, H⟩ := H
     replace H : (some t512) = some r := H
     have A10 := Aside0.mk A100
     clear A100
     obtain rfl := Option.some.inj H
     go_enter Tryz.func77, Tryz.ntmps77
     go_wp2_with (first | ((with_reducible refine gate_dst (N := 5) rfl ?_); refine box_event ?hg (N := 5) ?hd (cs := #[.string a0_0, .string a0_1, .string a0_2, .string a0_3, .string a0_4, .string a0_5, .string a0_6, .string a0_7, .string a0_8, .string a0_9, .string a0_10, .int .i64 a0_11, .string a0_12]) (t := 104) ?hr ?_; (case hd => rfl); (case hg => rfl); (case hr => first | (go_simp; done) | (go_simp; rfl)); intro gb511 hg w11 hbox hb; have n0_ := Aside0.mk (below_step (by repeat (first | (with_reducible first | exact HB.out | apply below_alloc | apply pw_below_drewN | apply below_drew1) | exact HB.out)) hb); have n1_ := Aside0.mk (hbox); have n2_ := Aside0.mk ((by rw [hg]; exact (below_size (by repeat (first | (with_reducible first | exact HB.out | apply below_alloc | apply pw_below_drewN | apply below_drew1) | exact HB.out))) : w.heap.size ≤ gb511)); have n3_ := Aside0.mk ((by rw [hg]; exact (below_size (by repeat (first | (with_reducible first | exact HB.out | apply below_alloc | apply pw_below_drewN | apply below_drew1) | exact HB.out))) : w.heap.size ≤ gb511)); clear HB; have HB := n0_; have BK511 := n1_; have GW511 := n2_; have GE511 := n3_; clear n0_ n1_ n2_ n3_; clear hb hbox hg; have hcz12_0 : w11.cell? ⟨gb511, 0, none⟩ = some (.string a0_0) := (blk_cell BK511.out 0).trans rfl; have hcz12_1 : w11.cell? ⟨gb511, 1, none⟩ = some (.string a0_1) := (blk_cell BK511.out 1).trans rfl; have hcz12_2 : w11.cell? ⟨gb511, 2, none⟩ = some (.string a0_2) := (blk_cell BK511.out 2).trans rfl; have hcz12_3 : w11.cell? ⟨gb511, 3, none⟩ = some (.string a0_3) := (blk_cell BK511.out 3).trans rfl; have hcz12_4 : w11.cell? ⟨gb511, 4, none⟩ = some (.string a0_4) := (blk_cell BK511.out 4).trans rfl; have hcz12_5 : w11.cell? ⟨gb511, 5, none⟩ = some (.string a0_5) := (blk_cell BK511.out 5).trans rfl; have hcz12_6 : w11.cell? ⟨gb511, 6, none⟩ = some (.string a0_6) := (blk_cell BK511.out 6).trans rfl; have hcz12_7 : w11.cell? ⟨gb511, 7, none⟩ = some (.string a0_7) := (blk_cell BK511.out 7).trans rfl; have hcz12_8 : w11.cell? ⟨gb511, 8, none⟩ = some (.string a0_8) := (blk_cell BK511.out 8).trans rfl; have hcz12_9 : w11.cell? ⟨gb511, 9, none⟩ = some (.string a0_9) := (blk_cell BK511.out 9).trans rfl; have hcz12_10 : w11.cell? ⟨gb511, 10, none⟩ = some (.string a0_10) := (blk_cell BK511.out 10).trans rfl; have hcz12_11 : w11.cell? ⟨gb511, 11, none⟩ = some (.int .i64 a0_11) := (blk_cell BK511.out 11).trans rfl; have hcz12_12 : w11.cell? ⟨gb511, 12, none⟩ = some (.string a0_12) := (blk_cell BK511.out 12).trans rfl; have hfz12_0 := blk_frozen BK511.out 0; have hfz12_1 := blk_frozen BK511.out 1; have hfz12_2 := blk_frozen BK511.out 2; have hfz12_3 := blk_frozen BK511.out 3; have hfz12_4 := blk_frozen BK511.out 4; have hfz12_5 := blk_frozen BK511.out 5; have hfz12_6 := blk_frozen BK511.out 6; have hfz12_7 := blk_frozen BK511.out 7; have hfz12_8 := blk_frozen BK511.out 8; have hfz12_9 := blk_frozen BK511.out 9; have hfz12_10 := blk_frozen BK511.out 10; have hfz12_11 := blk_frozen BK511.out 11; have hfz12_12 := blk_frozen BK511.out 12) | (go_at_call 123; (with_reducible refine (pkce_Right.calls k a0_3 a3 t512 _ A10.out (GL.below HGL.out (by repeat (first | (with_reducible first | exact HB.out | apply below_alloc | apply pw_below_drewN | apply below_drew1) | exact HB.out)))).mono ?_); rintro e w13 ⟨rfl, hb⟩; have n0_ := Aside0.mk (blk_below (g := gb511) (o := .cells #[.string a0_0, .string a0_1, .string a0_2, .string a0_3, .string a0_4, .string a0_5, .string a0_6, .string a0_7, .string a0_8, .string a0_9, .string a0_10, .int .i64 a0_11, .string a0_12] 104 (0, 0)) (by (with_reducible repeat (first | refine blk_drewN ?_ _ | refine blk_drew ?_ | refine blk_alloc ?_ _)); exact BK511.out) hb); have n1_ := Aside0.mk (below_step (by repeat (first | (with_reducible first | exact HB.out | apply below_alloc | apply pw_below_drewN | apply below_drew1 | refine below_set ?_ GE511.out) | exact HB.out)) hb); clear BK511; clear HB; have BK511 := n0_; have HB := n1_; clear n0_ n1_; (try clear hb); (try clear hb2); (try clear hk); (try clear hi)))
     go_ret
     exact ⟨by first | rfl | (simp [errW_none, errW_some] <;> rfl) | (simp [*, errW_none, errW_some] <;> rfl), by repeat (first | (with_reducible first | exact HB.out | apply below_alloc | apply pw_below_drewN | apply below_drew1 | refine below_set ?_ GE511.out) | exact HB.out)⟩
    ·
     rw [if_neg c9] at H
     have c9b0 : (a0_2.toList == a2.toList) = false := beq_eq_false_iff_ne.mpr c9
     have c9b1 : (a0_2.toList != a2.toList) = true := bne_iff_ne.mpr c9
     obtain rfl := Option.some.inj H
     go_enter Tryz.func77, Tryz.ntmps77
     go_wp2_with (first | ((with_reducible refine gate_dst (N := 5) rfl ?_); refine box_event ?hg (N := 5) ?hd (cs := #[.string a0_0, .string a0_1, .string a0_2, .string a0_3, .string a0_4, .string a0_5, .string a0_6, .string a0_7, .string a0_8, .string a0_9, .string a0_10, .int .i64 a0_11, .string a0_12]) (t := 104) ?hr ?_; (case hd => rfl); (case hg => rfl); (case hr => first | (go_simp; done) | (go_simp; rfl)); intro gb511 hg w14 hbox hb; have n0_ := Aside0.mk (below_step (by repeat (first | (with_reducible first | exact HB.out | apply below_alloc | apply pw_below_drewN | apply below_drew1) | exact HB.out)) hb); have n1_ := Aside0.mk (hbox); have n2_ := Aside0.mk ((by rw [hg]; exact (below_size (by repeat (first | (with_reducible first | exact HB.out | apply below_alloc | apply pw_below_drewN | apply below_drew1) | exact HB.out))) : w.heap.size ≤ gb511)); have n3_ := Aside0.mk ((by rw [hg]; exact (below_size (by repeat (first | (with_reducible first | exact HB.out | apply below_alloc | apply pw_below_drewN | apply below_drew1) | exact HB.out))) : w.heap.size ≤ gb511)); clear HB; have HB := n0_; have BK511 := n1_; have GW511 := n2_; have GE511 := n3_; clear n0_ n1_ n2_ n3_; clear hb hbox hg; have hcz15_0 : w14.cell? ⟨gb511, 0, none⟩ = some (.string a0_0) := (blk_cell BK511.out 0).trans rfl; have hcz15_1 : w14.cell? ⟨gb511, 1, none⟩ = some (.string a0_1) := (blk_cell BK511.out 1).trans rfl; have hcz15_2 : w14.cell? ⟨gb511, 2, none⟩ = some (.string a0_2) := (blk_cell BK511.out 2).trans rfl; have hcz15_3 : w14.cell? ⟨gb511, 3, none⟩ = some (.string a0_3) := (blk_cell BK511.out 3).trans rfl; have hcz15_4 : w14.cell? ⟨gb511, 4, none⟩ = some (.string a0_4) := (blk_cell BK511.out 4).trans rfl; have hcz15_5 : w14.cell? ⟨gb511, 5, none⟩ = some (.string a0_5) := (blk_cell BK511.out 5).trans rfl; have hcz15_6 : w14.cell? ⟨gb511, 6, none⟩ = some (.string a0_6) := (blk_cell BK511.out 6).trans rfl; have hcz15_7 : w14.cell? ⟨gb511, 7, none⟩ = some (.string a0_7) := (blk_cell BK511.out 7).trans rfl; have hcz15_8 : w14.cell? ⟨gb511, 8, none⟩ = some (.string a0_8) := (blk_cell BK511.out 8).trans rfl; have hcz15_9 : w14.cell? ⟨gb511, 9, none⟩ = some (.string a0_9) := (blk_cell BK511.out 9).trans rfl; have hcz15_10 : w14.cell? ⟨gb511, 10, none⟩ = some (.string a0_10) := (blk_cell BK511.out 10).trans rfl; have hcz15_11 : w14.cell? ⟨gb511, 11, none⟩ = some (.int .i64 a0_11) := (blk_cell BK511.out 11).trans rfl; have hcz15_12 : w14.cell? ⟨gb511, 12, none⟩ = some (.string a0_12) := (blk_cell BK511.out 12).trans rfl; have hfz15_0 := blk_frozen BK511.out 0; have hfz15_1 := blk_frozen BK511.out 1; have hfz15_2 := blk_frozen BK511.out 2; have hfz15_3 := blk_frozen BK511.out 3; have hfz15_4 := blk_frozen BK511.out 4; have hfz15_5 := blk_frozen BK511.out 5; have hfz15_6 := blk_frozen BK511.out 6; have hfz15_7 := blk_frozen BK511.out 7; have hfz15_8 := blk_frozen BK511.out 8; have hfz15_9 := blk_frozen BK511.out 9; have hfz15_10 := blk_frozen BK511.out 10; have hfz15_11 := blk_frozen BK511.out 11; have hfz15_12 := blk_frozen BK511.out 12))
     go_ret
     exact ⟨by first | rfl | (simp [errW_none, errW_some] <;> rfl) | (simp [*, errW_none, errW_some] <;> rfl), by repeat (first | (with_reducible first | exact HB.out | apply below_alloc | apply pw_below_drewN | apply below_drew1 | refine below_set ?_ GE511.out) | exact HB.out)⟩
   ·
    rw [if_neg c8] at H
    have c8b0 : (a0_1.toList == a1.toList) = false := beq_eq_false_iff_ne.mpr c8
    have c8b1 : (a0_1.toList != a1.toList) = true := bne_iff_ne.mpr c8
    obtain rfl := Option.some.inj H
    go_enter Tryz.func77, Tryz.ntmps77
    go_wp2_with (first | ((with_reducible refine gate_dst (N := 5) rfl ?_); refine box_event ?hg (N := 5) ?hd (cs := #[.string a0_0, .string a0_1, .string a0_2, .string a0_3, .string a0_4, .string a0_5, .string a0_6, .string a0_7, .string a0_8, .string a0_9, .string a0_10, .int .i64 a0_11, .string a0_12]) (t := 104) ?hr ?_; (case hd => rfl); (case hg => rfl); (case hr => first | (go_simp; done) | (go_simp; rfl)); intro gb511 hg w16 hbox hb; have n0_ := Aside0.mk (below_step (by repeat (first | (with_reducible first | exact HB.out | apply below_alloc | apply pw_below_drewN | apply below_drew1) | exact HB.out)) hb); have n1_ := Aside0.mk (hbox); have n2_ := Aside0.mk ((by rw [hg]; exact (below_size (by repeat (first | (with_reducible first | exact HB.out | apply below_alloc | apply pw_below_drewN | apply below_drew1) | exact HB.out))) : w.heap.size ≤ gb511)); have n3_ := Aside0.mk ((by rw [hg]; exact (below_size (by repeat (first | (with_reducible first | exact HB.out | apply below_alloc | apply pw_below_drewN | apply below_drew1) | exact HB.out))) : w.heap.size ≤ gb511)); clear HB; have HB := n0_; have BK511 := n1_; have GW511 := n2_; have GE511 := n3_; clear n0_ n1_ n2_ n3_; clear hb hbox hg; have hcz17_0 : w16.cell? ⟨gb511, 0, none⟩ = some (.string a0_0) := (blk_cell BK511.out 0).trans rfl; have hcz17_1 : w16.cell? ⟨gb511, 1, none⟩ = some (.string a0_1) := (blk_cell BK511.out 1).trans rfl; have hcz17_2 : w16.cell? ⟨gb511, 2, none⟩ = some (.string a0_2) := (blk_cell BK511.out 2).trans rfl; have hcz17_3 : w16.cell? ⟨gb511, 3, none⟩ = some (.string a0_3) := (blk_cell BK511.out 3).trans rfl; have hcz17_4 : w16.cell? ⟨gb511, 4, none⟩ = some (.string a0_4) := (blk_cell BK511.out 4).trans rfl; have hcz17_5 : w16.cell? ⟨gb511, 5, none⟩ = some (.string a0_5) := (blk_cell BK511.out 5).trans rfl; have hcz17_6 : w16.cell? ⟨gb511, 6, none⟩ = some (.string a0_6) := (blk_cell BK511.out 6).trans rfl; have hcz17_7 : w16.cell? ⟨gb511, 7, none⟩ = some (.string a0_7) := (blk_cell BK511.out 7).trans rfl; have hcz17_8 : w16.cell? ⟨gb511, 8, none⟩ = some (.string a0_8) := (blk_cell BK511.out 8).trans rfl; have hcz17_9 : w16.cell? ⟨gb511, 9, none⟩ = some (.string a0_9) := (blk_cell BK511.out 9).trans rfl; have hcz17_10 : w16.cell? ⟨gb511, 10, none⟩ = some (.string a0_10) := (blk_cell BK511.out 10).trans rfl; have hcz17_11 : w16.cell? ⟨gb511, 11, none⟩ = some (.int .i64 a0_11) := (blk_cell BK511.out 11).trans rfl; have hcz17_12 : w16.cell? ⟨gb511, 12, none⟩ = some (.string a0_12) := (blk_cell BK511.out 12).trans rfl; have hfz17_0 := blk_frozen BK511.out 0; have hfz17_1 := blk_frozen BK511.out 1; have hfz17_2 := blk_frozen BK511.out 2; have hfz17_3 := blk_frozen BK511.out 3; have hfz17_4 := blk_frozen BK511.out 4; have hfz17_5 := blk_frozen BK511.out 5; have hfz17_6 := blk_frozen BK511.out 6; have hfz17_7 := blk_frozen BK511.out 7; have hfz17_8 := blk_frozen BK511.out 8; have hfz17_9 := blk_frozen BK511.out 9; have hfz17_10 := blk_frozen BK511.out 10; have hfz17_11 := blk_frozen BK511.out 11; have hfz17_12 := blk_frozen BK511.out 12))
    go_ret
    exact ⟨by first | rfl | (simp [errW_none, errW_some] <;> rfl) | (simp [*, errW_none, errW_some] <;> rfl), by repeat (first | (with_reducible first | exact HB.out | apply below_alloc | apply pw_below_drewN | apply below_drew1 | refine below_set ?_ GE511.out) | exact HB.out)⟩
  ·
   rw [if_neg c7] at H
   have c7b0 : decide (a4 < a0_11) = false := decide_eq_false c7
   clear c7
   obtain rfl := Option.some.inj H
   go_enter Tryz.func77, Tryz.ntmps77
   go_wp2_with (first | ((with_reducible refine gate_dst (N := 5) rfl ?_); refine box_event ?hg (N := 5) ?hd (cs := #[.string a0_0, .string a0_1, .string a0_2, .string a0_3, .string a0_4, .string a0_5, .string a0_6, .string a0_7, .string a0_8, .string a0_9, .string a0_10, .int .i64 a0_11, .string a0_12]) (t := 104) ?hr ?_; (case hd => rfl); (case hg => rfl); (case hr => first | (go_simp; done) | (go_simp; rfl)); intro gb511 hg w18 hbox hb; have n0_ := Aside0.mk (below_step (by repeat (first | (with_reducible first | exact HB.out | apply below_alloc | apply pw_below_drewN | apply below_drew1) | exact HB.out)) hb); have n1_ := Aside0.mk (hbox); have n2_ := Aside0.mk ((by rw [hg]; exact (below_size (by repeat (first | (with_reducible first | exact HB.out | apply below_alloc | apply pw_below_drewN | apply below_drew1) | exact HB.out))) : w.heap.size ≤ gb511)); have n3_ := Aside0.mk ((by rw [hg]; exact (below_size (by repeat (first | (with_reducible first | exact HB.out | apply below_alloc | apply pw_below_drewN | apply below_drew1) | exact HB.out))) : w.heap.size ≤ gb511)); clear HB; have HB := n0_; have BK511 := n1_; have GW511 := n2_; have GE511 := n3_; clear n0_ n1_ n2_ n3_; clear hb hbox hg; have hcz19_0 : w18.cell? ⟨gb511, 0, none⟩ = some (.string a0_0) := (blk_cell BK511.out 0).trans rfl; have hcz19_1 : w18.cell? ⟨gb511, 1, none⟩ = some (.string a0_1) := (blk_cell BK511.out 1).trans rfl; have hcz19_2 : w18.cell? ⟨gb511, 2, none⟩ = some (.string a0_2) := (blk_cell BK511.out 2).trans rfl; have hcz19_3 : w18.cell? ⟨gb511, 3, none⟩ = some (.string a0_3) := (blk_cell BK511.out 3).trans rfl; have hcz19_4 : w18.cell? ⟨gb511, 4, none⟩ = some (.string a0_4) := (blk_cell BK511.out 4).trans rfl; have hcz19_5 : w18.cell? ⟨gb511, 5, none⟩ = some (.string a0_5) := (blk_cell BK511.out 5).trans rfl; have hcz19_6 : w18.cell? ⟨gb511, 6, none⟩ = some (.string a0_6) := (blk_cell BK511.out 6).trans rfl; have hcz19_7 : w18.cell? ⟨gb511, 7, none⟩ = some (.string a0_7) := (blk_cell BK511.out 7).trans rfl; have hcz19_8 : w18.cell? ⟨gb511, 8, none⟩ = some (.string a0_8) := (blk_cell BK511.out 8).trans rfl; have hcz19_9 : w18.cell? ⟨gb511, 9, none⟩ = some (.string a0_9) := (blk_cell BK511.out 9).trans rfl; have hcz19_10 : w18.cell? ⟨gb511, 10, none⟩ = some (.string a0_10) := (blk_cell BK511.out 10).trans rfl; have hcz19_11 : w18.cell? ⟨gb511, 11, none⟩ = some (.int .i64 a0_11) := (blk_cell BK511.out 11).trans rfl; have hcz19_12 : w18.cell? ⟨gb511, 12, none⟩ = some (.string a0_12) := (blk_cell BK511.out 12).trans rfl; have hfz19_0 := blk_frozen BK511.out 0; have hfz19_1 := blk_frozen BK511.out 1; have hfz19_2 := blk_frozen BK511.out 2; have hfz19_3 := blk_frozen BK511.out 3; have hfz19_4 := blk_frozen BK511.out 4; have hfz19_5 := blk_frozen BK511.out 5; have hfz19_6 := blk_frozen BK511.out 6; have hfz19_7 := blk_frozen BK511.out 7; have hfz19_8 := blk_frozen BK511.out 8; have hfz19_9 := blk_frozen BK511.out 9; have hfz19_10 := blk_frozen BK511.out 10; have hfz19_11 := blk_frozen BK511.out 11; have hfz19_12 := blk_frozen BK511.out 12))
   go_ret
   exact ⟨by first | rfl | (simp [errW_none, errW_some] <;> rfl) | (simp [*, errW_none, errW_some] <;> rfl), by repeat (first | (with_reducible first | exact HB.out | apply below_alloc | apply pw_below_drewN | apply below_drew1 | refine below_set ?_ GE511.out) | exact HB.out)⟩
 ·
  rw [if_neg c6] at H
  have c6b0 : (a0_12.toList == ([] : List UInt8)) = false := beq_eq_false_iff_ne.mpr c6
  have c6b1 : (a0_12.toList != ([] : List UInt8)) = true := bne_iff_ne.mpr c6
  obtain rfl := Option.some.inj H
  go_enter Tryz.func77, Tryz.ntmps77
  go_wp2_with (first | ((with_reducible refine gate_dst (N := 5) rfl ?_); refine box_event ?hg (N := 5) ?hd (cs := #[.string a0_0, .string a0_1, .string a0_2, .string a0_3, .string a0_4, .string a0_5, .string a0_6, .string a0_7, .string a0_8, .string a0_9, .string a0_10, .int .i64 a0_11, .string a0_12]) (t := 104) ?hr ?_; (case hd => rfl); (case hg => rfl); (case hr => first | (go_simp; done) | (go_simp; rfl)); intro gb511 hg w20 hbox hb; have n0_ := Aside0.mk (below_step (by repeat (first | (with_reducible first | exact HB.out | apply below_alloc | apply pw_below_drewN | apply below_drew1) | exact HB.out)) hb); have n1_ := Aside0.mk (hbox); have n2_ := Aside0.mk ((by rw [hg]; exact (below_size (by repeat (first | (with_reducible first | exact HB.out | apply below_alloc | apply pw_below_drewN | apply below_drew1) | exact HB.out))) : w.heap.size ≤ gb511)); have n3_ := Aside0.mk ((by rw [hg]; exact (below_size (by repeat (first | (with_reducible first | exact HB.out | apply below_alloc | apply pw_below_drewN | apply below_drew1) | exact HB.out))) : w.heap.size ≤ gb511)); clear HB; have HB := n0_; have BK511 := n1_; have GW511 := n2_; have GE511 := n3_; clear n0_ n1_ n2_ n3_; clear hb hbox hg; have hcz21_0 : w20.cell? ⟨gb511, 0, none⟩ = some (.string a0_0) := (blk_cell BK511.out 0).trans rfl; have hcz21_1 : w20.cell? ⟨gb511, 1, none⟩ = some (.string a0_1) := (blk_cell BK511.out 1).trans rfl; have hcz21_2 : w20.cell? ⟨gb511, 2, none⟩ = some (.string a0_2) := (blk_cell BK511.out 2).trans rfl; have hcz21_3 : w20.cell? ⟨gb511, 3, none⟩ = some (.string a0_3) := (blk_cell BK511.out 3).trans rfl; have hcz21_4 : w20.cell? ⟨gb511, 4, none⟩ = some (.string a0_4) := (blk_cell BK511.out 4).trans rfl; have hcz21_5 : w20.cell? ⟨gb511, 5, none⟩ = some (.string a0_5) := (blk_cell BK511.out 5).trans rfl; have hcz21_6 : w20.cell? ⟨gb511, 6, none⟩ = some (.string a0_6) := (blk_cell BK511.out 6).trans rfl; have hcz21_7 : w20.cell? ⟨gb511, 7, none⟩ = some (.string a0_7) := (blk_cell BK511.out 7).trans rfl; have hcz21_8 : w20.cell? ⟨gb511, 8, none⟩ = some (.string a0_8) := (blk_cell BK511.out 8).trans rfl; have hcz21_9 : w20.cell? ⟨gb511, 9, none⟩ = some (.string a0_9) := (blk_cell BK511.out 9).trans rfl; have hcz21_10 : w20.cell? ⟨gb511, 10, none⟩ = some (.string a0_10) := (blk_cell BK511.out 10).trans rfl; have hcz21_11 : w20.cell? ⟨gb511, 11, none⟩ = some (.int .i64 a0_11) := (blk_cell BK511.out 11).trans rfl; have hcz21_12 : w20.cell? ⟨gb511, 12, none⟩ = some (.string a0_12) := (blk_cell BK511.out 12).trans rfl; have hfz21_0 := blk_frozen BK511.out 0; have hfz21_1 := blk_frozen BK511.out 1; have hfz21_2 := blk_frozen BK511.out 2; have hfz21_3 := blk_frozen BK511.out 3; have hfz21_4 := blk_frozen BK511.out 4; have hfz21_5 := blk_frozen BK511.out 5; have hfz21_6 := blk_frozen BK511.out 6; have hfz21_7 := blk_frozen BK511.out 7; have hfz21_8 := blk_frozen BK511.out 8; have hfz21_9 := blk_frozen BK511.out 9; have hfz21_10 := blk_frozen BK511.out 10; have hfz21_11 := blk_frozen BK511.out 11; have hfz21_12 := blk_frozen BK511.out 12))
  go_ret
  exact ⟨by first | rfl | (simp [errW_none, errW_some] <;> rfl) | (simp [*, errW_none, errW_some] <;> rfl), by repeat (first | (with_reducible first | exact HB.out | apply below_alloc | apply pw_below_drewN | apply below_drew1 | refine below_set ?_ GE511.out) | exact HB.out)⟩

def exequaturref01_alnum.f (a0 : Int) : Option (Bool) := if a0 ≥ 97 then (if a0 ≤ 122 then (some true) else (if a0 ≥ 65 then (if a0 ≤ 90 then (some true) else (if a0 ≥ 48 then (some (decide (a0 ≤ 57))) else (some false))) else (if a0 ≥ 48 then (some (decide (a0 ≤ 57))) else (some false)))) else (if a0 ≥ 65 then (if a0 ≤ 90 then (some true) else (if a0 ≥ 48 then (some (decide (a0 ≤ 57))) else (some false))) else (if a0 ≥ 48 then (some (decide (a0 ≤ 57))) else (some false)))
set_option maxHeartbeats 8000000 in
set_option maxRecDepth 100000 in
theorem exequaturref01_alnum.calls (a0 : Int) (r : Bool) (w : World) (h : exequaturref01_alnum.f a0 = some r) :
  Calls Tryz.prog 174 #[.int .u8 a0] w fun e w' => e = .returned (.bool r) ∧ Drawn0 w w' := by
 have H : (if a0 ≥ 97 then (if a0 ≤ 122 then (some true) else (if a0 ≥ 65 then (if a0 ≤ 90 then (some true) else (if a0 ≥ 48 then (some (decide (a0 ≤ 57))) else (some false))) else (if a0 ≥ 48 then (some (decide (a0 ≤ 57))) else (some false)))) else (if a0 ≥ 65 then (if a0 ≤ 90 then (some true) else (if a0 ≥ 48 then (some (decide (a0 ≤ 57))) else (some false))) else (if a0 ≥ 48 then (some (decide (a0 ≤ 57))) else (some false)))) = some r := h
 clear h
 by_cases c2 : a0 ≥ 97
 ·
  rw [if_pos c2] at H
  have c2b0 : decide (97 ≤ a0) = true := decide_eq_true c2
  clear c2
  by_cases c3 : a0 ≤ 122
  ·
   rw [if_pos c3] at H
   have c3b0 : decide (a0 ≤ 122) = true := decide_eq_true c3
   clear c3
   obtain rfl := Option.some.inj H
   go_enter Tryz.func174, Tryz.ntmps174
   go_wp2
   go_ret
   exact ⟨by first | rfl | (simp; done) | (simp [*]; done), by repeat (first | exact Drawn0.refl _ | apply Drawn0.step)⟩
  ·
   rw [if_neg c3] at H
   have c3b0 : decide (a0 ≤ 122) = false := decide_eq_false c3
   clear c3
   by_cases c4 : a0 ≥ 65
   ·
    rw [if_pos c4] at H
    have c4b0 : decide (65 ≤ a0) = true := decide_eq_true c4
    clear c4
    by_cases c5 : a0 ≤ 90
    ·
     rw [if_pos c5] at H
     have c5b0 : decide (a0 ≤ 90) = true := decide_eq_true c5
     clear c5
     obtain rfl := Option.some.inj H
     go_enter Tryz.func174, Tryz.ntmps174
     go_wp2
     go_ret
     exact ⟨by first | rfl | (simp; done) | (simp [*]; done), by repeat (first | exact Drawn0.refl _ | apply Drawn0.step)⟩
    ·
     rw [if_neg c5] at H
     have c5b0 : decide (a0 ≤ 90) = false := decide_eq_false c5
     clear c5
     by_cases c6 : a0 ≥ 48
     ·
      rw [if_pos c6] at H
      have c6b0 : decide (48 ≤ a0) = true := decide_eq_true c6
      clear c6
      obtain rfl := Option.some.inj H
      go_enter Tryz.func174, Tryz.ntmps174
      go_wp2
      go_ret
      exact ⟨by first | rfl | (simp; done) | (simp [*]; done), by repeat (first | exact Drawn0.refl _ | apply Drawn0.step)⟩
     ·
      rw [if_neg c6] at H
      have c6b0 : decide (48 ≤ a0) = false := decide_eq_false c6
      clear c6
      obtain rfl := Option.some.inj H
      go_enter Tryz.func174, Tryz.ntmps174
      go_wp2
      go_ret
      exact ⟨by first | rfl | (simp; done) | (simp [*]; done), by repeat (first | exact Drawn0.refl _ | apply Drawn0.step)⟩
   ·
    rw [if_neg c4] at H
    have c4b0 : decide (65 ≤ a0) = false := decide_eq_false c4
    clear c4
    by_cases c7 : a0 ≥ 48
    ·
     rw [if_pos c7] at H
     have c7b0 : decide (48 ≤ a0) = true := decide_eq_true c7
     clear c7
     obtain rfl := Option.some.inj H
     go_enter Tryz.func174, Tryz.ntmps174
     go_wp2
     go_ret
     exact ⟨by first | rfl | (simp; done) | (simp [*]; done), by repeat (first | exact Drawn0.refl _ | apply Drawn0.step)⟩
    ·
     rw [if_neg c7] at H
     have c7b0 : decide (48 ≤ a0) = false := decide_eq_false c7
     clear c7
     obtain rfl := Option.some.inj H
     go_enter Tryz.func174, Tryz.ntmps174
     go_wp2
     go_ret
     exact ⟨by first | rfl | (simp; done) | (simp [*]; done), by repeat (first | exact Drawn0.refl _ | apply Drawn0.step)⟩
 ·
  rw [if_neg c2] at H
  have c2b0 : decide (97 ≤ a0) = false := decide_eq_false c2
  clear c2
  by_cases c8 : a0 ≥ 65
  ·
   rw [if_pos c8] at H
   have c8b0 : decide (65 ≤ a0) = true := decide_eq_true c8
   clear c8
   by_cases c9 : a0 ≤ 90
   ·
    rw [if_pos c9] at H
    have c9b0 : decide (a0 ≤ 90) = true := decide_eq_true c9
    clear c9
    obtain rfl := Option.some.inj H
    go_enter Tryz.func174, Tryz.ntmps174
    go_wp2
    go_ret
    exact ⟨by first | rfl | (simp; done) | (simp [*]; done), by repeat (first | exact Drawn0.refl _ | apply Drawn0.step)⟩
   ·
    rw [if_neg c9] at H
    have c9b0 : decide (a0 ≤ 90) = false := decide_eq_false c9
    clear c9
    by_cases c10 : a0 ≥ 48
    ·
     rw [if_pos c10] at H
     have c10b0 : decide (48 ≤ a0) = true := decide_eq_true c10
     clear c10
     obtain rfl := Option.some.inj H
     go_enter Tryz.func174, Tryz.ntmps174
     go_wp2
     go_ret
     exact ⟨by first | rfl | (simp; done) | (simp [*]; done), by repeat (first | exact Drawn0.refl _ | apply Drawn0.step)⟩
    ·
     rw [if_neg c10] at H
     have c10b0 : decide (48 ≤ a0) = false := decide_eq_false c10
     clear c10
     obtain rfl := Option.some.inj H
     go_enter Tryz.func174, Tryz.ntmps174
     go_wp2
     go_ret
     exact ⟨by first | rfl | (simp; done) | (simp [*]; done), by repeat (first | exact Drawn0.refl _ | apply Drawn0.step)⟩
  ·
   rw [if_neg c8] at H
   have c8b0 : decide (65 ≤ a0) = false := decide_eq_false c8
   clear c8
   by_cases c11 : a0 ≥ 48
   ·
    rw [if_pos c11] at H
    have c11b0 : decide (48 ≤ a0) = true := decide_eq_true c11
    clear c11
    obtain rfl := Option.some.inj H
    go_enter Tryz.func174, Tryz.ntmps174
    go_wp2
    go_ret
    exact ⟨by first | rfl | (simp; done) | (simp [*]; done), by repeat (first | exact Drawn0.refl _ | apply Drawn0.step)⟩
   ·
    rw [if_neg c11] at H
    have c11b0 : decide (48 ≤ a0) = false := decide_eq_false c11
    clear c11
    obtain rfl := Option.some.inj H
    go_enter Tryz.func174, Tryz.ntmps174
    go_wp2
    go_ret
    exact ⟨by first | rfl | (simp; done) | (simp [*]; done), by repeat (first | exact Drawn0.refl _ | apply Drawn0.step)⟩

def exequaturref01_plain.f (a0 : Int) : Option (Bool) := (exequaturref01_alnum.f a0).bind fun t513 => (if t513 = true then (some true) else (if a0 = 45 then (some true) else (if a0 = 46 then (some true) else (if a0 = 95 then (some true) else (some (a0 == 126))))))
set_option maxHeartbeats 8000000 in
set_option maxRecDepth 100000 in
theorem exequaturref01_plain.calls (a0 : Int) (r : Bool) (w : World) (h : exequaturref01_plain.f a0 = some r) :
  Calls Tryz.prog 158 #[.int .u8 a0] w fun e w' => e = .returned (.bool r) ∧ Drawn0 w w' := by
 have H : ((exequaturref01_alnum.f a0).bind fun t513 => (if t513 = true then (some true) else (if a0 = 45 then (some true) else (if a0 = 46 then (some true) else (if a0 = 95 then (some true) else (some (a0 == 126))))))) = some r := h
 clear h
 replace H := Option.bind_eq_some_iff.mp H
 obtain ⟨t513, A20, H⟩ := H
 replace H : (if t513 = true then (some true) else (if a0 = 45 then (some true) else (if a0 = 46 then (some true) else (if a0 = 95 then (some true) else (some (a0 == 126)))))) = some r := H
 have A2 := Aside0.mk A20
 clear A20
 by_cases c3 : t513 = true
 ·
  subst c3
  have H1 : (some true) = some r := by rw [if_pos rfl] at H; exact H
  clear H
  have H := H1
  clear H1
  obtain rfl := Option.some.inj H
  go_enter Tryz.func158, Tryz.ntmps158
  go_wp2_with (first | ((with_reducible refine gate_callee (f := 174) rfl ?_); refine goesL_ (some 4) rfl rfl Tryz.func174 (by kernel_rfl) rfl #[.int .u8 a0] rfl (by (try simp only [List.map_toArray, List.map_cons, List.map_nil]); first | done | rfl | (simp only [List.length_drop, List.length_take]; rfl)) ?_; (with_reducible refine (exequaturref01_alnum.calls a0 true _ A2.out).mono ?_); rintro e w' ⟨rfl, ⟨nd, rfl⟩⟩; refine ⟨_, rfl, ?_⟩))
  go_ret
  exact ⟨by first | rfl | (simp; done) | (simp [*]; done), by repeat (first | exact Drawn0.refl _ | apply Drawn0.step)⟩
 ·
  replace c3 := Bool.eq_false_iff.mpr c3
  subst c3
  have H1 : (if a0 = 45 then (some true) else (if a0 = 46 then (some true) else (if a0 = 95 then (some true) else (some (a0 == 126))))) = some r := by rw [if_neg (show ¬ (false = true) by decide)] at H; exact H
  clear H
  have H := H1
  clear H1
  by_cases c4 : a0 = 45
  ·
   rw [if_pos c4] at H
   have c4b0 : (a0 == 45) = true := beq_iff_eq.mpr c4
   have c4b1 : (a0 != 45) = false := bne_eq_false_iff_eq.mpr c4
   clear c4
   obtain rfl := Option.some.inj H
   go_enter Tryz.func158, Tryz.ntmps158
   go_wp2_with (first | ((with_reducible refine gate_callee (f := 174) rfl ?_); refine goesL_ (some 4) rfl rfl Tryz.func174 (by kernel_rfl) rfl #[.int .u8 a0] rfl (by (try simp only [List.map_toArray, List.map_cons, List.map_nil]); first | done | rfl | (simp only [List.length_drop, List.length_take]; rfl)) ?_; (with_reducible refine (exequaturref01_alnum.calls a0 false _ A2.out).mono ?_); rintro e w' ⟨rfl, ⟨nd, rfl⟩⟩; refine ⟨_, rfl, ?_⟩))
   go_ret
   exact ⟨by first | rfl | (simp; done) | (simp [*]; done), by repeat (first | exact Drawn0.refl _ | apply Drawn0.step)⟩
  ·
   rw [if_neg c4] at H
   have c4b0 : (a0 == 45) = false := beq_eq_false_iff_ne.mpr c4
   have c4b1 : (a0 != 45) = true := bne_iff_ne.mpr c4
   by_cases c5 : a0 = 46
   ·
    rw [if_pos c5] at H
    have c5b0 : (a0 == 46) = true := beq_iff_eq.mpr c5
    have c5b1 : (a0 != 46) = false := bne_eq_false_iff_eq.mpr c5
    clear c5
    obtain rfl := Option.some.inj H
    go_enter Tryz.func158, Tryz.ntmps158
    go_wp2_with (first | ((with_reducible refine gate_callee (f := 174) rfl ?_); refine goesL_ (some 4) rfl rfl Tryz.func174 (by kernel_rfl) rfl #[.int .u8 a0] rfl (by (try simp only [List.map_toArray, List.map_cons, List.map_nil]); first | done | rfl | (simp only [List.length_drop, List.length_take]; rfl)) ?_; (with_reducible refine (exequaturref01_alnum.calls a0 false _ A2.out).mono ?_); rintro e w' ⟨rfl, ⟨nd, rfl⟩⟩; refine ⟨_, rfl, ?_⟩))
    go_ret
    exact ⟨by first | rfl | (simp; done) | (simp [*]; done), by repeat (first | exact Drawn0.refl _ | apply Drawn0.step)⟩
   ·
    rw [if_neg c5] at H
    have c5b0 : (a0 == 46) = false := beq_eq_false_iff_ne.mpr c5
    have c5b1 : (a0 != 46) = true := bne_iff_ne.mpr c5
    by_cases c6 : a0 = 95
    ·
     rw [if_pos c6] at H
     have c6b0 : (a0 == 95) = true := beq_iff_eq.mpr c6
     have c6b1 : (a0 != 95) = false := bne_eq_false_iff_eq.mpr c6
     clear c6
     obtain rfl := Option.some.inj H
     go_enter Tryz.func158, Tryz.ntmps158
     go_wp2_with (first | ((with_reducible refine gate_callee (f := 174) rfl ?_); refine goesL_ (some 4) rfl rfl Tryz.func174 (by kernel_rfl) rfl #[.int .u8 a0] rfl (by (try simp only [List.map_toArray, List.map_cons, List.map_nil]); first | done | rfl | (simp only [List.length_drop, List.length_take]; rfl)) ?_; (with_reducible refine (exequaturref01_alnum.calls a0 false _ A2.out).mono ?_); rintro e w' ⟨rfl, ⟨nd, rfl⟩⟩; refine ⟨_, rfl, ?_⟩))
     go_ret
     exact ⟨by first | rfl | (simp; done) | (simp [*]; done), by repeat (first | exact Drawn0.refl _ | apply Drawn0.step)⟩
    ·
     rw [if_neg c6] at H
     have c6b0 : (a0 == 95) = false := beq_eq_false_iff_ne.mpr c6
     have c6b1 : (a0 != 95) = true := bne_iff_ne.mpr c6
     obtain rfl := Option.some.inj H
     go_enter Tryz.func158, Tryz.ntmps158
     go_wp2_with (first | ((with_reducible refine gate_callee (f := 174) rfl ?_); refine goesL_ (some 4) rfl rfl Tryz.func174 (by kernel_rfl) rfl #[.int .u8 a0] rfl (by (try simp only [List.map_toArray, List.map_cons, List.map_nil]); first | done | rfl | (simp only [List.length_drop, List.length_take]; rfl)) ?_; (with_reducible refine (exequaturref01_alnum.calls a0 false _ A2.out).mono ?_); rintro e w' ⟨rfl, ⟨nd, rfl⟩⟩; refine ⟨_, rfl, ?_⟩))
     go_ret
     exact ⟨by first | rfl | (simp; done) | (simp [*]; done), by repeat (first | exact Drawn0.refl _ | apply Drawn0.step)⟩

def exequaturref01_sixty.f (a0 : Int) : Option (Int) := if 0 ≤ a0 then (if a0 < 64 then (some (bt (⟨#[65, 66, 67, 68, 69, 70, 71, 72, 73, 74, 75, 76, 77, 78, 79, 80, 81, 82, 83, 84, 85, 86, 87, 88, 89, 90, 97, 98, 99, 100, 101, 102, 103, 104, 105, 106, 107, 108, 109, 110, 111, 112, 113, 114, 115, 116, 117, 118, 119, 120, 121, 122, 48, 49, 50, 51, 52, 53, 54, 55, 56, 57, 45, 95]⟩ : ByteArray) a0)) else (none)) else (none)
set_option maxHeartbeats 8000000 in
set_option maxRecDepth 100000 in
theorem exequaturref01_sixty.calls (a0 : Int) (r : Int) (w : World) (h : exequaturref01_sixty.f a0 = some r) :
  Calls Tryz.prog 175 #[.int .i64 a0] w fun e w' => e = .returned (.int .u8 r) ∧ Drawn0 w w' := by
 have H : (if 0 ≤ a0 then (if a0 < 64 then (some (bt (⟨#[65, 66, 67, 68, 69, 70, 71, 72, 73, 74, 75, 76, 77, 78, 79, 80, 81, 82, 83, 84, 85, 86, 87, 88, 89, 90, 97, 98, 99, 100, 101, 102, 103, 104, 105, 106, 107, 108, 109, 110, 111, 112, 113, 114, 115, 116, 117, 118, 119, 120, 121, 122, 48, 49, 50, 51, 52, 53, 54, 55, 56, 57, 45, 95]⟩ : ByteArray) a0)) else (none)) else (none)) = some r := h
 clear h
 by_cases c2 : 0 ≤ a0
 ·
  rw [if_pos c2] at H
  have c2b0 : decide (0 ≤ a0) = true := decide_eq_true c2
  clear c2
  by_cases c3 : a0 < 64
  ·
   rw [if_pos c3] at H
   have c3b0 : decide (a0 < 64) = true := decide_eq_true c3
   clear c3
   obtain rfl := Option.some.inj H
   have p4 : 0 ≤ (a0 : Int) := of_decide_eq_true (by first | (with_reducible assumption) | assumption)
   have q4 : a0 < (64 : Int) := of_decide_eq_true (by first | (with_reducible assumption) | assumption)
   have hx4 := bt_at (⟨#[65, 66, 67, 68, 69, 70, 71, 72, 73, 74, 75, 76, 77, 78, 79, 80, 81, 82, 83, 84, 85, 86, 87, 88, 89, 90, 97, 98, 99, 100, 101, 102, 103, 104, 105, 106, 107, 108, 109, 110, 111, 112, 113, 114, 115, 116, 117, 118, 119, 120, 121, 122, 48, 49, 50, 51, 52, 53, 54, 55, 56, 57, 45, 95]⟩ : ByteArray) a0
   replace p4 := eq_true p4
   replace q4 := eq_true q4
   go_enter Tryz.func175, Tryz.ntmps175
   go_wp2
   go_ret
   exact ⟨by first | rfl | (simp; done) | (simp [*]; done), by repeat (first | exact Drawn0.refl _ | apply Drawn0.step)⟩
  ·
   rw [if_neg c3] at H
   exact absurd H (by simp)
 ·
  rw [if_neg c2] at H
  exact absurd H (by simp)

end Go.Proofs.YtpoblffgclmmlaaGreatDoor.Q
end
section
namespace Go.Proofs.YtpoblffgclmmlaaGreatDoor.Q
open Go.RowKit Go.Proofs.YtpoblffgclmmlaaGreatDoorW.PrintWords Go.Proofs.YtpoblffgclmmlaaGreatDoorW.PrintLast Go.Proofs.YtpoblffgclmmlaaGreatDoorW.PrintMore
attribute [local go_sem] max2_int min2_int max_two min_two max_three min_three max_four min_four   -- for this text's walks alone
open Go.Proofs.YtpoblffgclmmlaaGreatDoor.X
set_option linter.unusedVariables false
set_option linter.unusedSimpArgs false

mutual
def exequaturref01_B64.l0 : Nat → ByteArray → List Int → Int → Option (ByteArray)
 | 0, _, _, _ => none
 | k + 1, x0, x3, x4 => if x4 < (x0.size : Int) then (exequaturref01_B64.l1 k x0 x3 x4 0 0 0) else (some (strOfNums x3))
def exequaturref01_B64.l1 : Nat → ByteArray → List Int → Int → Int → Int → Int → Option (ByteArray)
 | 0, _, _, _, _, _, _ => none
 | k + 1, x0, x3, x4, x5, x6, x7 => if x7 < 3 then (if (wrap64 (x4 + x7)) < (x0.size : Int) then (if 0 ≤ (wrap64 (x4 + x7)) then (exequaturref01_B64.l1 k x0 x3 x4 (wrap64 ((wrap64 (x5 * 256)) + (wrap64 (bt x0 (wrap64 (x4 + x7)))))) (wrap64 (x6 + 1)) (wrap64 (x7 + 1))) else (none)) else (exequaturref01_B64.l1 k x0 x3 x4 (wrap64 (x5 * 256)) x6 (wrap64 (x7 + 1)))) else ((exequaturref01_sixty.f (wrap64 (Int.tdiv x5 262144))).bind fun t514 => ((exequaturref01_sixty.f (Int.tmod (wrap64 (Int.tdiv x5 4096)) 64)).bind fun t515 => ((exequaturref01_sixty.f (Int.tmod (wrap64 (Int.tdiv x5 64)) 64)).bind fun t516 => ((exequaturref01_sixty.f (Int.tmod x5 64)).bind fun t517 => ((some (([t514, t515, t516, t517] : List Int) : List Int)).bind fun y518 => (if 0 ≤ (wrap64 (x6 + 1)) then (if (wrap64 (x6 + 1)) ≤ (y518.length : Int) then ((some (y518.take ((wrap64 (x6 + 1)) : Int).toNat : List Int)).bind fun y521 => (if x3.length + y521.length < 140737488355328 then (exequaturref01_B64.l0 k x0 (x3 ++ y521) (wrap64 (x4 + 3))) else (none))) else (none)) else (none)))))))
end
def exequaturref01_B64.f (k : Nat) (a0 : ByteArray) : Option (ByteArray) := exequaturref01_B64.l0 k a0 ([] : List Int) 0
theorem exequaturref01_B64.mono_l : ∀ k, (∀ y0 y1 y2, LeO (exequaturref01_B64.l0 k y0 y1 y2) (exequaturref01_B64.l0 (k + 1) y0 y1 y2)) ∧ (∀ y0 y1 y2 y3 y4 y5, LeO (exequaturref01_B64.l1 k y0 y1 y2 y3 y4 y5) (exequaturref01_B64.l1 (k + 1) y0 y1 y2 y3 y4 y5))
 | 0 => ⟨fun _ _ _ r h => by simp [exequaturref01_B64.l0] at h, fun _ _ _ _ _ _ r h => by simp [exequaturref01_B64.l1] at h⟩
 | k + 1 => by
  obtain ⟨ih0, ih1⟩ := exequaturref01_B64.mono_l k
  refine ⟨?_, ?_⟩
  ·
   intro y0 y1 y2
   unfold exequaturref01_B64.l0
   repeat' first
   | (with_reducible exact ih0 _ _ _)
   | (with_reducible exact ih1 _ _ _ _ _ _)
   | (with_reducible exact LeO.refl _)
   | (with_reducible exact LeO.none _)
   | (with_reducible refine LeO.ite ?_ ?_)
   | (with_reducible refine LeO.bind ?_ (fun _ => ?_))
   | exact ih0 _ _ _
   | exact ih1 _ _ _ _ _ _
   | exact LeO.none _
   | refine LeO.ite ?_ ?_
   | refine LeO.bind ?_ (fun _ => ?_)
  ·
   intro y0 y1 y2 y3 y4 y5
   unfold exequaturref01_B64.l1
   repeat' first
   | (with_reducible exact ih0 _ _ _)
   | (with_reducible exact ih1 _ _ _ _ _ _)
   | (with_reducible exact LeO.refl _)
   | (with_reducible exact LeO.none _)
   | (with_reducible refine LeO.ite ?_ ?_)
   | (with_reducible refine LeO.bind ?_ (fun _ => ?_))
   | exact ih0 _ _ _
   | exact ih1 _ _ _ _ _ _
   | exact LeO.none _
   | refine LeO.ite ?_ ?_
   | refine LeO.bind ?_ (fun _ => ?_)
theorem exequaturref01_B64.mono : ∀ a0 k, LeO (exequaturref01_B64.f k a0) (exequaturref01_B64.f (k + 1) a0) := by
 intro a0 k
 obtain ⟨ih0, ih1⟩ := exequaturref01_B64.mono_l k
 unfold exequaturref01_B64.f
 repeat' first
   | (with_reducible exact ih0 _ _ _)
   | (with_reducible exact ih1 _ _ _ _ _ _)
   | (with_reducible exact LeO.refl _)
   | (with_reducible exact LeO.none _)
   | (with_reducible refine LeO.ite ?_ ?_)
   | (with_reducible refine LeO.bind ?_ (fun _ => ?_))
   | exact ih0 _ _ _
   | exact ih1 _ _ _ _ _ _
   | exact LeO.none _
   | refine LeO.ite ?_ ?_
   | refine LeO.bind ?_ (fun _ => ?_)
set_option maxHeartbeats 8000000 in
set_option maxRecDepth 100000 in
theorem exequaturref01_B64.calls (k : Nat) (a0 : ByteArray) (r : ByteArray) (w : World) (h : exequaturref01_B64.f k a0 = some r) :
  Calls Tryz.prog 159 #[.string a0] w fun e w' => e = .returned (.string r) ∧ Below w.heap.size w w' := by
 have HB := Aside0.mk (Below.refl w.heap.size w)
 have H : (exequaturref01_B64.l0 k a0 ([] : List Int) 0) = some r := h
 clear h
 have H' := Aside0.mk H
 clear H
 go_enter Tryz.func159, Tryz.ntmps159
 go_wp2
 go_loopg [3, 4] k (fun kq v3 v4 w' => ∃ (x3_1 : List Int) (x4_1 : Int), v4 = .int .i64 x4_1 ∧ Aside0 (exequaturref01_B64.l0 kq a0 x3_1 x4_1 = some r) ∧ Aside0 (kq ≤ k) ∧ Aside0 (Kd.R (Kd.int .u8) 5 w' w.heap.size (fun _ => True) v3 x3_1) ∧ Aside0 (Below w.heap.size w w'))
 case atStart => exact ⟨(([] : List Int)), (0), (by first | rfl | (simp; done) | (simp [*]; done)), H', ⟨Nat.le_refl _⟩, ⟨by first | exact Kd.R_nil _ _ _ _ _ | exact Kd.N_nil _ _ _ _ _ | exact Kd.V_nil _ _ _ _ _ | exact Kd.Q_nil _ _ _ _ _ | exact Kd.S_nil _ _ _ _ _⟩, ⟨by repeat (first | (with_reducible first | exact HB.out | apply below_alloc | apply pw_below_drewN | apply below_drew1) | exact HB.out)⟩⟩
 case round =>
  clear H'
  try clear c1
  obtain ⟨x3_1, x4_1, rfl, HA, HK1, HO_3, HB⟩ := hrel
  cases gk with
  | zero => exact absurd HA.out (by simp [exequaturref01_B64.l0])
  | succ k1 =>
   have H := HA.out
   clear HA
   simp only [exequaturref01_B64.l0] at H
   by_cases c2 : x4_1 < (a0.size : Int)
   ·
    rw [if_pos c2] at H
    have c2b0 : decide (x4_1 < (a0.size : Int)) = true := decide_eq_true c2
    clear c2
    have H' := Aside0.mk H
    clear H
    go_wp2
    go_loopg [5, 6, 7] k1 (fun kq v5 v6 v7 w' => ∃ (x5_2 : Int) (x6_2 : Int) (x7_2 : Int), v5 = .int .i64 x5_2 ∧ v6 = .int .i64 x6_2 ∧ v7 = .int .i64 x7_2 ∧ Aside0 (exequaturref01_B64.l1 kq a0 x3_1 x4_1 x5_2 x6_2 x7_2 = some r) ∧ Aside0 (kq ≤ k1) ∧ Aside0 (Kd.R (Kd.int .u8) 5 w' w.heap.size (fun _ => True) u3 x3_1) ∧ Aside0 (Below w.heap.size w w'))
    case atStart => exact ⟨(0), (0), (0), (by first | rfl | (simp; done) | (simp [*]; done)), (by first | rfl | (simp; done) | (simp [*]; done)), (by first | rfl | (simp; done) | (simp [*]; done)), H', ⟨Nat.le_refl _⟩, ⟨by (with_reducible repeat (first | apply Kd.R_alloc | apply Kd.R_drewN | apply Kd.R_drew)); exact HO_3.out⟩, ⟨by repeat (first | (with_reducible first | exact HB.out | apply below_alloc | apply pw_below_drewN | apply below_drew1) | exact HB.out)⟩⟩
    case round =>
     clear H'
     try clear c1
     try clear c2
     try clear c2b0
     try clear p2
     obtain ⟨x5_2, x6_2, x7_2, rfl, rfl, rfl, HA, HK2, HO_3, HB⟩ := hrel
     cases gk with
     | zero => exact absurd HA.out (by simp [exequaturref01_B64.l1])
     | succ k2 =>
      have H := HA.out
      clear HA
      simp only [exequaturref01_B64.l1] at H
      by_cases c3 : x7_2 < 3
      ·
       rw [if_pos c3] at H
       have c3b0 : decide (x7_2 < 3) = true := decide_eq_true c3
       clear c3
       by_cases c4 : (wrap64 (x4_1 + x7_2)) < (a0.size : Int)
       ·
        rw [if_pos c4] at H
        have c4b0 : decide ((wrap64 (x4_1 + x7_2)) < (a0.size : Int)) = true := decide_eq_true c4
        clear c4
        obtain ⟨ji5, hji5⟩ : ∃ j_ : Int, (wrap64 (x4_1 + x7_2)) = j_ := ⟨_, rfl⟩
        replace H : (if 0 ≤ (ji5) then (exequaturref01_B64.l1 k2 a0 x3_1 x4_1 (wrap64 ((wrap64 (x5_2 * 256)) + (wrap64 (bt a0 (ji5))))) (wrap64 (x6_2 + 1)) (wrap64 (x7_2 + 1))) else (none)) = some r := by first | (rw [hji5] at H; exact H) | (simp only [hji5] at H ⊢; exact H)
        (try rw [hji5] at c4b0)
        have hji5w : (IntKind.i64.wrap (x4_1 + x7_2)) = ji5 := (i64_w _).trans hji5
        by_cases c6 : 0 ≤ (ji5)
        ·
         rw [if_pos c6] at H
         have c6b0 : decide (0 ≤ (ji5)) = true := decide_eq_true c6
         clear c6
         have H' := Aside0.mk H
         clear H
         have p7 : 0 ≤ ((ji5) : Int) := of_decide_eq_true (by first | (with_reducible assumption) | assumption)
         have q7 : (ji5) < (a0.size : Int) := of_decide_eq_true (by first | (with_reducible assumption) | assumption)
         have hx7 := bt_at a0 (ji5)
         replace p7 := eq_true p7
         replace q7 := eq_true q7
         go_wp2
         go_roundg k2
         case measure => have := HK1.out; have := HK2.out; omega
         case rel => exact ⟨(wrap64 ((wrap64 (x5_2 * 256)) + (wrap64 (bt a0 (ji5))))), (wrap64 (x6_2 + 1)), (wrap64 (x7_2 + 1)), (by first | rfl | (simp; done) | (simp only [← hji5] <;> (first | rfl | simp)) | (simp [*]; done)), (by first | rfl | (simp; done) | (simp [*]; done)), (by first | rfl | (simp; done) | (simp [*]; done)), H', ⟨by have := HK1.out; have := HK2.out; omega⟩, ⟨by (with_reducible repeat (first | apply Kd.R_alloc | apply Kd.R_drewN | apply Kd.R_drew)); exact HO_3.out⟩, ⟨by repeat (first | (with_reducible first | exact HB.out | apply below_alloc | apply pw_below_drewN | apply below_drew1) | exact HB.out)⟩⟩
        ·
         rw [if_neg c6] at H
         exact absurd H (by simp)
       ·
        rw [if_neg c4] at H
        have c4b0 : decide ((wrap64 (x4_1 + x7_2)) < (a0.size : Int)) = false := decide_eq_false c4
        clear c4
        have H' := Aside0.mk H
        clear H
        go_wp2
        go_roundg k2
        case measure => have := HK1.out; have := HK2.out; omega
        case rel => exact ⟨(wrap64 (x5_2 * 256)), (x6_2), (wrap64 (x7_2 + 1)), (by first | rfl | (simp; done) | (simp [*]; done)), (by first | rfl | (simp; done) | (simp [*]; done)), (by first | rfl | (simp; done) | (simp [*]; done)), H', ⟨by have := HK1.out; have := HK2.out; omega⟩, ⟨by (with_reducible repeat (first | apply Kd.R_alloc | apply Kd.R_drewN | apply Kd.R_drew)); exact HO_3.out⟩, ⟨by repeat (first | (with_reducible first | exact HB.out | apply below_alloc | apply pw_below_drewN | apply below_drew1) | exact HB.out)⟩⟩
      ·
       rw [if_neg c3] at H
       have c3b0 : decide (x7_2 < 3) = false := decide_eq_false c3
       clear c3
       replace H := Option.bind_eq_some_iff.mp H
       obtain ⟨t514, A80, H⟩ := H
       replace H : ((exequaturref01_sixty.f (Int.tmod (wrap64 (Int.tdiv x5_2 4096)) 64)).bind fun t515 => ((exequaturref01_sixty.f (Int.tmod (wrap64 (Int.tdiv x5_2 64)) 64)).bind fun t516 => ((exequaturref01_sixty.f (Int.tmod x5_2 64)).bind fun t517 => ((some (([t514, t515, t516, t517] : List Int) : List Int)).bind fun y518 => (if 0 ≤ (wrap64 (x6_2 + 1)) then (if (wrap64 (x6_2 + 1)) ≤ (y518.length : Int) then ((some (y518.take ((wrap64 (x6_2 + 1)) : Int).toNat : List Int)).bind fun y521 => (if x3_1.length + y521.length < 140737488355328 then (exequaturref01_B64.l0 k2 a0 (x3_1 ++ y521) (wrap64 (x4_1 + 3))) else (none))) else (none)) else (none)))))) = some r := H
       have A8 := Aside0.mk A80
       clear A80
       replace H := Option.bind_eq_some_iff.mp H
       obtain ⟨t515, A90, H⟩ := H
       replace H : ((exequaturref01_sixty.f (Int.tmod (wrap64 (Int.tdiv x5_2 64)) 64)).bind fun t516 => ((exequaturref01_sixty.f (Int.tmod x5_2 64)).bind fun t517 => ((some (([t514, t515, t516, t517] : List Int) : List Int)).bind fun y518 => (if 0 ≤ (wrap64 (x6_2 + 1)) then (if (wrap64 (x6_2 + 1)) ≤ (y518.length : Int) then ((some (y518.take ((wrap64 (x6_2 + 1)) : Int).toNat : List Int)).bind fun y521 => (if x3_1.length + y521.length < 140737488355328 then (exequaturref01_B64.l0 k2 a0 (x3_1 ++ y521) (wrap64 (x4_1 + 3))) else (none))) else (none)) else (none))))) = some r := H
       have A9 := Aside0.mk A90
       clear A90
       replace H := Option.bind_eq_some_iff.mp H
       obtain ⟨t516, A100, H⟩ := H
       replace H : ((exequaturref01_sixty.f (Int.tmod x5_2 64)).bind fun t517 => ((some (([t514, t515, t516, t517] : List Int) : List Int)).bind fun y518 => (if 0 ≤ (wrap64 (x6_2 + 1)) then (if (wrap64 (x6_2 + 1)) ≤ (y518.length : Int) then ((some (y518.take ((wrap64 (x6_2 + 1)) : Int).toNat : List Int)).bind fun y521 => (if x3_1.length + y521.length < 140737488355328 then (exequaturref01_B64.l0 k2 a0 (x3_1 ++ y521) (wrap64 (x4_1 + 3))) else (none))) else (none)) else (none)))) = some r := H
       have A10 := Aside0.mk A100
       clear A100
       replace H := Option.bind_eq_some_iff.mp H
       obtain ⟨t517, A110, H⟩ := H
       replace H : ((some (([t514, t515, t516, t517] : List Int) : List Int)).bind fun y518 => (if 0 ≤ (wrap64 (x6_2 + 1)) then (if (wrap64 (x6_2 + 1)) ≤ (y518.length : Int) then ((some (y518.take ((wrap64 (x6_2 + 1)) : Int).toNat : List Int)).bind fun y521 => (if x3_1.length + y521.length < 140737488355328 then (exequaturref01_B64.l0 k2 a0 (x3_1 ++ y521) (wrap64 (x4_1 + 3))) else (none))) else (none)) else (none))) = some r := H
       have A11 := Aside0.mk A110
       clear A110
       obtain ⟨y518, hy518⟩ : ∃ y_ : List Int, y_ = (([t514, t515, t516, t517] : List Int)) := ⟨_, rfl⟩
       replace H : (if 0 ≤ (wrap64 (x6_2 + 1)) then (if (wrap64 (x6_2 + 1)) ≤ (y518.length : Int) then ((some (y518.take ((wrap64 (x6_2 + 1)) : Int).toNat : List Int)).bind fun y521 => (if x3_1.length + y521.length < 140737488355328 then (exequaturref01_B64.l0 k2 a0 (x3_1 ++ y521) (wrap64 (x4_1 + 3))) else (none))) else (none)) else (none)) = some r := by first | (rw [hy518]; with_reducible exact H) | (have H2_ := (Option.bind_some _ _).symm.trans H; rw [hy518]; with_reducible exact H2_) | (have H2_ := (Option.bind_some _ _).symm.trans H; with_reducible exact H2_) | with_reducible exact H | (rw [hy518]; exact H) | exact H
       have Ny518 := Aside0.mk hy518
       clear hy518
       obtain ⟨ji12, hji12⟩ : ∃ j_ : Int, (wrap64 (x6_2 + 1)) = j_ := ⟨_, rfl⟩
       replace H : (if 0 ≤ (ji12) then (if (ji12) ≤ (y518.length : Int) then ((some (y518.take ((ji12) : Int).toNat : List Int)).bind fun y521 => (if x3_1.length + y521.length < 140737488355328 then (exequaturref01_B64.l0 k2 a0 (x3_1 ++ y521) (wrap64 (x4_1 + 3))) else (none))) else (none)) else (none)) = some r := by first | (rw [hji12] at H; exact H) | (simp only [hji12] at H ⊢; exact H)
       (try rw [hji12] at A8)
       (try rw [hji12] at A9)
       (try rw [hji12] at A10)
       (try rw [hji12] at A11)
       have hji12w : (IntKind.i64.wrap (x6_2 + 1)) = ji12 := (i64_w _).trans hji12
       by_cases c13 : 0 ≤ (ji12)
       ·
        rw [if_pos c13] at H
        have c13b0 := eq_true c13
        have c13b1 : decide (0 ≤ (ji12)) = true := decide_eq_true c13
        clear c13
        by_cases c14 : (ji12) ≤ (y518.length : Int)
        ·
         rw [if_pos c14] at H
         have c14b0 := eq_true c14
         have c14b1 : decide ((ji12) ≤ (y518.length : Int)) = true := decide_eq_true c14
         clear c14
         obtain ⟨y521, hy521⟩ : ∃ y_ : List Int, y_ = (y518.take ((ji12) : Int).toNat) := ⟨_, rfl⟩
         replace H : (if x3_1.length + y521.length < 140737488355328 then (exequaturref01_B64.l0 k2 a0 (x3_1 ++ y521) (wrap64 (x4_1 + 3))) else (none)) = some r := by first | (rw [hy521]; with_reducible exact H) | (have H2_ := (Option.bind_some _ _).symm.trans H; rw [hy521]; with_reducible exact H2_) | (have H2_ := (Option.bind_some _ _).symm.trans H; with_reducible exact H2_) | with_reducible exact H | (rw [hy521]; exact H) | exact H
         have Ny521 := Aside0.mk hy521
         clear hy521
         by_cases c15 : x3_1.length + y521.length < 140737488355328
         ·
          rw [if_pos c15] at H
          have LMc15 := Aside0.mk c15
          clear c15
          obtain ⟨y525, hy525⟩ : ∃ y_ : List Int, y_ = (x3_1 ++ y521) := ⟨_, rfl⟩
          replace H : (exequaturref01_B64.l0 k2 a0 y525 (wrap64 (x4_1 + 3))) = some r := by first | (rw [hy525]; with_reducible exact H) | (have H2_ := (Option.bind_some _ _).symm.trans H; rw [hy525]; with_reducible exact H2_) | (have H2_ := (Option.bind_some _ _).symm.trans H; with_reducible exact H2_) | with_reducible exact H | (rw [hy525]; exact H) | exact H
          have Ny525 := Aside0.mk hy525
          clear hy525
          have H' := Aside0.mk H
          clear H
          go_wp2_with (first | ((with_reducible refine gate_callee (f := 175) rfl ?_); refine goesL_ (some 39) rfl rfl Tryz.func175 (by kernel_rfl) rfl #[.int .i64 (wrap64 (Int.tdiv x5_2 262144))] rfl (by (try simp only [List.map_toArray, List.map_cons, List.map_nil]); first | done | rfl | (simp only [List.length_drop, List.length_take]; rfl)) ?_; (with_reducible refine (exequaturref01_sixty.calls (wrap64 (Int.tdiv x5_2 262144)) t514 _ A8.out).mono ?_); rintro e w' ⟨rfl, ⟨nd, rfl⟩⟩; refine ⟨_, rfl, ?_⟩) | ((with_reducible refine gate_callee (f := 175) rfl ?_); refine goesL_ (some 43) rfl rfl Tryz.func175 (by kernel_rfl) rfl #[.int .i64 (Int.tmod (wrap64 (Int.tdiv x5_2 4096)) 64)] rfl (by (try simp only [List.map_toArray, List.map_cons, List.map_nil]); first | done | rfl | (simp only [List.length_drop, List.length_take]; rfl)) ?_; (with_reducible refine (exequaturref01_sixty.calls (Int.tmod (wrap64 (Int.tdiv x5_2 4096)) 64) t515 _ A9.out).mono ?_); rintro e w' ⟨rfl, ⟨nd, rfl⟩⟩; refine ⟨_, rfl, ?_⟩) | ((with_reducible refine gate_callee (f := 175) rfl ?_); refine goesL_ (some 47) rfl rfl Tryz.func175 (by kernel_rfl) rfl #[.int .i64 (Int.tmod (wrap64 (Int.tdiv x5_2 64)) 64)] rfl (by (try simp only [List.map_toArray, List.map_cons, List.map_nil]); first | done | rfl | (simp only [List.length_drop, List.length_take]; rfl)) ?_; (with_reducible refine (exequaturref01_sixty.calls (Int.tmod (wrap64 (Int.tdiv x5_2 64)) 64) t516 _ A10.out).mono ?_); rintro e w' ⟨rfl, ⟨nd, rfl⟩⟩; refine ⟨_, rfl, ?_⟩) | ((with_reducible refine gate_callee (f := 175) rfl ?_); refine goesL_ (some 50) rfl rfl Tryz.func175 (by kernel_rfl) rfl #[.int .i64 (Int.tmod x5_2 64)] rfl (by (try simp only [List.map_toArray, List.map_cons, List.map_nil]); first | done | rfl | (simp only [List.length_drop, List.length_take]; rfl)) ?_; (with_reducible refine (exequaturref01_sixty.calls (Int.tmod x5_2 64) t517 _ A11.out).mono ?_); rintro e w' ⟨rfl, ⟨nd, rfl⟩⟩; refine ⟨_, rfl, ?_⟩) | ((with_reducible refine gate_dst (N := 51) rfl ?_); refine Kd.R_lit (Kd.int .u8) _ 5 ?hg (N := 51) ?hd (xs := ([t514, t515, t516, t517] : List Int)) (inner := [.int .u8 t514, .int .u8 t515, .int .u8 t516, .int .u8 t517]) (ok := fun _ => True) (okp := fun _ => True) ?hr ?hp (fun _ hk => hk) trivial (Below.refl _ _) (Nat.le_refl _) (by simp) ?_; (case hd => rfl); (case hg => rfl); (case hr => first | (go_simp; done) | (go_simp; rfl)); (case hp => exact (Reps.one (show Kd.M (Kd.int .u8) _ _ _ t514 [.int .u8 t514] from rfl) (Reps.one (show Kd.M (Kd.int .u8) _ _ _ t515 [.int .u8 t515] from rfl) (Reps.one (show Kd.M (Kd.int .u8) _ _ _ t516 [.int .u8 t516] from rfl) (Reps.one (show Kd.M (Kd.int .u8) _ _ _ t517 [.int .u8 t517] from rfl) (Reps.none _ _)))))); intro v519 w16 ho17 hb hg_ hnew_; clear hg_ hnew_; (first | rw [← Ny518.out] at ho17 | (simp only [Int.reduceToNat] at ho17; rw [← Ny518.out] at ho17)); have n0_ := Aside0.mk (Kd.R_elder' (by (with_reducible repeat (first | apply Kd.R_alloc | apply Kd.R_drewN | apply Kd.R_drew)); exact HO_3.out) (Kd.R_base ho17) hb); have n1_ := Aside0.mk (Kd.R_lower (Kd.R_new' ho17 (Kd.R_lt (by (with_reducible repeat (first | apply Kd.R_alloc | apply Kd.R_drewN | apply Kd.R_drew)); exact HO_3.out))) (below_size (by repeat (first | (with_reducible first | exact HB.out | apply below_alloc | apply pw_below_drewN | apply below_drew1) | exact HB.out)))); have n2_ := Aside0.mk (below_step (by repeat (first | (with_reducible first | exact HB.out | apply below_alloc | apply pw_below_drewN | apply below_drew1) | exact HB.out)) hb); clear HO_3; clear HB; have HO_3 := n0_; have HO520 := n1_; have HB := n2_; clear n0_ n1_ n2_; clear hb ho17; obtain ⟨Ao19, co19, eo19⟩ := Kd.R_slice HO520.out; subst eo19; have q18 : ((ji12) : Int) ≤ ((y518.length : Int) : Int) := of_decide_eq_true (by first | (with_reducible assumption) | assumption); obtain ⟨i018, hi018, _, hsz18, _⟩ := info_parts info5; have hroom18 : y518.length ≤ co19 := (Kd.R_reads' HO520.out).2.1; have hC18 : Kd.C (Kd.int .u8) _ Ao19 y518.length y518 := (Kd.R_reads' HO520.out).2.2; have hcut18 := cut_to (P := Tryz.prog) 40 5 .i64 Tryz.underlying40 hi018 Ao19 y518.length co19 (ji12) (of_decide_eq_true (by first | (with_reducible assumption) | assumption)) q18 hroom18; have hr18 := Kd.C_take (m := ((ji12) : Int).toNat) hC18 (by omega); have hy18 : y521.length = ((ji12) : Int).toNat := (by rw [Ny521.out, List.length_take]; omega); rw [← Ny521.out] at hr18; rw [← hy18] at hcut18; have HR524 := Aside0.mk hr18; have HC524 := Aside0.mk (show y521.length ≤ co19 from by omega); clear hr18 hC18 hroom18 hi018 hsz18; have KY18 := Aside0.mk hy18; clear hy18; have KL18 := Aside0.mk (show ((ji12) : Int).toNat ≤ y518.length from by omega); replace q18 := eq_true q18) | ((with_reducible refine gate_builtin (b := .append) (xs := #[.tmp 52, .tmp 56]) rfl ?_); at_builtin; refine Kd.R_append_rows (Kd.int .u8) (w0 := w) w.heap.size rfl (.tmp 52) (.tmp 56) 40 5 (.int .u8 0) 1 rfl Tryz.underlying40 info5 rfl (by decide) (by omega) u3 x3_1 y521 _ _ _ (fun k_ => some k_ ≠ (.slice Ao19 y518.length co19 : Value).ownBlock) (fun _ => False) rfl rfl ?aO ?aR (fun _ _ h => h) (fun _ h => h.elim) ?aF ?aB ?aS ?aL ?_; (case aR => repeat (first | exact (by repeat (first | (with_reducible exact HR524.out) | (with_reducible refine Kd.C_alloc ?_ _) | (with_reducible refine Kd.C_drewN ?_ _) | (with_reducible refine Kd.C_drew ?_) | exact HR524.out)) | (with_reducible refine Kd.C_alloc ?_ _) | (with_reducible refine Kd.C_drewN ?_ _) | (with_reducible refine Kd.C_drew ?_))); (case aB => exact (by repeat (first | (with_reducible first | exact HB.out | apply below_alloc | apply pw_below_drewN | apply below_drew1) | exact HB.out))); (case aF => exact (fun k_ hk => Kd.fresh' (Kd.R_lt (by (with_reducible repeat (first | apply Kd.R_alloc | apply Kd.R_drewN | apply Kd.R_drew)); exact HO520.out)) k_ hk)); (case aO => exact (by (with_reducible repeat (first | apply Kd.R_alloc | apply Kd.R_drewN | apply Kd.R_drew)); exact Kd.R_mono HO_3.out (fun _ hk => hk.2))); (case aS => exact (below_size (by repeat (first | (with_reducible first | exact HB.out | apply below_alloc | apply pw_below_drewN | apply below_drew1) | exact HB.out)))); (case aL => have := LMc15.out; omega); intro v526 w20 ho hb hg hat; rw [← Ny525.out] at ho; have n0_ := Aside0.mk (Kd.R_after (ok := (fun _ => True)) (by (with_reducible repeat (first | apply Kd.R_alloc | apply Kd.R_drewN | apply Kd.R_drew)); exact HO520.out) hg hat); have n1_ := Aside0.mk (hb); have n2_ := Aside0.mk ((show Kd.C (Kd.int .u8) w20 Ao19 y521.length y521 from by rw [Ny521.out]; exact Kd.C_take (m := ((ji12) : Int).toNat) ((Kd.R_reads' (Kd.R_after (ok := (fun _ => True)) (by (with_reducible repeat (first | apply Kd.R_alloc | apply Kd.R_drewN | apply Kd.R_drew)); exact HO520.out) hg hat)).2.2) KL18.out)); have n3_ := Aside0.mk (ho); clear HO520; clear HB; clear HR524; clear HO_3; have HO520 := n0_; have HB := n1_; have HR524 := n2_; have HO527 := n3_; clear n0_ n1_ n2_ n3_; clear ho hb hg hat))
          go_roundg k2
          case measure => have := HK1.out; have := HK2.out; omega
          case rel => exact ⟨(y525), (wrap64 (x4_1 + 3)), (by first | rfl | (simp; done) | (simp [*]; done)), H', ⟨by have := HK1.out; have := HK2.out; omega⟩, ⟨by (with_reducible repeat (first | apply Kd.R_alloc | apply Kd.R_drewN | apply Kd.R_drew)); exact Kd.R_mono HO527.out (fun _ hk => trivial)⟩, ⟨by repeat (first | (with_reducible first | exact HB.out | apply below_alloc | apply pw_below_drewN | apply below_drew1) | exact HB.out)⟩⟩
         ·
          rw [if_neg c15] at H
          exact absurd H (by simp)
        ·
         rw [if_neg c14] at H
         exact absurd H (by simp)
       ·
        rw [if_neg c13] at H
        exact absurd H (by simp)
   ·
    rw [if_neg c2] at H
    have c2b0 : decide (x4_1 < (a0.size : Int)) = false := decide_eq_false c2
    clear c2
    obtain rfl := Option.some.inj H
    have hcv21 := (own_string (P := Tryz.prog) Tryz.underlying40 Tryz.underlying5 Tryz.underlying9 (Kd.own_of_R HO_3.out))
    go_wp2
    go_ret
    exact ⟨by first | rfl | (simp [errW_none, errW_some] <;> rfl) | (simp [*, errW_none, errW_some] <;> rfl), by repeat (first | (with_reducible first | exact HB.out | apply below_alloc | apply pw_below_drewN | apply below_drew1) | exact HB.out)⟩

def exequaturref01_Right.l0 : Nat → ByteArray → ByteArray → Int → Option (Bool)
 | 0, _, _, _ => none
 | k + 1, x0, x1, x5 => if x5 < (x1.size : Int) then (if 0 ≤ x5 then ((exequaturref01_plain.f (bt x1 x5)).bind fun t528 => (if t528 = true then (exequaturref01_Right.l0 k x0 x1 (wrap64 (x5 + 1))) else (some false))) else (none)) else (if (x1.size : Int) ≥ 43 then (if (x1.size : Int) ≤ 128 then ((exequaturref01_Sum.f x1).bind fun t529 => ((exequaturref01_B64.f k t529).bind fun t530 => (some (t530.toList == x0.toList)))) else (some false)) else (some false))
def exequaturref01_Right.f (k : Nat) (a0 : ByteArray) (a1 : ByteArray) : Option (Bool) := exequaturref01_Right.l0 k a0 a1 0
theorem exequaturref01_Right.mono_l : ∀ k, (∀ y0 y1 y2, LeO (exequaturref01_Right.l0 k y0 y1 y2) (exequaturref01_Right.l0 (k + 1) y0 y1 y2))
 | 0 => fun _ _ _ r h => by simp [exequaturref01_Right.l0] at h
 | k + 1 => by
  have ih0 := exequaturref01_Right.mono_l k
  ·
   intro y0 y1 y2
   unfold exequaturref01_Right.l0
   repeat' first
   | (with_reducible exact ih0 _ _ _)
   | (with_reducible exact exequaturref01_B64.mono _ _)
   | (with_reducible exact LeO.refl _)
   | (with_reducible exact LeO.none _)
   | (with_reducible refine LeO.ite ?_ ?_)
   | (with_reducible refine LeO.bind ?_ (fun _ => ?_))
   | exact ih0 _ _ _
   | exact exequaturref01_B64.mono _ _
   | exact LeO.none _
   | refine LeO.ite ?_ ?_
   | refine LeO.bind ?_ (fun _ => ?_)
theorem exequaturref01_Right.mono : ∀ a0 a1 k, LeO (exequaturref01_Right.f k a0 a1) (exequaturref01_Right.f (k + 1) a0 a1) := by
 intro a0 a1 k
 have ih0 := exequaturref01_Right.mono_l k
 unfold exequaturref01_Right.f
 repeat' first
   | (with_reducible exact ih0 _ _ _)
   | (with_reducible exact exequaturref01_B64.mono _ _)
   | (with_reducible exact LeO.refl _)
   | (with_reducible exact LeO.none _)
   | (with_reducible refine LeO.ite ?_ ?_)
   | (with_reducible refine LeO.bind ?_ (fun _ => ?_))
   | exact ih0 _ _ _
   | exact exequaturref01_B64.mono _ _
   | exact LeO.none _
   | refine LeO.ite ?_ ?_
   | refine LeO.bind ?_ (fun _ => ?_)
set_option maxHeartbeats 8000000 in
set_option maxRecDepth 100000 in
theorem exequaturref01_Right.calls (k : Nat) (a0 : ByteArray) (a1 : ByteArray) (r : Bool) (w : World) (h : exequaturref01_Right.f k a0 a1 = some r) :
  Calls Tryz.prog 124 #[.string a0, .string a1] w fun e w' => e = .returned (.bool r) ∧ Below w.heap.size w w' := by
 have HB := Aside0.mk (Below.refl w.heap.size w)
 have H : (exequaturref01_Right.l0 k a0 a1 0) = some r := h
 clear h
 have H' := Aside0.mk H
 clear H
 go_enter Tryz.func124, Tryz.ntmps124
 go_wp2
 go_loopg [5] k (fun kq v5 w' => ∃ (x5_1 : Int), v5 = .int .i64 x5_1 ∧ Aside0 (exequaturref01_Right.l0 kq a0 a1 x5_1 = some r) ∧ Aside0 (kq ≤ k) ∧ Aside0 (Below w.heap.size w w'))
 case atStart => exact ⟨(0), (by first | rfl | (simp; done) | (simp [*]; done)), H', ⟨Nat.le_refl _⟩, ⟨by repeat (first | (with_reducible first | exact HB.out | apply below_alloc | apply pw_below_drewN | apply below_drew1) | exact HB.out)⟩⟩
 case round =>
  clear H'
  try clear c1
  try clear p2
  obtain ⟨x5_1, rfl, HA, HK1, HB⟩ := hrel
  cases gk with
  | zero => exact absurd HA.out (by simp [exequaturref01_Right.l0])
  | succ k1 =>
   have H := HA.out
   clear HA
   simp only [exequaturref01_Right.l0] at H
   by_cases c3 : x5_1 < (a1.size : Int)
   ·
    rw [if_pos c3] at H
    have c3b0 : decide (x5_1 < (a1.size : Int)) = true := decide_eq_true c3
    clear c3
    by_cases c4 : 0 ≤ x5_1
    ·
     rw [if_pos c4] at H
     have c4b0 : decide (0 ≤ x5_1) = true := decide_eq_true c4
     clear c4
     replace H := Option.bind_eq_some_iff.mp H
     obtain ⟨t528, A60, H⟩ := H
     replace H : (if t528 = true then (exequaturref01_Right.l0 k1 a0 a1 (wrap64 (x5_1 + 1))) else (some false)) = some r := H
     have A6 := Aside0.mk A60
     clear A60
     by_cases c7 : t528 = true
     ·
      subst c7
      have H1 : (exequaturref01_Right.l0 k1 a0 a1 (wrap64 (x5_1 + 1))) = some r := by rw [if_pos rfl] at H; exact H
      clear H
      have H := H1
      clear H1
      have H' := Aside0.mk H
      clear H
      have p5 : 0 ≤ (x5_1 : Int) := of_decide_eq_true (by first | (with_reducible assumption) | assumption)
      have q5 : x5_1 < (a1.size : Int) := of_decide_eq_true (by first | (with_reducible assumption) | assumption)
      have hx5 := bt_at a1 x5_1
      replace p5 := eq_true p5
      replace q5 := eq_true q5
      go_wp2_with (first | ((with_reducible refine gate_callee (f := 158) rfl ?_); refine goesL_ (some 15) rfl rfl Tryz.func158 (by kernel_rfl) rfl #[.int .u8 (bt a1 x5_1)] rfl (by (try simp only [List.map_toArray, List.map_cons, List.map_nil]); first | done | rfl | (simp only [List.length_drop, List.length_take]; rfl)) ?_; (with_reducible refine (exequaturref01_plain.calls (bt a1 x5_1) true _ A6.out).mono ?_); rintro e w' ⟨rfl, ⟨nd, rfl⟩⟩; refine ⟨_, rfl, ?_⟩))
      go_roundg k1
      case measure => have := HK1.out; omega
      case rel => exact ⟨(wrap64 (x5_1 + 1)), (by first | rfl | (simp; done) | (simp [*]; done)), H', ⟨by have := HK1.out; omega⟩, ⟨by repeat (first | (with_reducible first | exact HB.out | apply below_alloc | apply pw_below_drewN | apply below_drew1) | exact HB.out)⟩⟩
     ·
      replace c7 := Bool.eq_false_iff.mpr c7
      subst c7
      have H1 : (some false) = some r := by rw [if_neg (show ¬ (false = true) by decide)] at H; exact H
      clear H
      have H := H1
      clear H1
      obtain rfl := Option.some.inj H
      have p5 : 0 ≤ (x5_1 : Int) := of_decide_eq_true (by first | (with_reducible assumption) | assumption)
      have q5 : x5_1 < (a1.size : Int) := of_decide_eq_true (by first | (with_reducible assumption) | assumption)
      have hx5 := bt_at a1 x5_1
      replace p5 := eq_true p5
      replace q5 := eq_true q5
      go_wp2_with (first | ((with_reducible refine gate_callee (f := 158) rfl ?_); refine goesL_ (some 15) rfl rfl Tryz.func158 (by kernel_rfl) rfl #[.int .u8 (bt a1 x5_1)] rfl (by (try simp only [List.map_toArray, List.map_cons, List.map_nil]); first | done | rfl | (simp only [List.length_drop, List.length_take]; rfl)) ?_; (with_reducible refine (exequaturref01_plain.calls (bt a1 x5_1) false _ A6.out).mono ?_); rintro e w' ⟨rfl, ⟨nd, rfl⟩⟩; refine ⟨_, rfl, ?_⟩))
      go_ret
      exact ⟨by first | rfl | (simp [errW_none, errW_some] <;> rfl) | (simp [*, errW_none, errW_some] <;> rfl), by repeat (first | (with_reducible first | exact HB.out | apply below_alloc | apply pw_below_drewN | apply below_drew1) | exact HB.out)⟩
    ·
     rw [if_neg c4] at H
     exact absurd H (by simp)
   ·
    rw [if_neg c3] at H
    have c3b0 : decide (x5_1 < (a1.size : Int)) = false := decide_eq_false c3
    clear c3
    by_cases c8 : (a1.size : Int) ≥ 43
    ·
     rw [if_pos c8] at H
     have c8b0 : decide (43 ≤ (a1.size : Int)) = true := decide_eq_true c8
     have c8b1 : decide (43 ≤ a1.size) = true := decide_eq_true (by omega)
     clear c8
     by_cases c9 : (a1.size : Int) ≤ 128
     ·
      rw [if_pos c9] at H
      have c9b0 : decide ((a1.size : Int) ≤ 128) = true := decide_eq_true c9
      have c9b1 : decide (a1.size ≤ 128) = true := decide_eq_true (by omega)
      clear c9
      replace H := Option.bind_eq_some_iff.mp H
      obtain ⟨t529, A100, H⟩ := H
      replace H : ((exequaturref01_B64.f k1 t529).bind fun t530 => (some (t530.toList == a0.toList))) = some r := H
      have A10 := Aside0.mk A100
      clear A100
      replace H := Option.bind_eq_some_iff.mp H
      obtain ⟨t530, A110, H⟩ := H
      replace H : (some (t530.toList == a0.toList)) = some r := H
      have A11 := Aside0.mk A110
      clear A110
      obtain rfl := Option.some.inj H
      go_wp2_with (first | (go_at_call 141; (with_reducible refine (exequaturref01_Sum.calls a1 t529 _ A10.out).mono ?_); rintro e w12 ⟨rfl, hb⟩; have n0_ := Aside0.mk (below_step (by repeat (first | (with_reducible first | exact HB.out | apply below_alloc | apply pw_below_drewN | apply below_drew1) | exact HB.out)) hb); clear HB; have HB := n0_; clear n0_; (try clear hb); (try clear hb2); (try clear hk); (try clear hi)) | (go_at_call 159; (with_reducible refine (exequaturref01_B64.calls k1 t529 t530 _ A11.out).mono ?_); rintro e w13 ⟨rfl, hb⟩; have n0_ := Aside0.mk (below_step (by repeat (first | (with_reducible first | exact HB.out | apply below_alloc | apply pw_below_drewN | apply below_drew1) | exact HB.out)) hb); clear HB; have HB := n0_; clear n0_; (try clear hb); (try clear hb2); (try clear hk); (try clear hi)))
      go_ret
      exact ⟨by first | rfl | (simp [errW_none, errW_some] <;> rfl) | (simp [*, errW_none, errW_some] <;> rfl), by repeat (first | (with_reducible first | exact HB.out | apply below_alloc | apply pw_below_drewN | apply below_drew1) | exact HB.out)⟩
     ·
      rw [if_neg c9] at H
      have c9b0 : decide ((a1.size : Int) ≤ 128) = false := decide_eq_false c9
      have c9b1 : decide (a1.size ≤ 128) = false := decide_eq_false (by omega)
      clear c9
      obtain rfl := Option.some.inj H
      go_wp2
      go_ret
      exact ⟨by first | rfl | (simp [errW_none, errW_some] <;> rfl) | (simp [*, errW_none, errW_some] <;> rfl), by repeat (first | (with_reducible first | exact HB.out | apply below_alloc | apply pw_below_drewN | apply below_drew1) | exact HB.out)⟩
    ·
     rw [if_neg c8] at H
     have c8b0 : decide (43 ≤ (a1.size : Int)) = false := decide_eq_false c8
     have c8b1 : decide (43 ≤ a1.size) = false := decide_eq_false (by omega)
     clear c8
     obtain rfl := Option.some.inj H
     go_wp2
     go_ret
     exact ⟨by first | rfl | (simp [errW_none, errW_some] <;> rfl) | (simp [*, errW_none, errW_some] <;> rfl), by repeat (first | (with_reducible first | exact HB.out | apply below_alloc | apply pw_below_drewN | apply below_drew1) | exact HB.out)⟩

def exequaturref13_Redeem.f (k : Nat) (a0_0 : ByteArray) (a0_1 : ByteArray) (a0_2 : ByteArray) (a0_3 : ByteArray) (a0_4 : ByteArray) (a0_5 : ByteArray) (a0_6 : ByteArray) (a0_7 : ByteArray) (a0_8 : ByteArray) (a0_9 : ByteArray) (a0_10 : ByteArray) (a0_11 : Int) (a0_12 : ByteArray) (a1 : ByteArray) (a2 : ByteArray) (a3 : ByteArray) (a4 : Int) : Option (Bool) := if a0_12.toList = ([] : List UInt8) then (if a0_11 > a4 then (if a0_1.toList = a1.toList then (if a0_2.toList = a2.toList then ((exequaturref01_Right.f k a0_3 a3).bind fun t532 => (some t532)) else (some false)) else (some false)) else (some false)) else (some false)
theorem exequaturref13_Redeem.mono : ∀ a0 a1 a2 a3 a4 a5 a6 a7 a8 a9 a10 a11 a12 a13 a14 a15 a16 k, LeO (exequaturref13_Redeem.f k a0 a1 a2 a3 a4 a5 a6 a7 a8 a9 a10 a11 a12 a13 a14 a15 a16) (exequaturref13_Redeem.f (k + 1) a0 a1 a2 a3 a4 a5 a6 a7 a8 a9 a10 a11 a12 a13 a14 a15 a16) := by
 intro a0 a1 a2 a3 a4 a5 a6 a7 a8 a9 a10 a11 a12 a13 a14 a15 a16 k
 unfold exequaturref13_Redeem.f
 repeat' first
   | (with_reducible exact exequaturref01_Right.mono _ _ _)
   | (with_reducible exact LeO.refl _)
   | (with_reducible exact LeO.none _)
   | (with_reducible refine LeO.ite ?_ ?_)
   | (with_reducible refine LeO.bind ?_ (fun _ => ?_))
   | exact exequaturref01_Right.mono _ _ _
   | exact LeO.none _
   | refine LeO.ite ?_ ?_
   | refine LeO.bind ?_ (fun _ => ?_)
set_option maxHeartbeats 8000000 in
set_option maxRecDepth 100000 in
theorem exequaturref13_Redeem.calls (k : Nat) (a0_0 : ByteArray) (a0_1 : ByteArray) (a0_2 : ByteArray) (a0_3 : ByteArray) (a0_4 : ByteArray) (a0_5 : ByteArray) (a0_6 : ByteArray) (a0_7 : ByteArray) (a0_8 : ByteArray) (a0_9 : ByteArray) (a0_10 : ByteArray) (a0_11 : Int) (a0_12 : ByteArray) (a1 : ByteArray) (a2 : ByteArray) (a3 : ByteArray) (a4 : Int) (r : Bool) (w : World) (h : exequaturref13_Redeem.f k a0_0 a0_1 a0_2 a0_3 a0_4 a0_5 a0_6 a0_7 a0_8 a0_9 a0_10 a0_11 a0_12 a1 a2 a3 a4 = some r) :
  Calls Tryz.prog 78 #[.agg #[.string a0_0, .string a0_1, .string a0_2, .string a0_3, .string a0_4, .string a0_5, .string a0_6, .string a0_7, .string a0_8, .string a0_9, .string a0_10, .int .i64 a0_11, .string a0_12], .string a1, .string a2, .string a3, .int .i64 a4] w fun e w' => e = .returned (.bool r) ∧ Below w.heap.size w w' := by
 have hu104 := Tryz.underlying104
 have HB := Aside0.mk (Below.refl w.heap.size w)
 have H : (if a0_12.toList = ([] : List UInt8) then (if a0_11 > a4 then (if a0_1.toList = a1.toList then (if a0_2.toList = a2.toList then ((exequaturref01_Right.f k a0_3 a3).bind fun t532 => (some t532)) else (some false)) else (some false)) else (some false)) else (some false)) = some r := h
 clear h
 by_cases c6 : a0_12.toList = ([] : List UInt8)
 ·
  rw [if_pos c6] at H
  have c6b0 : (a0_12.toList == ([] : List UInt8)) = true := beq_iff_eq.mpr c6
  have c6b1 : (a0_12.toList != ([] : List UInt8)) = false := bne_eq_false_iff_eq.mpr c6
  clear c6
  by_cases c7 : a0_11 > a4
  ·
   rw [if_pos c7] at H
   have c7b0 : decide (a4 < a0_11) = true := decide_eq_true c7
   clear c7
   by_cases c8 : a0_1.toList = a1.toList
   ·
    rw [if_pos c8] at H
    have c8b0 : (a0_1.toList == a1.toList) = true := beq_iff_eq.mpr c8
    have c8b1 : (a0_1.toList != a1.toList) = false := bne_eq_false_iff_eq.mpr c8
    clear c8
    by_cases c9 : a0_2.toList = a2.toList
    ·
     rw [if_pos c9] at H
     have c9b0 : (a0_2.toList == a2.toList) = true := beq_iff_eq.mpr c9
     have c9b1 : (a0_2.toList != a2.toList) = false := bne_eq_false_iff_eq.mpr c9
     clear c9
     replace H := Option.bind_eq_some_iff.mp H
     obtain ⟨t532, A100, H⟩ := H
     replace H : (some t532) = some r := H
     have A10 := Aside0.mk A100
     clear A100
     obtain rfl := Option.some.inj H
     go_enter Tryz.func78, Tryz.ntmps78
     go_wp2_with (first | ((with_reducible refine gate_dst (N := 5) rfl ?_); refine box_event ?hg (N := 5) ?hd (cs := #[.string a0_0, .string a0_1, .string a0_2, .string a0_3, .string a0_4, .string a0_5, .string a0_6, .string a0_7, .string a0_8, .string a0_9, .string a0_10, .int .i64 a0_11, .string a0_12]) (t := 104) ?hr ?_; (case hd => rfl); (case hg => rfl); (case hr => first | (go_simp; done) | (go_simp; rfl)); intro gb531 hg w11 hbox hb; have n0_ := Aside0.mk (below_step (by repeat (first | (with_reducible first | exact HB.out | apply below_alloc | apply pw_below_drewN | apply below_drew1) | exact HB.out)) hb); have n1_ := Aside0.mk (hbox); have n2_ := Aside0.mk ((by rw [hg]; exact (below_size (by repeat (first | (with_reducible first | exact HB.out | apply below_alloc | apply pw_below_drewN | apply below_drew1) | exact HB.out))) : w.heap.size ≤ gb531)); have n3_ := Aside0.mk ((by rw [hg]; exact (below_size (by repeat (first | (with_reducible first | exact HB.out | apply below_alloc | apply pw_below_drewN | apply below_drew1) | exact HB.out))) : w.heap.size ≤ gb531)); clear HB; have HB := n0_; have BK531 := n1_; have GW531 := n2_; have GE531 := n3_; clear n0_ n1_ n2_ n3_; clear hb hbox hg; have hcz12_0 : w11.cell? ⟨gb531, 0, none⟩ = some (.string a0_0) := (blk_cell BK531.out 0).trans rfl; have hcz12_1 : w11.cell? ⟨gb531, 1, none⟩ = some (.string a0_1) := (blk_cell BK531.out 1).trans rfl; have hcz12_2 : w11.cell? ⟨gb531, 2, none⟩ = some (.string a0_2) := (blk_cell BK531.out 2).trans rfl; have hcz12_3 : w11.cell? ⟨gb531, 3, none⟩ = some (.string a0_3) := (blk_cell BK531.out 3).trans rfl; have hcz12_4 : w11.cell? ⟨gb531, 4, none⟩ = some (.string a0_4) := (blk_cell BK531.out 4).trans rfl; have hcz12_5 : w11.cell? ⟨gb531, 5, none⟩ = some (.string a0_5) := (blk_cell BK531.out 5).trans rfl; have hcz12_6 : w11.cell? ⟨gb531, 6, none⟩ = some (.string a0_6) := (blk_cell BK531.out 6).trans rfl; have hcz12_7 : w11.cell? ⟨gb531, 7, none⟩ = some (.string a0_7) := (blk_cell BK531.out 7).trans rfl; have hcz12_8 : w11.cell? ⟨gb531, 8, none⟩ = some (.string a0_8) := (blk_cell BK531.out 8).trans rfl; have hcz12_9 : w11.cell? ⟨gb531, 9, none⟩ = some (.string a0_9) := (blk_cell BK531.out 9).trans rfl; have hcz12_10 : w11.cell? ⟨gb531, 10, none⟩ = some (.string a0_10) := (blk_cell BK531.out 10).trans rfl; have hcz12_11 : w11.cell? ⟨gb531, 11, none⟩ = some (.int .i64 a0_11) := (blk_cell BK531.out 11).trans rfl; have hcz12_12 : w11.cell? ⟨gb531, 12, none⟩ = some (.string a0_12) := (blk_cell BK531.out 12).trans rfl; have hfz12_0 := blk_frozen BK531.out 0; have hfz12_1 := blk_frozen BK531.out 1; have hfz12_2 := blk_frozen BK531.out 2; have hfz12_3 := blk_frozen BK531.out 3; have hfz12_4 := blk_frozen BK531.out 4; have hfz12_5 := blk_frozen BK531.out 5; have hfz12_6 := blk_frozen BK531.out 6; have hfz12_7 := blk_frozen BK531.out 7; have hfz12_8 := blk_frozen BK531.out 8; have hfz12_9 := blk_frozen BK531.out 9; have hfz12_10 := blk_frozen BK531.out 10; have hfz12_11 := blk_frozen BK531.out 11; have hfz12_12 := blk_frozen BK531.out 12) | (go_at_call 124; (with_reducible refine (exequaturref01_Right.calls k a0_3 a3 t532 _ A10.out).mono ?_); rintro e w13 ⟨rfl, hb⟩; have n0_ := Aside0.mk (blk_below (g := gb531) (o := .cells #[.string a0_0, .string a0_1, .string a0_2, .string a0_3, .string a0_4, .string a0_5, .string a0_6, .string a0_7, .string a0_8, .string a0_9, .string a0_10, .int .i64 a0_11, .string a0_12] 104 (0, 0)) (by (with_reducible repeat (first | refine blk_drewN ?_ _ | refine blk_drew ?_ | refine blk_alloc ?_ _)); exact BK531.out) hb); have n1_ := Aside0.mk (below_step (by repeat (first | (with_reducible first | exact HB.out | apply below_alloc | apply pw_below_drewN | apply below_drew1 | refine below_set ?_ GE531.out) | exact HB.out)) hb); clear BK531; clear HB; have BK531 := n0_; have HB := n1_; clear n0_ n1_; (try clear hb); (try clear hb2); (try clear hk); (try clear hi)))
     go_ret
     exact ⟨by first | rfl | (simp [errW_none, errW_some] <;> rfl) | (simp [*, errW_none, errW_some] <;> rfl), by repeat (first | (with_reducible first | exact HB.out | apply below_alloc | apply pw_below_drewN | apply below_drew1 | refine below_set ?_ GE531.out) | exact HB.out)⟩
    ·
     rw [if_neg c9] at H
     have c9b0 : (a0_2.toList == a2.toList) = false := beq_eq_false_iff_ne.mpr c9
     have c9b1 : (a0_2.toList != a2.toList) = true := bne_iff_ne.mpr c9
     obtain rfl := Option.some.inj H
     go_enter Tryz.func78, Tryz.ntmps78
     go_wp2_with (first | ((with_reducible refine gate_dst (N := 5) rfl ?_); refine box_event ?hg (N := 5) ?hd (cs := #[.string a0_0, .string a0_1, .string a0_2, .string a0_3, .string a0_4, .string a0_5, .string a0_6, .string a0_7, .string a0_8, .string a0_9, .string a0_10, .int .i64 a0_11, .string a0_12]) (t := 104) ?hr ?_; (case hd => rfl); (case hg => rfl); (case hr => first | (go_simp; done) | (go_simp; rfl)); intro gb531 hg w14 hbox hb; have n0_ := Aside0.mk (below_step (by repeat (first | (with_reducible first | exact HB.out | apply below_alloc | apply pw_below_drewN | apply below_drew1) | exact HB.out)) hb); have n1_ := Aside0.mk (hbox); have n2_ := Aside0.mk ((by rw [hg]; exact (below_size (by repeat (first | (with_reducible first | exact HB.out | apply below_alloc | apply pw_below_drewN | apply below_drew1) | exact HB.out))) : w.heap.size ≤ gb531)); have n3_ := Aside0.mk ((by rw [hg]; exact (below_size (by repeat (first | (with_reducible first | exact HB.out | apply below_alloc | apply pw_below_drewN | apply below_drew1) | exact HB.out))) : w.heap.size ≤ gb531)); clear HB; have HB := n0_; have BK531 := n1_; have GW531 := n2_; have GE531 := n3_; clear n0_ n1_ n2_ n3_; clear hb hbox hg; have hcz15_0 : w14.cell? ⟨gb531, 0, none⟩ = some (.string a0_0) := (blk_cell BK531.out 0).trans rfl; have hcz15_1 : w14.cell? ⟨gb531, 1, none⟩ = some (.string a0_1) := (blk_cell BK531.out 1).trans rfl; have hcz15_2 : w14.cell? ⟨gb531, 2, none⟩ = some (.string a0_2) := (blk_cell BK531.out 2).trans rfl; have hcz15_3 : w14.cell? ⟨gb531, 3, none⟩ = some (.string a0_3) := (blk_cell BK531.out 3).trans rfl; have hcz15_4 : w14.cell? ⟨gb531, 4, none⟩ = some (.string a0_4) := (blk_cell BK531.out 4).trans rfl; have hcz15_5 : w14.cell? ⟨gb531, 5, none⟩ = some (.string a0_5) := (blk_cell BK531.out 5).trans rfl; have hcz15_6 : w14.cell? ⟨gb531, 6, none⟩ = some (.string a0_6) := (blk_cell BK531.out 6).trans rfl; have hcz15_7 : w14.cell? ⟨gb531, 7, none⟩ = some (.string a0_7) := (blk_cell BK531.out 7).trans rfl; have hcz15_8 : w14.cell? ⟨gb531, 8, none⟩ = some (.string a0_8) := (blk_cell BK531.out 8).trans rfl; have hcz15_9 : w14.cell? ⟨gb531, 9, none⟩ = some (.string a0_9) := (blk_cell BK531.out 9).trans rfl; have hcz15_10 : w14.cell? ⟨gb531, 10, none⟩ = some (.string a0_10) := (blk_cell BK531.out 10).trans rfl; have hcz15_11 : w14.cell? ⟨gb531, 11, none⟩ = some (.int .i64 a0_11) := (blk_cell BK531.out 11).trans rfl; have hcz15_12 : w14.cell? ⟨gb531, 12, none⟩ = some (.string a0_12) := (blk_cell BK531.out 12).trans rfl; have hfz15_0 := blk_frozen BK531.out 0; have hfz15_1 := blk_frozen BK531.out 1; have hfz15_2 := blk_frozen BK531.out 2; have hfz15_3 := blk_frozen BK531.out 3; have hfz15_4 := blk_frozen BK531.out 4; have hfz15_5 := blk_frozen BK531.out 5; have hfz15_6 := blk_frozen BK531.out 6; have hfz15_7 := blk_frozen BK531.out 7; have hfz15_8 := blk_frozen BK531.out 8; have hfz15_9 := blk_frozen BK531.out 9; have hfz15_10 := blk_frozen BK531.out 10; have hfz15_11 := blk_frozen BK531.out 11; have hfz15_12 := blk_frozen BK531.out 12))
     go_ret
     exact ⟨by first | rfl | (simp [errW_none, errW_some] <;> rfl) | (simp [*, errW_none, errW_some] <;> rfl), by repeat (first | (with_reducible first | exact HB.out | apply below_alloc | apply pw_below_drewN | apply below_drew1 | refine below_set ?_ GE531.out) | exact HB.out)⟩
   ·
    rw [if_neg c8] at H
    have c8b0 : (a0_1.toList == a1.toList) = false := beq_eq_false_iff_ne.mpr c8
    have c8b1 : (a0_1.toList != a1.toList) = true := bne_iff_ne.mpr c8
    obtain rfl := Option.some.inj H
    go_enter Tryz.func78, Tryz.ntmps78
    go_wp2_with (first | ((with_reducible refine gate_dst (N := 5) rfl ?_); refine box_event ?hg (N := 5) ?hd (cs := #[.string a0_0, .string a0_1, .string a0_2, .string a0_3, .string a0_4, .string a0_5, .string a0_6, .string a0_7, .string a0_8, .string a0_9, .string a0_10, .int .i64 a0_11, .string a0_12]) (t := 104) ?hr ?_; (case hd => rfl); (case hg => rfl); (case hr => first | (go_simp; done) | (go_simp; rfl)); intro gb531 hg w16 hbox hb; have n0_ := Aside0.mk (below_step (by repeat (first | (with_reducible first | exact HB.out | apply below_alloc | apply pw_below_drewN | apply below_drew1) | exact HB.out)) hb); have n1_ := Aside0.mk (hbox); have n2_ := Aside0.mk ((by rw [hg]; exact (below_size (by repeat (first | (with_reducible first | exact HB.out | apply below_alloc | apply pw_below_drewN | apply below_drew1) | exact HB.out))) : w.heap.size ≤ gb531)); have n3_ := Aside0.mk ((by rw [hg]; exact (below_size (by repeat (first | (with_reducible first | exact HB.out | apply below_alloc | apply pw_below_drewN | apply below_drew1) | exact HB.out))) : w.heap.size ≤ gb531)); clear HB; have HB := n0_; have BK531 := n1_; have GW531 := n2_; have GE531 := n3_; clear n0_ n1_ n2_ n3_; clear hb hbox hg; have hcz17_0 : w16.cell? ⟨gb531, 0, none⟩ = some (.string a0_0) := (blk_cell BK531.out 0).trans rfl; have hcz17_1 : w16.cell? ⟨gb531, 1, none⟩ = some (.string a0_1) := (blk_cell BK531.out 1).trans rfl; have hcz17_2 : w16.cell? ⟨gb531, 2, none⟩ = some (.string a0_2) := (blk_cell BK531.out 2).trans rfl; have hcz17_3 : w16.cell? ⟨gb531, 3, none⟩ = some (.string a0_3) := (blk_cell BK531.out 3).trans rfl; have hcz17_4 : w16.cell? ⟨gb531, 4, none⟩ = some (.string a0_4) := (blk_cell BK531.out 4).trans rfl; have hcz17_5 : w16.cell? ⟨gb531, 5, none⟩ = some (.string a0_5) := (blk_cell BK531.out 5).trans rfl; have hcz17_6 : w16.cell? ⟨gb531, 6, none⟩ = some (.string a0_6) := (blk_cell BK531.out 6).trans rfl; have hcz17_7 : w16.cell? ⟨gb531, 7, none⟩ = some (.string a0_7) := (blk_cell BK531.out 7).trans rfl; have hcz17_8 : w16.cell? ⟨gb531, 8, none⟩ = some (.string a0_8) := (blk_cell BK531.out 8).trans rfl; have hcz17_9 : w16.cell? ⟨gb531, 9, none⟩ = some (.string a0_9) := (blk_cell BK531.out 9).trans rfl; have hcz17_10 : w16.cell? ⟨gb531, 10, none⟩ = some (.string a0_10) := (blk_cell BK531.out 10).trans rfl; have hcz17_11 : w16.cell? ⟨gb531, 11, none⟩ = some (.int .i64 a0_11) := (blk_cell BK531.out 11).trans rfl; have hcz17_12 : w16.cell? ⟨gb531, 12, none⟩ = some (.string a0_12) := (blk_cell BK531.out 12).trans rfl; have hfz17_0 := blk_frozen BK531.out 0; have hfz17_1 := blk_frozen BK531.out 1; have hfz17_2 := blk_frozen BK531.out 2; have hfz17_3 := blk_frozen BK531.out 3; have hfz17_4 := blk_frozen BK531.out 4; have hfz17_5 := blk_frozen BK531.out 5; have hfz17_6 := blk_frozen BK531.out 6; have hfz17_7 := blk_frozen BK531.out 7; have hfz17_8 := blk_frozen BK531.out 8; have hfz17_9 := blk_frozen BK531.out 9; have hfz17_10 := blk_frozen BK531.out 10; have hfz17_11 := blk_frozen BK531.out 11; have hfz17_12 := blk_frozen BK531.out 12))
    go_ret
    exact ⟨by first | rfl | (simp [errW_none, errW_some] <;> rfl) | (simp [*, errW_none, errW_some] <;> rfl), by repeat (first | (with_reducible first | exact HB.out | apply below_alloc | apply pw_below_drewN | apply below_drew1 | refine below_set ?_ GE531.out) | exact HB.out)⟩
  ·
   rw [if_neg c7] at H
   have c7b0 : decide (a4 < a0_11) = false := decide_eq_false c7
   clear c7
   obtain rfl := Option.some.inj H
   go_enter Tryz.func78, Tryz.ntmps78
   go_wp2_with (first | ((with_reducible refine gate_dst (N := 5) rfl ?_); refine box_event ?hg (N := 5) ?hd (cs := #[.string a0_0, .string a0_1, .string a0_2, .string a0_3, .string a0_4, .string a0_5, .string a0_6, .string a0_7, .string a0_8, .string a0_9, .string a0_10, .int .i64 a0_11, .string a0_12]) (t := 104) ?hr ?_; (case hd => rfl); (case hg => rfl); (case hr => first | (go_simp; done) | (go_simp; rfl)); intro gb531 hg w18 hbox hb; have n0_ := Aside0.mk (below_step (by repeat (first | (with_reducible first | exact HB.out | apply below_alloc | apply pw_below_drewN | apply below_drew1) | exact HB.out)) hb); have n1_ := Aside0.mk (hbox); have n2_ := Aside0.mk ((by rw [hg]; exact (below_size (by repeat (first | (with_reducible first | exact HB.out | apply below_alloc | apply pw_below_drewN | apply below_drew1) | exact HB.out))) : w.heap.size ≤ gb531)); have n3_ := Aside0.mk ((by rw [hg]; exact (below_size (by repeat (first | (with_reducible first | exact HB.out | apply below_alloc | apply pw_below_drewN | apply below_drew1) | exact HB.out))) : w.heap.size ≤ gb531)); clear HB; have HB := n0_; have BK531 := n1_; have GW531 := n2_; have GE531 := n3_; clear n0_ n1_ n2_ n3_; clear hb hbox hg; have hcz19_0 : w18.cell? ⟨gb531, 0, none⟩ = some (.string a0_0) := (blk_cell BK531.out 0).trans rfl; have hcz19_1 : w18.cell? ⟨gb531, 1, none⟩ = some (.string a0_1) := (blk_cell BK531.out 1).trans rfl; have hcz19_2 : w18.cell? ⟨gb531, 2, none⟩ = some (.string a0_2) := (blk_cell BK531.out 2).trans rfl; have hcz19_3 : w18.cell? ⟨gb531, 3, none⟩ = some (.string a0_3) := (blk_cell BK531.out 3).trans rfl; have hcz19_4 : w18.cell? ⟨gb531, 4, none⟩ = some (.string a0_4) := (blk_cell BK531.out 4).trans rfl; have hcz19_5 : w18.cell? ⟨gb531, 5, none⟩ = some (.string a0_5) := (blk_cell BK531.out 5).trans rfl; have hcz19_6 : w18.cell? ⟨gb531, 6, none⟩ = some (.string a0_6) := (blk_cell BK531.out 6).trans rfl; have hcz19_7 : w18.cell? ⟨gb531, 7, none⟩ = some (.string a0_7) := (blk_cell BK531.out 7).trans rfl; have hcz19_8 : w18.cell? ⟨gb531, 8, none⟩ = some (.string a0_8) := (blk_cell BK531.out 8).trans rfl; have hcz19_9 : w18.cell? ⟨gb531, 9, none⟩ = some (.string a0_9) := (blk_cell BK531.out 9).trans rfl; have hcz19_10 : w18.cell? ⟨gb531, 10, none⟩ = some (.string a0_10) := (blk_cell BK531.out 10).trans rfl; have hcz19_11 : w18.cell? ⟨gb531, 11, none⟩ = some (.int .i64 a0_11) := (blk_cell BK531.out 11).trans rfl; have hcz19_12 : w18.cell? ⟨gb531, 12, none⟩ = some (.string a0_12) := (blk_cell BK531.out 12).trans rfl; have hfz19_0 := blk_frozen BK531.out 0; have hfz19_1 := blk_frozen BK531.out 1; have hfz19_2 := blk_frozen BK531.out 2; have hfz19_3 := blk_frozen BK531.out 3; have hfz19_4 := blk_frozen BK531.out 4; have hfz19_5 := blk_frozen BK531.out 5; have hfz19_6 := blk_frozen BK531.out 6; have hfz19_7 := blk_frozen BK531.out 7; have hfz19_8 := blk_frozen BK531.out 8; have hfz19_9 := blk_frozen BK531.out 9; have hfz19_10 := blk_frozen BK531.out 10; have hfz19_11 := blk_frozen BK531.out 11; have hfz19_12 := blk_frozen BK531.out 12))
   go_ret
   exact ⟨by first | rfl | (simp [errW_none, errW_some] <;> rfl) | (simp [*, errW_none, errW_some] <;> rfl), by repeat (first | (with_reducible first | exact HB.out | apply below_alloc | apply pw_below_drewN | apply below_drew1 | refine below_set ?_ GE531.out) | exact HB.out)⟩
 ·
  rw [if_neg c6] at H
  have c6b0 : (a0_12.toList == ([] : List UInt8)) = false := beq_eq_false_iff_ne.mpr c6
  have c6b1 : (a0_12.toList != ([] : List UInt8)) = true := bne_iff_ne.mpr c6
  obtain rfl := Option.some.inj H
  go_enter Tryz.func78, Tryz.ntmps78
  go_wp2_with (first | ((with_reducible refine gate_dst (N := 5) rfl ?_); refine box_event ?hg (N := 5) ?hd (cs := #[.string a0_0, .string a0_1, .string a0_2, .string a0_3, .string a0_4, .string a0_5, .string a0_6, .string a0_7, .string a0_8, .string a0_9, .string a0_10, .int .i64 a0_11, .string a0_12]) (t := 104) ?hr ?_; (case hd => rfl); (case hg => rfl); (case hr => first | (go_simp; done) | (go_simp; rfl)); intro gb531 hg w20 hbox hb; have n0_ := Aside0.mk (below_step (by repeat (first | (with_reducible first | exact HB.out | apply below_alloc | apply pw_below_drewN | apply below_drew1) | exact HB.out)) hb); have n1_ := Aside0.mk (hbox); have n2_ := Aside0.mk ((by rw [hg]; exact (below_size (by repeat (first | (with_reducible first | exact HB.out | apply below_alloc | apply pw_below_drewN | apply below_drew1) | exact HB.out))) : w.heap.size ≤ gb531)); have n3_ := Aside0.mk ((by rw [hg]; exact (below_size (by repeat (first | (with_reducible first | exact HB.out | apply below_alloc | apply pw_below_drewN | apply below_drew1) | exact HB.out))) : w.heap.size ≤ gb531)); clear HB; have HB := n0_; have BK531 := n1_; have GW531 := n2_; have GE531 := n3_; clear n0_ n1_ n2_ n3_; clear hb hbox hg; have hcz21_0 : w20.cell? ⟨gb531, 0, none⟩ = some (.string a0_0) := (blk_cell BK531.out 0).trans rfl; have hcz21_1 : w20.cell? ⟨gb531, 1, none⟩ = some (.string a0_1) := (blk_cell BK531.out 1).trans rfl; have hcz21_2 : w20.cell? ⟨gb531, 2, none⟩ = some (.string a0_2) := (blk_cell BK531.out 2).trans rfl; have hcz21_3 : w20.cell? ⟨gb531, 3, none⟩ = some (.string a0_3) := (blk_cell BK531.out 3).trans rfl; have hcz21_4 : w20.cell? ⟨gb531, 4, none⟩ = some (.string a0_4) := (blk_cell BK531.out 4).trans rfl; have hcz21_5 : w20.cell? ⟨gb531, 5, none⟩ = some (.string a0_5) := (blk_cell BK531.out 5).trans rfl; have hcz21_6 : w20.cell? ⟨gb531, 6, none⟩ = some (.string a0_6) := (blk_cell BK531.out 6).trans rfl; have hcz21_7 : w20.cell? ⟨gb531, 7, none⟩ = some (.string a0_7) := (blk_cell BK531.out 7).trans rfl; have hcz21_8 : w20.cell? ⟨gb531, 8, none⟩ = some (.string a0_8) := (blk_cell BK531.out 8).trans rfl; have hcz21_9 : w20.cell? ⟨gb531, 9, none⟩ = some (.string a0_9) := (blk_cell BK531.out 9).trans rfl; have hcz21_10 : w20.cell? ⟨gb531, 10, none⟩ = some (.string a0_10) := (blk_cell BK531.out 10).trans rfl; have hcz21_11 : w20.cell? ⟨gb531, 11, none⟩ = some (.int .i64 a0_11) := (blk_cell BK531.out 11).trans rfl; have hcz21_12 : w20.cell? ⟨gb531, 12, none⟩ = some (.string a0_12) := (blk_cell BK531.out 12).trans rfl; have hfz21_0 := blk_frozen BK531.out 0; have hfz21_1 := blk_frozen BK531.out 1; have hfz21_2 := blk_frozen BK531.out 2; have hfz21_3 := blk_frozen BK531.out 3; have hfz21_4 := blk_frozen BK531.out 4; have hfz21_5 := blk_frozen BK531.out 5; have hfz21_6 := blk_frozen BK531.out 6; have hfz21_7 := blk_frozen BK531.out 7; have hfz21_8 := blk_frozen BK531.out 8; have hfz21_9 := blk_frozen BK531.out 9; have hfz21_10 := blk_frozen BK531.out 10; have hfz21_11 := blk_frozen BK531.out 11; have hfz21_12 := blk_frozen BK531.out 12))
  go_ret
  exact ⟨by first | rfl | (simp [errW_none, errW_some] <;> rfl) | (simp [*, errW_none, errW_some] <;> rfl), by repeat (first | (with_reducible first | exact HB.out | apply below_alloc | apply pw_below_drewN | apply below_drew1 | refine below_set ?_ GE531.out) | exact HB.out)⟩

-- NOT PRINTED: function 15 (exequaturlaw20_GrantRedeems)

end Go.Proofs.YtpoblffgclmmlaaGreatDoor.Q
end
section
set_option linter.unusedVariables false
set_option linter.unusedSimpArgs false
namespace Go.Proofs.YtpoblffgclmmlaaGreatDoor.X
open Go.RowKit Go.Proofs.YtpoblffgclmmlaaGreatDoorW.PrintWords Go.Proofs.YtpoblffgclmmlaaGreatDoorW.PrintMore Go.Proofs.YtpoblffgclmmlaaGreatDoor.Q

theorem bits_xor_nat (k : IntKind) (j : Nat) (hj : j ≤ k.bits) (hk : ∀ n : Int, 0 ≤ n → n < 2 ^ j → k.wrap n = n) (a b : Nat) (ha : a < 2 ^ j) (hb : b < 2 ^ j) :
  Go.bits .xor k a b = ((a ^^^ b : Nat) : Int) := by
 have hp : 2 ^ j ≤ 2 ^ k.bits := Nat.pow_le_pow_right (by decide) hj
 have ha' : a % 2 ^ k.bits = a := Nat.mod_eq_of_lt (Nat.lt_of_lt_of_le ha hp)
 have hb' : b % 2 ^ k.bits = b := Nat.mod_eq_of_lt (Nat.lt_of_lt_of_le hb hp)
 have cast : ∀ n : Nat, n < 2 ^ j → ((n : Nat) : Int) < 2 ^ j := fun n h => by exact_mod_cast h
 simp only [Go.bits, BitVec.ofInt_natCast, BitVec.toNat_xor, BitVec.toNat_ofNat, ha', hb']
 exact hk _ (Int.natCast_nonneg _) (cast _ (Nat.xor_lt_two_pow ha hb))

def cmpL : List UInt8 → List UInt8 → Nat → Nat
 | [], _, m => m
 | x :: xs, [], m => cmpL xs [] (m ||| (x.toNat ^^^ 0))
 | x :: xs, y :: ys, m => cmpL xs ys (m ||| (x.toNat ^^^ y.toNat))
theorem xor_zero_iff (a b : Nat) : a ^^^ b = 0 ↔ a = b := by
 constructor
 ·
  intro h
  have : (a ^^^ b) ^^^ b = 0 ^^^ b := by rw [h]
  rwa [Nat.xor_assoc, Nat.xor_self, Nat.xor_zero, Nat.zero_xor] at this
 ·
  rintro rfl; exact Nat.xor_self _
theorem cmpL_zero : ∀ (xs ys : List UInt8) (m : Nat), xs.length = ys.length → (cmpL xs ys m = 0 ↔ m = 0 ∧ xs = ys)
 | [], [], m, _ => by simp [cmpL]
 | x :: xs, [], m, h => by simp at h
 | [], y :: ys, m, h => by simp at h
 | x :: xs, y :: ys, m, h => by
  rw [cmpL, cmpL_zero xs ys _ (by simpa using h), Nat.or_eq_zero_iff, xor_zero_iff, UInt8.toNat_inj]
  simp only [List.cons.injEq, and_assoc]
theorem cmpL_pos : ∀ (xs ys : List UInt8) (m : Nat), m ≠ 0 → cmpL xs ys m ≠ 0
 | [], ys, m, h => by cases ys <;> simpa [cmpL] using h
 | x :: xs, [], m, h => cmpL_pos xs [] _ (by rw [ne_eq, Nat.or_eq_zero_iff]; exact fun h' => h h'.1)
 | x :: xs, y :: ys, m, h => cmpL_pos xs ys _ (by rw [ne_eq, Nat.or_eq_zero_iff]; exact fun h' => h h'.1)

theorem i64w (n : Int) (h0 : 0 ≤ n) (h1 : n < 2 ^ 62) : IntKind.i64.wrap n = n := by rw [IntKind.wrap_i64]; omega
theorem u8w (n : Int) (h0 : 0 ≤ n) (h1 : n < 2 ^ 8) : IntKind.u8.wrap n = n := by rw [IntKind.wrap_u8]; omega

theorem equal_loop (a b : ByteArray) (ha : a.size ≤ 140737488351232) (hb : b.size ≤ 140737488351232) : ∀ (d i m : Nat), a.size = i + d → m < 2 ^ 62 →
  Ev (fun k => text_Equal.l0 k a b (m : Int) (a.size : Int) (i : Int)) (decide (cmpL (a.data.toList.drop i) (b.data.toList.drop i) m = 0)) := by
 intro d
 induction d with
 | zero =>
  intro i m hi hm
  refine Ev.step (fun k => by rw [text_Equal.l0]) ?_
  refine evNeg (by omega) (evNow ?_)
  rw [List.drop_of_length_le (by rw [data_length]; omega), cmpL, Bool.eq_iff_iff]
  simp
 | succ d ih =>
  intro i m hi hm
  match hl : a.data.toList.drop i with
  | [] => exact absurd (drop_nil_ge a i hl) (by omega)
  | x :: xs =>
   obtain ⟨h1, h2, h3⟩ := bt_get a i hl
   have hx := x.toNat_lt
   refine Ev.step (fun k => by rw [text_Equal.l0]) ?_
   refine evPos (by omega) ?_
   rw [w64 (x := (i : Int) + 1) (by omega) (by omega)]
   match hr : b.data.toList.drop i with
   | [] =>
    have hge := drop_nil_ge b i hr
    refine evNeg (by omega) (evPos (by omega) (evPos (by omega) ?_))
    have e0 : (0 : Int) = ((0 : Nat) : Int) := rfl
    have hx0 : x.toNat ^^^ 0 < 256 := by rw [Nat.xor_zero]; exact hx
    rw [h1, e0, bits_xor_nat .u8 8 (by decide) (fun n a b => u8w n a b) _ _ hx (by decide), w64 (by omega) (by omega),
     (bits_nat .i64 62 (by decide) (fun n a b => i64w n a b) _ _ hm (by omega)).2]
    rw [cmpL, ← h3, show ([] : List UInt8) = b.data.toList.drop (i + 1) from (List.drop_of_length_le (by rw [data_length]; omega)).symm]
    exact ih (i + 1) _ (by omega) (Nat.or_lt_two_pow hm (by omega))
   | y :: ys =>
    obtain ⟨g1, g2, g3⟩ := bt_get b i hr
    have hy := y.toNat_lt
    have hxy : x.toNat ^^^ y.toNat < 256 := Nat.xor_lt_two_pow (n := 8) hx hy
    refine evPos (by omega) (evPos (by omega) (evPos (by omega) ?_))
    rw [h1, g1, bits_xor_nat .u8 8 (by decide) (fun n a b => u8w n a b) _ _ hx hy, w64 (by omega) (by omega),
     (bits_nat .i64 62 (by decide) (fun n a b => i64w n a b) _ _ hm (by omega)).2]
    rw [cmpL, ← h3, ← g3]
    exact ih (i + 1) _ (by omega) (Nat.or_lt_two_pow hm (by omega))

theorem equal_is (a b : ByteArray) (ha : a.size ≤ 140737488351232) (hb : b.size ≤ 140737488351232) : Ev (fun k => text_Equal.f k a b) (decide (a = b)) := by
 have h := equal_loop a b ha hb a.size 0 (a.size ^^^ b.size) (by omega) (Nat.xor_lt_two_pow (n := 62) (by omega) (by omega))
 rw [← bits_xor_nat .i64 62 (by decide) (fun n a b => i64w n a b) a.size b.size (by omega) (by omega)] at h
 refine evEq h ?_
 rw [decide_eq_decide, List.drop_zero, List.drop_zero]
 by_cases hs : a.size = b.size
 ·
  rw [cmpL_zero _ _ _ (by rw [data_length, data_length]; exact hs), hs, Nat.xor_self]
  constructor
  ·
   rintro ⟨-, h⟩
   cases a; cases b; simp at h ⊢; exact Array.ext' (by simpa using h)
  ·
   rintro rfl; exact ⟨rfl, rfl⟩
 ·
  constructor
  ·
   intro h
   exact absurd h (cmpL_pos _ _ _ (by rw [ne_eq, xor_zero_iff]; exact hs))
  ·
   rintro rfl; exact absurd rfl hs

end Go.Proofs.YtpoblffgclmmlaaGreatDoor.X
end
section
set_option linter.unusedVariables false
set_option linter.unusedSimpArgs false
namespace Go.Proofs.YtpoblffgclmmlaaGreatDoor.X
open Go.RowKit Go.Proofs.YtpoblffgclmmlaaGreatDoorW.PrintWords Go.Proofs.YtpoblffgclmmlaaGreatDoorW.PrintMore Go.Proofs.YtpoblffgclmmlaaGreatDoor.Q

theorem sixty_is (n : Nat) (h : n < 64) : exequaturref01_sixty.f (n : Int) = some ((al n).toNat : Int) := by
 have := (by decide +kernel : ∀ n : Fin 64, exequaturref01_sixty.f (n.val : Int) = some ((al n.val).toNat : Int))
 exact this ⟨n, h⟩
theorem sixty_at {x : Int} {n : Nat} (hx : x = n) (h : n < 64) : exequaturref01_sixty.f x = some ((al n).toNat : Int) := by rw [hx]; exact sixty_is n h

/-- The four letters, and so many of them. -/
theorem b64_four (s : ByteArray) (out : List Int) (i n v : Nat) (hv : v < 16777216) (hn : n ≤ 3) (hi : i < 2000000000) (ho : out.length < 8000000000)
  (r : ByteArray) (h : Ev (fun k => exequaturref01_B64.l0 k s (out ++ (nb [al (v / 262144), al (v / 4096 % 64), al (v / 64 % 64), al (v % 64)]).take (n + 1)) ((i + 3 : Nat) : Int)) r) :
  Ev (fun k => exequaturref01_B64.l1 k s out (i : Int) (v : Int) (n : Int) 3) r := by
 refine Ev.step (fun k => by rw [exequaturref01_B64.l1]) ?_
 refine evNeg (by decide) ?_
 have t1 : wrap64 (Int.tdiv (v : Int) 262144) = ((v / 262144 : Nat) : Int) := by
  rw [Int.tdiv_eq_ediv_of_nonneg (by omega), w64 (by omega) (by omega)]; rfl
 have t2 : Int.tmod (wrap64 (Int.tdiv (v : Int) 4096)) 64 = ((v / 4096 % 64 : Nat) : Int) := by
  rw [Int.tdiv_eq_ediv_of_nonneg (by omega), w64 (by omega) (by omega), Int.tmod_eq_emod_of_nonneg (by omega)]; rfl
 have t3 : Int.tmod (wrap64 (Int.tdiv (v : Int) 64)) 64 = ((v / 64 % 64 : Nat) : Int) := by
  rw [Int.tdiv_eq_ediv_of_nonneg (by omega), w64 (by omega) (by omega), Int.tmod_eq_emod_of_nonneg (by omega)]; rfl
 have t4 : Int.tmod (v : Int) 64 = ((v % 64 : Nat) : Int) := by
  rw [Int.tmod_eq_emod_of_nonneg (by omega)]; rfl
 refine evVal (sixty_at t1 (by omega)) ?_
 refine evVal (sixty_at t2 (by omega)) ?_
 refine evVal (sixty_at t3 (by omega)) ?_
 refine evVal (sixty_at t4 (by omega)) ?_
 clear t1 t2 t3 t4
 refine evVal rfl ?_
 have tn : wrap64 ((n : Int) + 1) = ((n + 1 : Nat) : Int) := by rw [w64 (by omega) (by omega)]; rfl
 rw [tn]
 refine evPos (by omega) ?_
 refine evPos (by simp; omega) ?_
 refine evVal rfl ?_
 refine evPos (by simp [List.length_take]; omega) ?_
 rw [w64 (by omega) (by omega)]
 exact h

theorem b64_step (s : ByteArray) (out : List Int) (i j v n : Nat) (a : UInt8) (t : List UInt8) (v' n' j' : Nat) (ev : v' = v * 256 + a.toNat) (en : n' = n + 1) (ej : j' = j + 1) (hj : j < 3) (hi : i < 2000000000) (hv : v < 65536) (hn : n < 3) (h : s.data.toList.drop (i + j) = a :: t) (r : ByteArray)
  (hk : Ev (fun k => exequaturref01_B64.l1 k s out (i : Int) (v' : Int) (n' : Int) (j' : Int)) r) :
  Ev (fun k => exequaturref01_B64.l1 k s out (i : Int) (v : Int) (n : Int) (j : Int)) r := by
 subst ev en ej
 obtain ⟨h1, h2, h3⟩ := bt_get s (i + j) h
 have ha := a.toNat_lt
 refine Ev.step (fun k => by rw [exequaturref01_B64.l1]) ?_
 have e1 : wrap64 ((i : Int) + (j : Int)) = ((i + j : Nat) : Int) := by rw [w64 (by omega) (by omega)]; rfl
 rw [e1, h1, w64 (x := (v : Int) * 256) (by omega) (by omega), w64 (x := ((a.toNat : Nat) : Int)) (by omega) (by omega), w64 (by omega) (by omega), w64 (x := (n : Int) + 1) (by omega) (by omega), w64 (x := (j : Int) + 1) (by omega) (by omega)]
 exact evPos (by omega) (evPos (by omega) (evPos (by omega) hk))
theorem b64_void (s : ByteArray) (out : List Int) (i j v n : Nat) (v' j' : Nat) (ev : v' = v * 256) (ej : j' = j + 1) (hj : j < 3) (hi : i < 2000000000) (hv : v < 65536) (hn : n < 3) (h : s.size ≤ i + j) (r : ByteArray)
  (hk : Ev (fun k => exequaturref01_B64.l1 k s out (i : Int) (v' : Int) (n : Int) (j' : Int)) r) :
  Ev (fun k => exequaturref01_B64.l1 k s out (i : Int) (v : Int) (n : Int) (j : Int)) r := by
 subst ev ej
 refine Ev.step (fun k => by rw [exequaturref01_B64.l1]) ?_
 have e1 : wrap64 ((i : Int) + (j : Int)) = ((i + j : Nat) : Int) := by rw [w64 (by omega) (by omega)]; rfl
 rw [e1, w64 (x := (v : Int) * 256) (by omega) (by omega), w64 (x := (j : Int) + 1) (by omega) (by omega)]
 exact evPos (by omega) (evNeg (by omega) hk)

theorem b64_loop (s : ByteArray) (hs : s.size ≤ 1000000000) : ∀ (d i : Nat) (out : List Int), s.size ≤ i + d → i ≤ 1000000003 → out.length ≤ 4 * i →
  Ev (fun k => exequaturref01_B64.l0 k s out (i : Int)) (strOfNums (out ++ nb (enc (s.data.toList.drop i)))) := by
 intro d
 induction d using Nat.strongRecOn with
 | ind d ih =>
  intro i out hd hi ho
  refine Ev.step (fun k => by rw [exequaturref01_B64.l0]) ?_
  match hl : s.data.toList.drop i with
  | [] =>
   have := drop_nil_ge s i hl
   exact evNeg (by omega) (evNow (by simp [enc_nil, nb]))
  | [a] =>
   obtain ⟨-, h2, h3⟩ := bt_get s i hl
   have ha := a.toNat_lt
   have h4 := drop_nil_ge s (i + 1) h3
   refine evPos (by omega) ?_
   refine b64_step s out i 0 0 0 a [] (a.toNat) 1 1 (by omega) rfl rfl (by omega) (by omega) (by omega) (by omega) hl _ ?_
   refine b64_void s out i 1 (a.toNat) 1 (a.toNat * 256) 2 rfl rfl (by omega) (by omega) (by omega) (by omega) (by omega) _ ?_
   refine b64_void s out i 2 (a.toNat * 256) 1 (a.toNat * 256 * 256) 3 rfl rfl (by omega) (by omega) (by omega) (by omega) (by omega) _ ?_
   refine b64_four s out i 1 (a.toNat * 256 * 256) (by omega) (by omega) (by omega) (by omega) _ ?_
   refine evEq (ih (d - 1) (by omega) (i + 3) _ (by omega) (by omega) (by simp [nb]; omega)) ?_
   rw [List.drop_of_length_le (by rw [data_length]; omega), enc_nil, enc_one]
   congr 1
   simp only [nb, List.map_cons, List.map_nil, List.append_nil, List.take_succ_cons, List.take_zero, Nat.zero_mul, Nat.zero_add]
   rw [show a.toNat * 256 * 256 / 262144 = a.toNat / 4 % 64 from by omega, show a.toNat * 256 * 256 / 4096 % 64 = a.toNat % 4 * 16 % 64 from by omega]
  | [a, b] =>
   obtain ⟨-, h2, h3⟩ := bt_get s i hl
   obtain ⟨-, g2, g3⟩ := bt_get s (i + 1) h3
   have ha := a.toNat_lt
   have hb := b.toNat_lt
   have h4 := drop_nil_ge s (i + 1 + 1) g3
   refine evPos (by omega) ?_
   refine b64_step s out i 0 0 0 a [b] (a.toNat) 1 1 (by omega) rfl rfl (by omega) (by omega) (by omega) (by omega) hl _ ?_
   refine b64_step s out i 1 (a.toNat) 1 b [] (a.toNat * 256 + b.toNat) 2 2 rfl rfl rfl (by omega) (by omega) (by omega) (by omega) h3 _ ?_
   refine b64_void s out i 2 (a.toNat * 256 + b.toNat) 2 ((a.toNat * 256 + b.toNat) * 256) 3 rfl rfl (by omega) (by omega) (by omega) (by omega) (by omega) _ ?_
   refine b64_four s out i 2 ((a.toNat * 256 + b.toNat) * 256) (by omega) (by omega) (by omega) (by omega) _ ?_
   refine evEq (ih (d - 1) (by omega) (i + 3) _ (by omega) (by omega) (by simp [nb]; omega)) ?_
   rw [List.drop_of_length_le (by rw [data_length]; omega), enc_nil, enc_two]
   congr 1
   simp only [nb, List.map_cons, List.map_nil, List.append_nil, List.take_succ_cons, List.take_zero, Nat.zero_mul, Nat.zero_add]
   rw [show (a.toNat * 256 + b.toNat) * 256 / 262144 = a.toNat / 4 % 64 from by omega, show (a.toNat * 256 + b.toNat) * 256 / 4096 % 64 = (a.toNat % 4 * 256 + b.toNat) / 16 % 64 from by omega, show (a.toNat * 256 + b.toNat) * 256 / 64 % 64 = (a.toNat % 4 * 256 + b.toNat) % 16 * 4 % 64 from by omega]
  | a :: b :: c :: t =>
   obtain ⟨-, h2, h3⟩ := bt_get s i hl
   obtain ⟨-, g2, g3⟩ := bt_get s (i + 1) h3
   obtain ⟨-, f2, f3⟩ := bt_get s (i + 1 + 1) g3
   have ha := a.toNat_lt
   have hb := b.toNat_lt
   have hc := c.toNat_lt
   refine evPos (by omega) ?_
   refine b64_step s out i 0 0 0 a _ (a.toNat) 1 1 (by omega) rfl rfl (by omega) (by omega) (by omega) (by omega) hl _ ?_
   refine b64_step s out i 1 (a.toNat) 1 b _ (a.toNat * 256 + b.toNat) 2 2 rfl rfl rfl (by omega) (by omega) (by omega) (by omega) h3 _ ?_
   refine b64_step s out i 2 (a.toNat * 256 + b.toNat) 2 c _ ((a.toNat * 256 + b.toNat) * 256 + c.toNat) 3 3 rfl rfl rfl (by omega) (by omega) (by omega) (by omega) g3 _ ?_
   refine b64_four s out i 3 ((a.toNat * 256 + b.toNat) * 256 + c.toNat) (by omega) (by omega) (by omega) (by omega) _ ?_
   refine evEq (ih (d - 1) (by omega) (i + 3) _ (by omega) (by omega) (by simp [nb]; omega)) ?_
   rw [show i + 3 = i + 1 + 1 + 1 from rfl, f3, enc_three]
   congr 1
   simp only [nb, List.map_cons, List.map_nil, List.take_succ_cons, List.take_zero, Nat.zero_mul, Nat.zero_add, List.append_assoc, List.cons_append, List.nil_append]
   rw [show ((a.toNat * 256 + b.toNat) * 256 + c.toNat) / 262144 = a.toNat / 4 % 64 from by omega, show ((a.toNat * 256 + b.toNat) * 256 + c.toNat) / 4096 % 64 = (a.toNat % 4 * 256 + b.toNat) / 16 % 64 from by omega, show ((a.toNat * 256 + b.toNat) * 256 + c.toNat) / 64 % 64 = ((a.toNat % 4 * 256 + b.toNat) % 16 * 256 + c.toNat) / 64 % 64 from by omega, show ((a.toNat * 256 + b.toNat) * 256 + c.toNat) % 64 = ((a.toNat % 4 * 256 + b.toNat) % 16 * 256 + c.toNat) % 64 from by omega]

/-- The reference's Encode is enc. -/
theorem b64_is (s : ByteArray) (hs : s.size ≤ 1000000000) : Ev (fun k => exequaturref01_B64.f k s) ⟨(enc s.data.toList).toArray⟩ := by
 have h := b64_loop s hs s.size 0 [] (by omega) (by omega) (by simp)
 refine evEq h ?_
 simp only [List.nil_append, List.drop_zero]
 exact strOf_nb _

end Go.Proofs.YtpoblffgclmmlaaGreatDoor.X
end
section
set_option linter.unusedVariables false
set_option linter.unusedSimpArgs false
namespace Go.Proofs.YtpoblffgclmmlaaGreatDoor.X
open Go.RowKit Go.Proofs.YtpoblffgclmmlaaGreatDoorW.PrintWords Go.Proofs.YtpoblffgclmmlaaGreatDoorW.PrintMore Go.Proofs.YtpoblffgclmmlaaGreatDoor.Q

theorem rplain_is (c : UInt8) : exequaturref01_plain.f (c.toNat : Int) = some (plainB c) := by
 have h : ∀ n : Fin 256, exequaturref01_plain.f (n.val : Int) = some (plainB (UInt8.ofNat n.val)) := by decide +kernel
 have := h ⟨c.toNat, c.toNat_lt⟩
 simpa using this
theorem tplain_is (c : UInt8) : text_Plain.f (c.toNat : Int) = some (plainB c) := by
 have h : ∀ n : Fin 256, text_Plain.f (n.val : Int) = some (plainB (UInt8.ofNat n.val)) := by decide +kernel
 have := h ⟨c.toNat, c.toNat_lt⟩
 simpa using this

def encB (b : ByteArray) : ByteArray := ⟨(enc b.data.toList).toArray⟩
def chalS (v : ByteArray) : ByteArray := encB (sumS v.data.toList)
def rightS (c v : ByteArray) : Bool := decide (43 ≤ v.size ∧ v.size ≤ 128) && v.data.toList.all plainB && decide (chalS v = c)

theorem encB_size (b : ByteArray) (h : b.size ≤ 100) : (encB b).size ≤ 200 := by
 show (enc b.data.toList).toArray.size ≤ 200
 rw [List.size_toArray, enc_len, data_length]; omega
theorem chal_is (v : ByteArray) (h : v.size ≤ 1000000000) : pkce_Challenge.f v = some (chalS v) := by
 unfold pkce_Challenge.f hash_Sum.f text_Encode.f
 rw [if_pos h, Option.bind_some, if_pos (by rw [sumS_size]; omega), Option.bind_some]
 rfl
theorem chalS_size (v : ByteArray) : (chalS v).size ≤ 200 := encB_size _ (by rw [sumS_size]; omega)

theorem plain_loop (s : ByteArray) (hs : s.size ≤ 1000000000) : ∀ (l : List UInt8) (i : Nat), s.data.toList.drop i = l → i ≤ s.size →
  Ev (fun k => pkce_plain.l0 k s (s.size : Int) (i : Int)) (l.all plainB) := by
 intro l
 induction l with
 | nil =>
  intro i h hi
  have h2 := drop_nil_ge s i h
  refine Ev.step (fun k => by rw [pkce_plain.l0]) ?_
  exact evNeg (by omega) (evNow rfl)
 | cons c t ih =>
  intro i h hi
  obtain ⟨h1, h2, h3⟩ := bt_get s i h
  refine Ev.step (fun k => by rw [pkce_plain.l0]) ?_
  refine evPos (by omega) (evPos (by omega) (evPos (by omega) ?_))
  refine evVal (a := plainB c) (by rw [h1, tplain_is]) ?_
  by_cases hp : plainB c = true
  ·
   refine evPos hp ?_
   rw [w64 (by omega) (by omega)]
   have := ih (i + 1) h3 (by omega)
   rw [List.all_cons, hp, Bool.true_and]
   exact this
  ·
   refine evNeg hp (evNow ?_)
   rw [List.all_cons]; simp [hp]
theorem plain_is (s : ByteArray) (hs : s.size ≤ 1000000000) : Ev (fun k => pkce_plain.f k s) (s.data.toList.all plainB) :=
 plain_loop s hs _ 0 (List.drop_zero ..) (by omega)

theorem right_is (c v : ByteArray) (hc : c.size ≤ 1000000000) (hv : v.size ≤ 1000000000) : Ev (fun k => pkce_Right.f k c v) (rightS c v) := by
 unfold pkce_Right.f rightS
 by_cases h1 : 43 ≤ v.size
 ·
  refine evPos (by omega) ?_
  by_cases h2 : v.size ≤ 128
  ·
   refine evPos (by omega) ?_
   refine Ev.bind (plain_is v hv) ?_
   by_cases h3 : v.data.toList.all plainB = true
   ·
    refine evPos h3 (evVal (chal_is v hv) ?_)
    refine Ev.bind (equal_is (chalS v) c (by have := chalS_size v; omega) (by omega)) (evNow ?_)
    rw [h3]; simp [h1, h2]
   ·
    refine evNeg h3 (evNow ?_)
    simp only [Bool.not_eq_true] at h3
    rw [h3]; simp
  ·
   exact evNeg (by omega) (evNow (by simp [h1, h2]))
 ·
  exact evNeg (by omega) (evNow (by simp [h1]))

theorem rright_loop (c s : ByteArray) (hs : s.size ≤ 1000000000) : ∀ (l : List UInt8) (i : Nat), s.data.toList.drop i = l → i ≤ s.size →
  Ev (fun k => exequaturref01_Right.l0 k c s (i : Int)) (l.all plainB && (decide (43 ≤ s.size ∧ s.size ≤ 128) && decide (chalS s = c))) := by
 intro l
 induction l with
 | nil =>
  intro i h hi
  have h2 := drop_nil_ge s i h
  refine Ev.step (fun k => by rw [exequaturref01_Right.l0]) ?_
  refine evNeg (by omega) ?_
  by_cases h1 : 43 ≤ s.size
  ·
   refine evPos (by omega) ?_
   by_cases h2 : s.size ≤ 128
   ·
    refine evPos (by omega) ?_
    refine evVal (a := sumS s.data.toList) (by unfold exequaturref01_Sum.f; rw [if_pos hs]) ?_
    refine Ev.bind (b64_is _ (by rw [sumS_size]; omega)) (evNow ?_)
    simp only [h1, h2, and_self, decide_true, List.all_nil, Bool.true_and]
    rw [Bool.eq_iff_iff, beq_iff_eq, decide_eq_true_eq]
    constructor
    ·
     intro h; exact bytes_eq.2 (bytes_list.1 h).symm |>.symm ▸ rfl
    ·
     intro h; rw [← h]; rfl
   ·
    exact evNeg (by omega) (evNow (by simp [h1, h2]))
  ·
   exact evNeg (by omega) (evNow (by simp [h1]))
 | cons d t ih =>
  intro i h hi
  obtain ⟨h1, h2, h3⟩ := bt_get s i h
  refine Ev.step (fun k => by rw [exequaturref01_Right.l0]) ?_
  refine evPos (by omega) (evPos (by omega) ?_)
  refine evVal (a := plainB d) (by rw [h1, rplain_is]) ?_
  by_cases hp : plainB d = true
  ·
   refine evPos hp ?_
   rw [w64 (by omega) (by omega)]
   have := ih (i + 1) h3 (by omega)
   rw [List.all_cons, hp, Bool.true_and]
   exact this
  ·
   refine evNeg hp (evNow ?_)
   rw [List.all_cons]; simp [hp]
theorem rright_is (c v : ByteArray) (hv : v.size ≤ 1000000000) : Ev (fun k => exequaturref01_Right.f k c v) (rightS c v) := by
 refine evEq (rright_loop c v hv _ 0 (List.drop_zero ..) (by omega)) ?_
 unfold rightS
 cases v.data.toList.all plainB <;> simp

end Go.Proofs.YtpoblffgclmmlaaGreatDoor.X
end
