/- FrameBack: frames one behind the other are split again. -/
import Derived.Test.YtkmnbnfkpccobaaDoorQB
import Derived.Test.YtkmnbnfkpccobaaDoorFrl
import Derived.Test.YtkmnbnfkpccobaaDoorRws
set_option linter.unusedVariables false
set_option linter.unusedSimpArgs false
namespace Go.Proofs.YtkmnbnfkpccobaaDoor.X
open Go.RowKit Go.Proofs.YtkmnbnfkpccobaaDoor.Q Go.Proofs.YtkmnbnfkpccobaaDoorW.PrintWords Go.Proofs.YtkmnbnfkpccobaaDoorW.PrintLast Go.Proofs.YtkmnbnfkpccobaaDoorW.PrintMore

theorem byt_wf {l : List Int} (h : ∀ x ∈ l, (Lit.int .u8 x).wf = true) : Byt l := fun x hx => by
  have := h x hx
  simp [Lit.wf, IntKind.min, IntKind.max, IntKind.signed, IntKind.bits] at this
  omega
theorem back_last (l0 : List (List Int)) (l1 : List Int) (hb0 : ∀ r ∈ l0, Byt r) (hb1 : Byt l1) (hl0 : l0.length ≤ 50) (hl1 : l1.length ≤ 500) (hs : ∀ r ∈ l0, r.length ≤ 1000) :
    Ev (fun k => exequaturlaw11_FrameBack.j2 k l0 l1 (fr l0) false) true := by
  have hf := (fr_len l0 hs).2
  have hB : Byt (fr l0 ++ l1) := (byt_fr l0 hb0).append hb1
  have hBl : (fr l0 ++ l1).length ≤ 100000000 := by rw [List.length_append]; omega
  have hm := splitL_more l0 l1 hs
  have hc : (splitL (fr l0 ++ l1)).1.length ≤ 1000000000 := Nat.le_trans (split_count ((fr l0 ++ l1).length + 1) (fr l0 ++ l1) 0) (by omega)
  refine Ev.step (fun k => by rw [exequaturlaw11_FrameBack.j2]) (evNeg (by simp) ?_)
  refine evVal (a := []) rfl (evPos (by rw [List.length_nil]; omega) (evVal (a := fr l0) rfl (evPos (by omega) ?_)))
  refine evVal (a := ((splitL (fr l0 ++ l1)).1, ((splitL (fr l0 ++ l1)).2 : Int))) (if_pos hBl) ?_
  refine evVal (a := []) rfl (evPos (by rw [List.length_nil]; omega) (evVal (a := fr l0) rfl (evPos (by omega) ?_)))
  refine Ev.bind (rsplit_is (fr l0 ++ l1) hB hBl) (evVal answers_is (evPos rfl ?_))
  refine Ev.bind (same_self _ hc) (evPos rfl (evPos rfl (evNow ?_)))
  exact decide_eq_true (show ((splitL (fr l0 ++ l1)).1.length : Int) ≥ (l0.length : Int) by omega)
theorem back_loop (l0 : List (List Int)) (l1 : List Int) (hb0 : ∀ r ∈ l0, Byt r) (hb1 : Byt l1) (hl0 : l0.length ≤ 50) (hl1 : l1.length ≤ 500) : ∀ d i, l0.length = i + d → (∀ r ∈ l0.take i, r.length ≤ 1000) →
    Ev (fun k => exequaturlaw11_FrameBack.l0 k l0 l1 (fr (l0.take i)) (i : Int)) true := by
  intro d
  induction d with
  | zero =>
    intro i hi hs
    have ht : l0.take i = l0 := List.take_of_length_le (by omega)
    rw [ht] at hs ⊢
    have hf := (fr_len l0 hs).2
    refine Ev.step (fun k => by rw [exequaturlaw11_FrameBack.l0]) (evNeg (by omega) ?_)
    refine evVal (a := (l0, ((fr l0).length : Int))) ?_ ?_
    · unfold frame_Split.f
      rw [if_pos (by omega), splitL_all l0 hs]
    · refine Ev.bind (same_self l0 (by omega)) (evPos rfl ?_)
      have e : (((fr l0).length : Int) != ((fr l0).length : Int)) = false := bne_self_eq_false _
      show Ev (fun k => exequaturlaw11_FrameBack.j2 k l0 l1 (fr l0) (((fr l0).length : Int) != ((fr l0).length : Int))) true
      rw [e]
      exact back_last l0 l1 hb0 hb1 hl0 hl1 hs
  | succ d ih =>
    intro i hi hs
    have hlt : i < l0.length := by omega
    have hrd : rd_L3 l0 (i : Int) = l0.getD i [] := by unfold rd_L3; rw [Int.toNat_natCast]
    have hmem : l0.getD i [] ∈ l0 := by simp [List.getD_eq_getElem?_getD, List.getElem?_eq_getElem hlt]
    refine Ev.step (fun k => by rw [exequaturlaw11_FrameBack.l0]) (evPos (by omega) (evPos (by omega) ?_))
    rw [hrd]
    by_cases hbig : ((l0.getD i []).length : Int) > 1000
    · exact evPos hbig (evVal answers_is (evNow rfl))
    · have hf := (fr_len (l0.take i) hs).2
      have hti : (l0.take i).length = i := by rw [List.length_take]; omega
      refine evNeg hbig (evVal (a := frameL (l0.getD i [])) (if_pos (by omega)) (evVal (rframe_is _ (by omega)) (evPos rfl (evPos (by rw [frame_len]; omega) ?_))))
      rw [w64 (by omega) (by omega), ← fr_take l0 i hlt]
      refine ih (i + 1) (by omega) ?_
      rw [take_getD l0 i hlt]
      intro r hr
      rcases List.mem_append.1 hr with h | h
      · exact hs r h
      · rw [List.mem_singleton.1 h]; omega
theorem FrameBack_pure (l0 : List (List Int)) (l1 : List Int) (h0 : ∀ r ∈ l0, ∀ x ∈ r, (Lit.int .u8 x).wf = true) (h1 : ∀ x ∈ l1, (Lit.int .u8 x).wf = true) : ∃ k, exequaturlaw11_FrameBack.f k l0 l1 = some true := by
  refine Ev.rounds (g := fun k => exequaturlaw11_FrameBack.f k l0 l1) ?_
  have hj : Ev (fun k => exequaturlaw11_FrameBack.j0 k l0 l1 true) true := Ev.step (fun k => by rw [exequaturlaw11_FrameBack.j0]) (evPos rfl (evVal answers_is (evNow rfl)))
  by_cases c0 : (l0.length : Int) > 50
  · exact evPos c0 hj
  refine evNeg c0 ?_
  by_cases c1 : (l1.length : Int) > 500
  · rw [decide_eq_true c1]; exact hj
  rw [decide_eq_false c1]
  have hL : Ev (fun k => exequaturlaw11_FrameBack.l0 k l0 l1 [] 0) true := back_loop l0 l1 (fun r hr => byt_wf (h0 r hr)) (byt_wf h1) (by omega) (by omega) l0.length 0 (by omega) (by simp)
  exact Ev.step (fun k => by rw [exequaturlaw11_FrameBack.j0]) (evNeg (by simp) hL)
theorem FrameBack_walk (w : World) (a0 : Option Addr) (len0 cap0 : Nat) (w0 : ∃ l : List (List Int), len0 = l.length ∧ Kd.C (Kd.slice 5 (Kd.int .u8)) w a0 l.length l ∧ l.length ≤ cap0 ∧ ∀ r ∈ l, ∀ x ∈ r, (Lit.int .u8 x).wf = true)
    (a1 : Option Addr) (len1 cap1 : Nat) (z1 : List Int) (w1 : (a1 = none ∧ len1 = 0 ∧ cap1 = 0 ∧ z1 = []) ∨ ∃ x, a1 = some x ∧ len1 ≤ cap1 ∧ cap1 ≤ maxLen ∧ z1.length = cap1 ∧ (∀ i, i < z1.length → w.cell? (x.add i) = some (.int .u8 (z1.getD i 0))) ∧ ∀ n ∈ z1, (Lit.int .u8 n).wf = true) (hGL : GL w) :
    Calls Tryd.prog 3 #[.slice a0 len0 cap0, .slice a1 len1 cap1] w fun e w' => e = .returned (.bool true) ∧ Below w.heap.size w w' := by
  obtain ⟨l0, rfl, hr0, hc0, hw0⟩ := w0
  obtain ⟨l1, rfl, hr1, hm1, hw1, hc1⟩ := ReadsInt.ofRowC w1
  obtain ⟨k, h⟩ := FrameBack_pure l0 l1 hw0 hw1
  refine (exequaturlaw11_FrameBack.calls k _ _ l0 _ _ l1 true w hr0 hc0 (Kd.C_of_reads (d := (0 : Int)) (h1 := fun _ => rfl) hr1) hc1 h hGL).mono ?_
  rintro e w' ⟨rfl, hd⟩
  exact ⟨rfl, hd⟩
end Go.Proofs.YtkmnbnfkpccobaaDoor.X
