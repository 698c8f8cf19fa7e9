/- FrameCuts: of frames that are cut off just the whole ones are there. -/
import Derived.Test.YtkmnbnfkpccobaaDoorQC
import Derived.Test.YtkmnbnfkpccobaaDoorFrl
import Derived.Test.YtkmnbnfkpccobaaDoorRws
set_option linter.unusedVariables false
set_option linter.unusedSimpArgs false
namespace Go.Proofs.YtkmnbnfkpccobaaDoor.X
open Go.RowKit Go.Proofs.YtkmnbnfkpccobaaDoor.Q Go.Proofs.YtkmnbnfkpccobaaDoorW.PrintWords Go.Proofs.YtkmnbnfkpccobaaDoorW.PrintLast Go.Proofs.YtkmnbnfkpccobaaDoorW.PrintMore

theorem byt_wf2 {l : List Int} (h : ∀ x ∈ l, (Lit.int .u8 x).wf = true) : Byt l := fun x hx => by
  have := h x hx
  simp [Lit.wf, IntKind.min, IntKind.max, IntKind.signed, IntKind.bits] at this
  omega
/-- Where the frames end. -/
def endsL (l : List (List Int)) (n : Nat) : List Int := (List.range n).map fun i => ((fr (l.take (i + 1))).length : Int)
theorem endsL_length (l : List (List Int)) (n : Nat) : (endsL l n).length = n := by simp [endsL]
theorem endsL_succ (l : List (List Int)) (n : Nat) : endsL l (n + 1) = endsL l n ++ [((fr (l.take (n + 1))).length : Int)] := by simp [endsL, List.range_succ]
theorem endsL_get (l : List (List Int)) (n i : Nat) (h : i < n) : rd (endsL l n) (i : Int) = ((fr (l.take (i + 1))).length : Int) := by
  simp [rd, endsL, List.getD_eq_getElem?_getD, List.getElem?_map, List.getElem?_range h]
theorem cuts_last (l0 : List (List Int)) (hl0 : l0.length ≤ 30) (hs : ∀ r ∈ l0, r.length ≤ 1000) (k : Nat) (hk : k < (fr l0).length) : ∀ d n, l0.length = n + d → (fr (l0.take n)).length ≤ k →
    Ev (fun f => exequaturlaw11_FrameCuts.l1 f l0 (fr l0) (endsL l0 l0.length) (k : Int) (n : Int) ((fr (l0.take n)).length : Int)) true := by
  have hf := (fr_len l0 hs).2
  intro d
  induction d with
  | zero =>
    intro n hn h1
    rw [List.take_of_length_le (by omega)] at h1
    omega
  | succ d ih =>
    intro n hn h1
    have hlt : n < l0.length := by omega
    have hg := endsL_get l0 l0.length n hlt
    have hel := endsL_length l0 l0.length
    refine Ev.step (fun f => by rw [exequaturlaw11_FrameCuts.l1]) (evPos (by rw [hel]; omega) (evPos (by omega) ?_))
    rw [hg]
    by_cases c : (fr (l0.take (n + 1))).length ≤ k
    · refine evPos (by omega) ?_
      rw [w64 (by omega) (by omega)]
      exact ih (n + 1) (by omega) c
    · refine evNeg (by omega) (evPos (by omega) (evPos (by omega) ?_))
      rw [Int.toNat_natCast, Int.toNat_natCast]
      have hsp := splitL_cut l0 hs n k hlt h1 (by omega)
      have hc : (l0.take n).length ≤ 1000000000 := by rw [List.length_take]; omega
      refine evVal (a := (l0.take n, ((fr (l0.take n)).length : Int))) ?_ ?_
      · unfold frame_Split.f
        rw [if_pos (by rw [List.length_take]; omega), hsp]
      · refine evVal answers_is (evPos rfl (evPos (by omega) (Ev.bind (same_self _ hc) (evPos rfl (evNow ?_)))))
        exact beq_self_eq_true _
theorem cuts_loop (l0 : List (List Int)) (a1 : Int) (ha : 0 ≤ a1 ∧ a1 < 65536) (h0 : 0 < l0.length) (hl0 : l0.length ≤ 30) : ∀ d i, l0.length = i + d → (∀ r ∈ l0.take i, r.length ≤ 1000) →
    Ev (fun k => exequaturlaw11_FrameCuts.l0 k l0 a1 (fr (l0.take i)) (endsL l0 i) (i : Int)) true := by
  intro d
  induction d with
  | zero =>
    intro i hi hs
    have ht : l0.take i = l0 := List.take_of_length_le (by omega)
    rw [ht] at hs ⊢
    obtain rfl : i = l0.length := by omega
    have hf := fr_len l0 hs
    refine Ev.step (fun k => by rw [exequaturlaw11_FrameCuts.l0]) (evNeg (by omega) (evNeg (by omega) ?_))
    rw [w64 (by omega) (by omega)]
    obtain ⟨k, hk⟩ : ∃ k : Nat, a1.tmod ((fr l0).length : Int) = (k : Int) := ⟨(a1.tmod ((fr l0).length : Int)).toNat, by have := Int.tmod_nonneg ((fr l0).length : Int) ha.1; omega⟩
    have hlt : k < (fr l0).length := by
      have := Int.tmod_lt_of_pos a1 (show (0 : Int) < (fr l0).length by omega)
      omega
    rw [hk]
    have h := cuts_last l0 hl0 hs k hlt l0.length 0 (by omega) (by simp [fr])
    exact h
  | succ d ih =>
    intro i hi hs
    have hlt : i < l0.length := by omega
    have hrd : rd_L3 l0 (i : Int) = l0.getD i [] := by unfold rd_L3; rw [Int.toNat_natCast]
    refine Ev.step (fun k => by rw [exequaturlaw11_FrameCuts.l0]) (evPos (by omega) (evPos (by omega) ?_))
    rw [hrd]
    by_cases hbig : ((l0.getD i []).length : Int) > 1000
    · exact evPos hbig (evVal answers_is (evNow rfl))
    · have hf := (fr_len (l0.take i) hs).2
      have hti : (l0.take i).length = i := by rw [List.length_take]; omega
      have hel := endsL_length l0 i
      refine evNeg hbig (evVal (rframe_is _ (by omega)) (evPos (by rw [frame_len]; omega) (evVal (a := fr (l0.take (i + 1))) (by rw [fr_take l0 i hlt]) (evPos (by omega) ?_))))
      rw [w64 (by omega) (by omega), ← endsL_succ]
      refine ih (i + 1) (by omega) ?_
      rw [take_getD l0 i hlt]
      intro r hr
      rcases List.mem_append.1 hr with h | h
      · exact hs r h
      · rw [List.mem_singleton.1 h]; omega
theorem FrameCuts_pure (l0 : List (List Int)) (a1 : Int) (h0 : ∀ r ∈ l0, ∀ x ∈ r, (Lit.int .u8 x).wf = true) (h1 : (Lit.int .u16 a1).wf = true) : ∃ k, exequaturlaw11_FrameCuts.f k l0 a1 = some true := by
  refine Ev.rounds (g := fun k => exequaturlaw11_FrameCuts.f k l0 a1) ?_
  have ha : 0 ≤ a1 ∧ a1 < 65536 := by
    simp [Lit.wf, IntKind.min, IntKind.max, IntKind.signed, IntKind.bits] at h1; omega
  have hj : Ev (fun k => exequaturlaw11_FrameCuts.j0 k l0 a1 true) true := Ev.step (fun k => by rw [exequaturlaw11_FrameCuts.j0]) (evPos rfl (evVal answers_is (evNow rfl)))
  by_cases c0 : (l0.length : Int) = 0
  · exact evPos c0 hj
  refine evNeg c0 ?_
  by_cases c1 : (l0.length : Int) > 30
  · rw [decide_eq_true c1]; exact hj
  rw [decide_eq_false c1]
  have hL : Ev (fun k => exequaturlaw11_FrameCuts.l0 k l0 a1 [] [] 0) true := cuts_loop l0 a1 ha (by omega) (by omega) l0.length 0 (by omega) (by simp)
  exact Ev.step (fun k => by rw [exequaturlaw11_FrameCuts.j0]) (evNeg (by simp) hL)
theorem FrameCuts_walk (w : World) (a0 : Option Addr) (len0 cap0 : Nat) (w0 : ∃ l : List (List Int), len0 = l.length ∧ Kd.C (Kd.slice 5 (Kd.int .u8)) w a0 l.length l ∧ l.length ≤ cap0 ∧ ∀ r ∈ l, ∀ x ∈ r, (Lit.int .u8 x).wf = true)
    (a1 : Int) (w1 : (Lit.int .u16 a1).wf = true) (hGL : GL w) :
    Calls Tryd.prog 5 #[.slice a0 len0 cap0, .int .u16 a1] w fun e w' => e = .returned (.bool true) ∧ Below w.heap.size w w' := by
  obtain ⟨l0, rfl, hr0, hc0, hw0⟩ := w0
  obtain ⟨k, h⟩ := FrameCuts_pure l0 a1 hw0 w1
  refine (exequaturlaw11_FrameCuts.calls k _ _ l0 a1 true w hr0 hc0 h hGL).mono ?_
  rintro e w' ⟨rfl, hd⟩
  exact ⟨rfl, hd⟩
end Go.Proofs.YtkmnbnfkpccobaaDoor.X
