/- LinkResolves: the tied card: whatever the input the law answers true and leaves it alone, the listed tables being as the program's text lays them; conditions: as the row's cells say ('laid') (part 24 of 27). -/
import Derived.Test.YtpoblffgclmmlaaGreatDoorPkLR21
import Derived.Test.YtpoblffgclmmlaaGreatDoorPkLR22
section
set_option linter.unusedVariables false
set_option linter.unusedSimpArgs false
namespace Go.Proofs.YtpoblffgclmmlaaGreatDoor.X
open Go.RowKit Go.WideMaps Go.Maps Go.Proofs.YtpoblffgclmmlaaGreatDoorW.PrintWords Go.Proofs.YtpoblffgclmmlaaGreatDoorW.PrintLast Go.Proofs.YtpoblffgclmmlaaGreatDoorW.PrintMore Go.Proofs.YtpoblffgclmmlaaGreatDoor.Q

set_option maxHeartbeats 8000000 in
theorem LinkResolves_walk (w : World) (A : Option Addr) (c : Nat) (l : List S69) (hC : Kd.C k69 w A l.length l) (hc : l.length ≤ c) (hl : l.length ≤ 4000000000000) (hx : ∀ x ∈ l, x.f0.size ≤ 140737488351232 ∧ x.f1.size ≤ 140737488351232)
    (x0 x1 x2 x3 x4 : ByteArray) (op : Bool) (x6 sub : ByteArray) (h0 : x0.size ≤ 140737488351232) (h1 : sub.size ≤ 140737488351232) (hGL : GL w) (hGP : GP w) :
    Calls Tryz.prog 4 #[.slice A l.length c, .agg #[.string x0, .string x1, .string x2, .string x3, .string x4, .bool op, .string x6], .string sub] w fun e w' => e = .returned (.bool true) ∧ Below w.heap.size w w' := by
  have hB0 : Below w.heap.size w (w.alloc (.cells #[.string x0, .string x1, .string x2, .string x3, .string x4, .bool op, .string x6] 54)) := (Below.refl _ w).alloc (Nat.le_refl _) _
  have hz := heap_alloc_new w (.cells #[.string x0, .string x1, .string x2, .string x3, .string x4, .bool op, .string x6] 54)
  have hst := stored15_says _ A c l (Kd.C_below hC hB0) hc hl hx (hGL.below hB0)
  go_enter Tryz.func4, Tryz.ntmps4
  go_wp2_with fail
  refine hst.mono ?_
  clear hst
  generalize w.alloc (.cells #[.string x0, .string x1, .string x2, .string x3, .string x4, .bool op, .string x6] 54) = w0 at hB0 hz ⊢
  rintro e w1 ⟨hb1, hor⟩
  have hc0 := cell_later hb1 (blk_cell hz 0)
  have hc1 := cell_later hb1 (blk_cell hz 1)
  have hc2 := cell_later hb1 (blk_cell hz 2)
  have hc3 := cell_later hb1 (blk_cell hz 3)
  have hc4 := cell_later hb1 (blk_cell hz 4)
  have hc5 := cell_later hb1 (blk_cell hz 5)
  have hc6 := cell_later hb1 (blk_cell hz 6)
  have hB1 := below_then hB0 hB0.size hb1
  have hans := answers15_says w1 (hGL.below hB1) (hGP.below hB1)
  rcases hor with ⟨hsb, rfl⟩ | ⟨hsb, s, v, rfl, hS, hR⟩
  · clear hsb
    go_wp2_with fail
    refine hans.mono ?_
    rintro e w2 ⟨rfl, hb2⟩
    go_wp2_with fail
    go_ret
    exact ⟨rfl, below_then hB1 hB1.size hb2⟩
  · have hrl : (turnR [] l).length ≤ l.length := by have := turnR_len [] l List.Pairwise.nil; simpa using this
    have hsb2 := of_decide_eq_true hsb
    have hrl2 : (turnR [] l).length ≤ 200 := by omega
    have e1 : IntKind.i64.wrap ((x0.size : Int) + (sub.size : Int)) = (x0.size : Int) + (sub.size : Int) := IntWalk.i64_in _ (by omega)
    have E1 := Lib.hid e1
    clear hsb hsb2 hrl e1
    by_cases hbig : x0.size + sub.size ≤ 1000
    · have d1 : decide ((1000 : Int) < (x0.size : Int) + (sub.size : Int)) = false := decide_eq_false (by omega)
      obtain ⟨A1, c1, rfl, hca, hC1⟩ := hR.slice
      have hl1 := lres_says w0.heap.size s 3300000000200 (turnR [] l) x0 x1 x2 x3 x4 op x6 sub (by omega) w1 hS (by omega) (hGP.below hB1)
      have hl2 := fun w2 (hb : Below w1.heap.size w1 w2) => rres_says A1 c1 (turnR [] l) x0 x1 x2 x3 x4 op x6 sub (by omega) w2 (Kd.C_below hC1 hb) hca (by omega)
      have hlen : (resR (turnR [] l) x0 sub op).2.1.length ≤ 1 := by unfold resR; split <;> (try split) <;> (try split) <;> simp
      generalize resR (turnR [] l) x0 sub op = R at hl1 hl2 hlen
      obtain ⟨U, L, E⟩ := R
      simp only at hl1 hl2 hlen
      have Hlen := Lib.hid hlen
      clear hlen hrl2 hbig
      go_wp2_with fail
      refine hl1.mono ?_
      rintro e w2 ⟨v2, rfl, hr2, hb2⟩
      have hl2 := hl2 w2 hb2
      have hc0 := cell_later hb2 hc0
      have hc1 := cell_later hb2 hc1
      have hc2 := cell_later hb2 hc2
      have hc3 := cell_later hb2 hc3
      have hc4 := cell_later hb2 hc4
      have hc5 := cell_later hb2 hc5
      have hc6 := cell_later hb2 hc6
      have hB2 := below_then hB1 hB1.size hb2
      go_wp2_with fail
      refine hl2.mono ?_
      rintro e w3 ⟨v3, rfl, hr3, hb3⟩
      have hB3 := below_then hB2 hB2.size hb3
      have hans := answers15_says w3 (hGL.below hB3) (hGP.below hB3)
      obtain ⟨A2, c2, e2⟩ := Kd.R_slice hr2
      subst e2
      obtain ⟨A3, c3, e3⟩ := Kd.R_slice hr3
      subst e3
      have hd2 := Kd.R_reads' hr2
      have hd3 := Kd.R_reads' hr3
      go_wp2_with fail
      refine hans.mono ?_
      rintro e w4 ⟨rfl, hb4⟩
      have hsm := same15_self A2 A3 c2 c3 L w4 (Kd.C_below hd2.2.2 (below_then hb3 hb3.size hb4)) hd2.2.1 (Kd.C_below hd3.2.2 hb4) hd3.2.1 (by have := Hlen.out; omega)
      go_wp2_with fail
      refine hsm.mono ?_
      rintro e w5 ⟨rfl, hb5⟩
      go_wp2_with fail
      go_ret
      exact ⟨rfl, below_then (below_then hB3 hB3.size hb4) (below_then hB3 hB3.size hb4).size hb5⟩
    · have d1 : decide ((1000 : Int) < (x0.size : Int) + (sub.size : Int)) = true := decide_eq_true (by omega)
      go_wp2_with fail
      refine hans.mono ?_
      rintro e w2 ⟨rfl, hb2⟩
      go_wp2_with fail
      go_ret
      exact ⟨rfl, below_then hB1 hB1.size hb2⟩
theorem LinkResolves_in (W : World) (a : Option Addr) (len cap : Nat) (h : ChgsIn W a len cap) (v : Value) (hv : ConnIn v) (sub : ByteArray) (hsub : sub.size ≤ 140737488351232) (hGL : GL W) (hGP : GP W) :
    Calls Tryz.prog 4 #[.slice a len cap, v, .string sub] W fun e w' => e = .returned (.bool true) ∧ Below W.heap.size W w' := by
  obtain ⟨l, rfl, h1, h2, h3, h4⟩ := h
  obtain ⟨x0, x1, x2, x3, x4, x5, x6, rfl, b0, _⟩ := hv
  exact LinkResolves_walk W a cap l h1 h2 h3 h4 x0 x1 x2 x3 x4 x5 x6 sub b0 hsub hGL hGP
end Go.Proofs.YtpoblffgclmmlaaGreatDoor.X
end
