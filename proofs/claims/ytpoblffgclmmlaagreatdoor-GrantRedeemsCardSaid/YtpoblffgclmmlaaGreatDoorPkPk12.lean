/- A part of the proof of a card: what some functions of the program come to, each under the conditions that its theorem names. -/
import Derived.Test.YtpoblffgclmmlaaGreatDoorProg
import Derived.Below
import Derived.Deep.Draws
import Derived.Deep.AppendLies
import Derived.Maps.AppendAt
import Derived.OwnWalk
import Derived.Laws.BytesArg
import Derived.Laws.MakeOwn
import Derived.Laws.OwnMore
import Derived.Deep.OwnRows
import Derived.Tactics
import Derived.Lib.ConvBytes
import Derived.Laws.Slices
import Derived.WalkKit
import Derived.KernelRfl
import Derived.RowKit3
import Derived.Deep.LoopGhost
import Derived.Deep.QuietTactic
import Derived.BigQuiet
import Derived.WideLaws
import Derived.Deep.DeepCutAuto
import Derived.Deep.CutBlock
import Derived.Deep.RegionHeld3
import Derived.Laws.Rows
import Derived.Lib.AppendStr
import Derived.ArgAppend
import Derived.Laws.IdiomCopy
import Derived.OrdersHeld
import Derived.Laws.BitsLemmas
import Derived.RowKit
import Derived.Lib.Hide
import Derived.Lib.SliceRun
import Derived.Test.YtpoblffgclmmlaaGreatDoorPkPk0
import Derived.Test.YtpoblffgclmmlaaGreatDoorPkPk1
import Derived.Test.YtpoblffgclmmlaaGreatDoorPkPk2
import Derived.Test.YtpoblffgclmmlaaGreatDoorPkPk3
import Derived.Test.YtpoblffgclmmlaaGreatDoorPkPk4
import Derived.Test.YtpoblffgclmmlaaGreatDoorPkPk6
import Derived.Test.YtpoblffgclmmlaaGreatDoorPkPk7
import Derived.Test.YtpoblffgclmmlaaGreatDoorPkPk8
import Derived.Test.YtpoblffgclmmlaaGreatDoorPkPk9
import Derived.Test.YtpoblffgclmmlaaGreatDoorPkPk10
import Derived.Test.YtpoblffgclmmlaaGreatDoorPkPk11
section
namespace Go.Proofs.YtpoblffgclmmlaaGreatDoor.Q
open Go.RowKit Go.Proofs.YtpoblffgclmmlaaGreatDoorW.PrintWords Go.Proofs.YtpoblffgclmmlaaGreatDoorW.PrintLast Go.Proofs.YtpoblffgclmmlaaGreatDoorW.PrintMore
attribute [local go_sem] max2_int min2_int max_two min_two max_three min_three max_four min_four   -- for this text's walks alone
open Go.Proofs.YtpoblffgclmmlaaGreatDoor.X
set_option linter.unusedVariables false
set_option linter.unusedSimpArgs false



def errW : Option Int → Value
 | none => .nilIface
 | some c => .iface 0 (.int .i64 c)
theorem errW_none : errW none = .nilIface := rfl
theorem errW_some (c : Int) : errW (some c) = .iface 0 (.int .i64 c) := rfl

theorem info5 : (Tryz.prog.info? 5).map (fun i => (i.zero, i.size, i.bytes)) = some (some (.int .u8 0), 1, 1) := by kernel_rfl
theorem info9 : (Tryz.prog.info? 9).map (fun i => (i.zero, i.size, i.bytes)) = some (some (.string ⟨#[]⟩), 1, 16) := by kernel_rfl
def rd_L3 (xs : List (List Int)) (i : Int) : (List Int) := xs.getD i.toNat ([] : List Int)
theorem at_L3 {w : World} {A : Option Addr} {n : Nat} {xs : List (List Int)} (h : Kd.C (Kd.slice 5 (Kd.int .u8)) w A n xs) (i : Int) (h0 : 0 ≤ i) (h1 : i < n) : ∃ ad A0 c0, A = some ad ∧ w.cell? (ad.add i.toNat) = some (.slice A0 (rd_L3 xs i).length c0) ∧ (rd_L3 xs i).length ≤ c0 ∧ (Kd.int .u8).C w A0 (rd_L3 xs i).length (rd_L3 xs i) := by
 obtain ⟨ad, c, e, _, hK, hc0⟩ := Kd.C_get h ([] : List Int) i h0 h1
 have hc : ∀ j u, c[j]? = some u → w.cell? (ad.add (i.toNat * 1 + j)) = some u := hc0
 obtain ⟨A0, c0, rfl, l0, g0⟩ := hK
 exact ⟨ad, A0, c0, e, by have hq := hc 0 _ rfl; rwa [Nat.mul_one, Nat.add_zero] at hq, l0, g0⟩

structure S69 where
 f0 : ByteArray
 f1 : ByteArray
 f2 : Bool
def z69 : S69 := ⟨(⟨#[]⟩ : ByteArray), (⟨#[]⟩ : ByteArray), false⟩
def k69 : Kd S69 := Kd.iso (Kd.pair Kd.string (Kd.pair Kd.string Kd.bool)) (fun x : S69 => (x.f0, x.f1, x.f2))
theorem k69_open {w : World} {x : S69} {cs : List Value} (h : k69.K w x cs) : cs = [.string x.f0, .string x.f1, .bool x.f2] := by
 obtain ⟨_, _, rfl, rfl, ⟨_, _, rfl, rfl, rfl⟩⟩ := h
 exact rfl
theorem k69_openM {w : World} {base : Nat} {ok : Nat → Prop} {x : S69} {cs : List Value} (h : k69.M w base ok x cs) : cs = [.string x.f0, .string x.f1, .bool x.f2] := by
 obtain ⟨_, _, rfl, rfl, ⟨_, _, rfl, rfl, rfl⟩⟩ := h
 exact rfl
theorem k69_mkM (w : World) (base : Nat) (ok : Nat → Prop) (x : S69)  : k69.M w base ok x [.string x.f0, .string x.f1, .bool x.f2] := ⟨[.string x.f0], [.string x.f1, .bool x.f2], rfl, rfl, ⟨[.string x.f1], [.bool x.f2], rfl, rfl, rfl⟩⟩
def rd_T69 (xs : List S69) (i : Int) : S69 := xs.getD i.toNat z69
theorem at_T69 {w : World} {A : Option Addr} {n : Nat} {xs : List S69} (h : Kd.C k69 w A n xs) (i : Int) (h0 : 0 ≤ i) (h1 : i < n) : ∃ ad , A = some ad ∧ w.cell? (ad.add (i.toNat * 3)) = some (.string (rd_T69 xs i).f0) ∧ w.cell? ⟨(ad.add (i.toNat * 3)).block, (ad.add (i.toNat * 3)).off + 1, none⟩ = some (.string (rd_T69 xs i).f1) ∧ w.cell? ⟨(ad.add (i.toNat * 3)).block, (ad.add (i.toNat * 3)).off + 2, none⟩ = some (.bool (rd_T69 xs i).f2) := by
 obtain ⟨ad, c, e, _, hK, hc0⟩ := Kd.C_get h z69 i h0 h1
 have hc : ∀ j u, c[j]? = some u → w.cell? (ad.add (i.toNat * 3 + j)) = some u := hc0
 obtain rfl := k69_open hK
 exact ⟨ad, e, hc 0 _ rfl, by rw [← add_field _ _ 1 (by omega)]; exact hc 1 _ rfl, by rw [← add_field _ _ 2 (by omega)]; exact hc 2 _ rfl⟩

structure S82 where
 f0 : ByteArray
 f1 : ByteArray
def z82 : S82 := ⟨(⟨#[]⟩ : ByteArray), (⟨#[]⟩ : ByteArray)⟩
def k82 : Kd S82 := Kd.iso (Kd.pair Kd.string Kd.string) (fun x : S82 => (x.f0, x.f1))
theorem k82_open {w : World} {x : S82} {cs : List Value} (h : k82.K w x cs) : cs = [.string x.f0, .string x.f1] := by
 obtain ⟨_, _, rfl, rfl, rfl⟩ := h
 exact rfl
theorem k82_openM {w : World} {base : Nat} {ok : Nat → Prop} {x : S82} {cs : List Value} (h : k82.M w base ok x cs) : cs = [.string x.f0, .string x.f1] := by
 obtain ⟨_, _, rfl, rfl, rfl⟩ := h
 exact rfl
theorem k82_mkM (w : World) (base : Nat) (ok : Nat → Prop) (x : S82)  : k82.M w base ok x [.string x.f0, .string x.f1] := ⟨[.string x.f0], [.string x.f1], rfl, rfl, rfl⟩
def rd_T82 (xs : List S82) (i : Int) : S82 := xs.getD i.toNat z82
theorem at_T82 {w : World} {A : Option Addr} {n : Nat} {xs : List S82} (h : Kd.C k82 w A n xs) (i : Int) (h0 : 0 ≤ i) (h1 : i < n) : ∃ ad , A = some ad ∧ w.cell? (ad.add (i.toNat * 2)) = some (.string (rd_T82 xs i).f0) ∧ w.cell? ⟨(ad.add (i.toNat * 2)).block, (ad.add (i.toNat * 2)).off + 1, none⟩ = some (.string (rd_T82 xs i).f1) := by
 obtain ⟨ad, c, e, _, hK, hc0⟩ := Kd.C_get h z82 i h0 h1
 have hc : ∀ j u, c[j]? = some u → w.cell? (ad.add (i.toNat * 2 + j)) = some u := hc0
 obtain rfl := k82_open hK
 exact ⟨ad, e, hc 0 _ rfl, by rw [← add_field _ _ 1 (by omega)]; exact hc 1 _ rfl⟩

end Go.Proofs.YtpoblffgclmmlaaGreatDoor.Q
end
section
namespace Go.Proofs.YtpoblffgclmmlaaGreatDoor.Q
open Go.RowKit Go.Proofs.YtpoblffgclmmlaaGreatDoorW.PrintWords Go.Proofs.YtpoblffgclmmlaaGreatDoorW.PrintLast Go.Proofs.YtpoblffgclmmlaaGreatDoorW.PrintMore
attribute [local go_sem] max2_int min2_int max_two min_two max_three min_three max_four min_four   -- for this text's walks alone
open Go.Proofs.YtpoblffgclmmlaaGreatDoor.X
set_option linter.unusedVariables false
set_option linter.unusedSimpArgs false

theorem eqA69 (d : Nat) (w : World) (x0 y0 : ByteArray) (x1 y1 : ByteArray) (x2 y2 : Bool) :
  (Op.equalIn (d + 2) 69 (.agg #[.string x0, .string x1, .bool x2]) (.agg #[.string y0, .string y1, .bool y2])).run Tryz.prog w = .ok (x0.toList == y0.toList && (x1.toList == y1.toList && (x2 == y2))) w := by
 refine eqA_of Tryz.underlying69 (by kernel_rfl) ?_
 refine eqf_cons (by rfl) (by go_simp; rfl) (by go_simp; rfl) (by go_simp) ?_
 refine eqf_cons (by rfl) (by go_simp; rfl) (by go_simp; rfl) (by go_simp) ?_
 exact eqf_last (by rfl) (by go_simp; rfl) (by go_simp; rfl) (by go_simp)
end Go.Proofs.YtpoblffgclmmlaaGreatDoor.Q
end
section
namespace Go.Proofs.YtpoblffgclmmlaaGreatDoor.Q
open Go.RowKit Go.Proofs.YtpoblffgclmmlaaGreatDoorW.PrintWords Go.Proofs.YtpoblffgclmmlaaGreatDoorW.PrintLast Go.Proofs.YtpoblffgclmmlaaGreatDoorW.PrintMore
attribute [local go_sem] max2_int min2_int max_two min_two max_three min_three max_four min_four   -- for this text's walks alone
open Go.Proofs.YtpoblffgclmmlaaGreatDoor.X
set_option linter.unusedVariables false
set_option linter.unusedSimpArgs false

attribute [local go_sem high] eqA69
section
attribute [local go_sem] IntKind.wrap_u8 IntKind.wrap_u32
end

theorem dd_len10 (k : Nat) : ∀ n, n < 10 ^ (k + 1) → (dd n).length ≤ k + 1 := by
 induction k with
 | zero => intro n h; rw [dd_small (by simpa using h)]; exact Nat.le_refl _
 | succ k ih =>
  intro n h
  by_cases h10 : n < 10
  ·
   rw [dd_small h10]; simp
  ·
   rw [dd_big h10, List.length_append]
   have := ih (n / 10) (by rw [Nat.pow_succ] at h; omega)
   simp only [List.length_singleton]; omega
theorem dd_len20 (n : Nat) (h : n < 18446744073709551616) : (dd n).length ≤ 20 := dd_len10 19 n (by omega)
end Go.Proofs.YtpoblffgclmmlaaGreatDoor.Q
end
section
namespace Go.Proofs.YtpoblffgclmmlaaGreatDoor.Q
open Go.RowKit Go.Proofs.YtpoblffgclmmlaaGreatDoorW.PrintWords Go.Proofs.YtpoblffgclmmlaaGreatDoorW.PrintLast Go.Proofs.YtpoblffgclmmlaaGreatDoorW.PrintMore
attribute [local go_sem] max2_int min2_int max_two min_two max_three min_three max_four min_four   -- for this text's walks alone
open Go.Proofs.YtpoblffgclmmlaaGreatDoor.X
set_option linter.unusedVariables false
set_option linter.unusedSimpArgs false

attribute [local go_sem high] eqA69
def grant_FamilyKey.f (a0 : ByteArray) : Option (ByteArray) := if 1 + a0.size ≤ 9223372036854775807 then (some ((⟨#[102]⟩ : ByteArray) ++ a0)) else (none)
set_option maxHeartbeats 8000000 in
set_option maxRecDepth 100000 in
theorem grant_FamilyKey.calls (a0 : ByteArray) (r : ByteArray) (w : World) (h : grant_FamilyKey.f a0 = some r) :
  Calls Tryz.prog 73 #[.string a0] w fun e w' => e = .returned (.string r) ∧ Drawn0 w w' := by
 have H : (if 1 + a0.size ≤ 9223372036854775807 then (some ((⟨#[102]⟩ : ByteArray) ++ a0)) else (none)) = some r := h
 clear h
 by_cases c2 : 1 + a0.size ≤ 9223372036854775807
 ·
  rw [if_pos c2] at H
  have c2b0 := eq_true c2
  have c2b1 : decide (1 + a0.size ≤ 9223372036854775807) = true := decide_eq_true c2
  try have c2b2 : (9223372036854775807 < 1 + a0.size) = False := eq_false (Nat.not_lt.2 c2)
  obtain rfl := Option.some.inj H
  go_enter Tryz.func73, Tryz.ntmps73
  go_wp2
  go_ret
  exact ⟨by first | rfl | (simp; done) | (simp [*]; done), by repeat (first | exact Drawn0.refl _ | apply Drawn0.step)⟩
 ·
  rw [if_neg c2] at H
  exact absurd H (by simp)

def row_flag.f (a0 : Bool) : Option (ByteArray) := if a0 = true then (some (⟨#[49]⟩ : ByteArray)) else (some (⟨#[48]⟩ : ByteArray))
set_option maxHeartbeats 8000000 in
set_option maxRecDepth 100000 in
theorem row_flag.calls (a0 : Bool) (r : ByteArray) (w : World) (h : row_flag.f a0 = some r) :
  Calls Tryz.prog 152 #[.bool a0] w fun e w' => e = .returned (.string r) ∧ Drawn0 w w' := by
 have H : (if a0 = true then (some (⟨#[49]⟩ : ByteArray)) else (some (⟨#[48]⟩ : ByteArray))) = some r := h
 clear h
 by_cases c2 : a0 = true
 ·
  subst c2
  have H1 : (some (⟨#[49]⟩ : ByteArray)) = some r := by rw [if_pos rfl] at H; exact H
  clear H
  have H := H1
  clear H1
  obtain rfl := Option.some.inj H
  go_enter Tryz.func152, Tryz.ntmps152
  go_wp2
  go_ret
  exact ⟨by first | rfl | (simp; done) | (simp [*]; done), by repeat (first | exact Drawn0.refl _ | apply Drawn0.step)⟩
 ·
  replace c2 := Bool.eq_false_iff.mpr c2
  subst c2
  have H1 : (some (⟨#[48]⟩ : ByteArray)) = some r := by rw [if_neg (show ¬ (false = true) by decide)] at H; exact H
  clear H
  have H := H1
  clear H1
  obtain rfl := Option.some.inj H
  go_enter Tryz.func152, Tryz.ntmps152
  go_wp2
  go_ret
  exact ⟨by first | rfl | (simp; done) | (simp [*]; done), by repeat (first | exact Drawn0.refl _ | apply Drawn0.step)⟩

-- NOT PRINTED: function 171 (slices_Grow_string_string)

-- NOT PRINTED: function 153 (slices_Concat_string_string)

-- NOT PRINTED: function 111 (row_Family)

-- NOT PRINTED: function 56 (grant_SaveFamily)

-- NOT PRINTED: function 115 (slices_Clone_string_string)

-- NOT PRINTED: function 118 (row_ReadFamily)

-- NOT PRINTED: function 67 (grant_Family)

-- NOT PRINTED: function 112 (grant_All)

def slices_Index_string_string.l0 : Nat → List ByteArray → ByteArray → Int → Int → Option (Int)
 | 0, _, _, _, _ => none
 | k + 1, x0, x1, x7, x8 => if x8 < x7 then (if 0 ≤ x8 then (if x8 < (x0.length : Int) then (if x1.toList = (rdOf ByteArray.empty x0 x8).toList then (some x8) else (slices_Index_string_string.l0 k x0 x1 x7 (wrap64 (x8 + 1)))) else (none)) else (none)) else (some (-1))
def slices_Index_string_string.f (k : Nat) (l0 : List ByteArray) (a1 : ByteArray) : Option (Int) := slices_Index_string_string.l0 k l0 a1 (l0.length : Int) 0
theorem slices_Index_string_string.mono_l : ∀ k, (∀ y0 y1 y2 y3, LeO (slices_Index_string_string.l0 k y0 y1 y2 y3) (slices_Index_string_string.l0 (k + 1) y0 y1 y2 y3))
 | 0 => fun _ _ _ _ r h => by simp [slices_Index_string_string.l0] at h
 | k + 1 => by
  have ih0 := slices_Index_string_string.mono_l k
  ·
   intro y0 y1 y2 y3
   unfold slices_Index_string_string.l0
   repeat' first
   | (with_reducible exact ih0 _ _ _ _)
   | (with_reducible exact LeO.refl _)
   | (with_reducible exact LeO.none _)
   | (with_reducible refine LeO.ite ?_ ?_)
   | (with_reducible refine LeO.bind ?_ (fun _ => ?_))
   | exact ih0 _ _ _ _
   | exact LeO.none _
   | refine LeO.ite ?_ ?_
   | refine LeO.bind ?_ (fun _ => ?_)
theorem slices_Index_string_string.mono : ∀ a0 a1 k, LeO (slices_Index_string_string.f k a0 a1) (slices_Index_string_string.f (k + 1) a0 a1) := by
 intro a0 a1 k
 have ih0 := slices_Index_string_string.mono_l k
 unfold slices_Index_string_string.f
 repeat' first
   | (with_reducible exact ih0 _ _ _ _)
   | (with_reducible exact LeO.refl _)
   | (with_reducible exact LeO.none _)
   | (with_reducible refine LeO.ite ?_ ?_)
   | (with_reducible refine LeO.bind ?_ (fun _ => ?_))
   | exact ih0 _ _ _ _
   | exact LeO.none _
   | refine LeO.ite ?_ ?_
   | refine LeO.bind ?_ (fun _ => ?_)
set_option maxHeartbeats 8000000 in
set_option maxRecDepth 100000 in
theorem slices_Index_string_string.calls (k : Nat) (A0 : Option Addr) (c0 : Nat) (l0 : List ByteArray) (a1 : ByteArray) (r : Int) (w : World) (hr0 : Kd.C Kd.string w A0 l0.length l0) (hc0 : l0.length ≤ c0) (h : slices_Index_string_string.f k l0 a1 = some r) :
  Calls Tryz.prog 154 #[.slice A0 l0.length c0, .string a1] w fun e w' => e = .returned (.int .i64 r) ∧ Drawn0 w w' := by
 have HR0 := Aside0.mk hr0
 have HC0 := Aside0.mk hc0
 clear hr0 hc0
 have H : (slices_Index_string_string.l0 k l0 a1 (l0.length : Int) 0) = some r := h
 clear h
 have H' := Aside0.mk H
 clear H
 go_enter Tryz.func154, Tryz.ntmps154
 go_wp2
 go_loopg [8] k (fun kq v8 w' => ∃ (x8_1 : Int), v8 = .int .i64 x8_1 ∧ Aside0 (slices_Index_string_string.l0 kq l0 a1 (l0.length : Int) x8_1 = some r) ∧ Aside0 (kq ≤ k) ∧ Drawn0 w w')
 case atStart => exact ⟨(0), (by first | rfl | (simp; done) | (simp [*]; done)), H', ⟨Nat.le_refl _⟩, by repeat (first | exact Drawn0.refl _ | apply Drawn0.step)⟩
 case round =>
  clear H'
  try clear c1
  try clear p2
  obtain ⟨x8_1, rfl, HA, HK1, ⟨m1, rfl⟩⟩ := hrel
  cases gk with
  | zero => exact absurd HA.out (by simp [slices_Index_string_string.l0])
  | succ k1 =>
   have H := HA.out
   clear HA
   simp only [slices_Index_string_string.l0] at H
   by_cases c3 : x8_1 < (l0.length : Int)
   ·
    rw [if_pos c3] at H
    have c3b0 : decide (x8_1 < (l0.length : Int)) = true := decide_eq_true c3
    clear c3
    by_cases c4 : 0 ≤ x8_1
    ·
     rw [if_pos c4] at H
     have c4b0 : decide (0 ≤ x8_1) = true := decide_eq_true c4
     clear c4
     by_cases c5 : x8_1 < (l0.length : Int)
     ·
      rw [if_pos c5] at H
      have c5b0 : decide (x8_1 < (l0.length : Int)) = true := decide_eq_true c5
      clear c5
      by_cases c6 : a1.toList = (rdOf ByteArray.empty l0 x8_1).toList
      ·
       rw [if_pos c6] at H
       have c6b0 : (a1.toList == (rdOf ByteArray.empty l0 x8_1).toList) = true := beq_iff_eq.mpr c6
       have c6b1 : (a1.toList != (rdOf ByteArray.empty l0 x8_1).toList) = false := bne_eq_false_iff_eq.mpr c6
       clear c6
       obtain rfl := Option.some.inj H
       have p412 : 0 ≤ (x8_1 : Int) := of_decide_eq_true (by first | (with_reducible assumption) | assumption)
       have q412 : x8_1 < (l0.length : Int) := of_decide_eq_true (by first | (with_reducible assumption) | assumption)
       obtain ⟨ad412, e412, hx412_0⟩ := Kd.at_string HR0.out x8_1 p412 q412
       cases e412
       replace p412 := eq_true p412
       replace q412 := eq_true q412
       go_wp2
       go_ret
       exact ⟨by first | rfl | (simp; done) | (simp [*]; done), by repeat (first | exact Drawn0.refl _ | apply Drawn0.step)⟩
      ·
       rw [if_neg c6] at H
       have c6b0 : (a1.toList == (rdOf ByteArray.empty l0 x8_1).toList) = false := beq_eq_false_iff_ne.mpr c6
       have c6b1 : (a1.toList != (rdOf ByteArray.empty l0 x8_1).toList) = true := bne_iff_ne.mpr c6
       have H' := Aside0.mk H
       clear H
       have p412 : 0 ≤ (x8_1 : Int) := of_decide_eq_true (by first | (with_reducible assumption) | assumption)
       have q412 : x8_1 < (l0.length : Int) := of_decide_eq_true (by first | (with_reducible assumption) | assumption)
       obtain ⟨ad412, e412, hx412_0⟩ := Kd.at_string HR0.out x8_1 p412 q412
       cases e412
       replace p412 := eq_true p412
       replace q412 := eq_true q412
       go_wp2
       go_roundg k1
       case measure => have := HK1.out; omega
       case rel => exact ⟨(wrap64 (x8_1 + 1)), (by first | rfl | (simp; done) | (simp [*]; done)), H', ⟨by have := HK1.out; omega⟩, by repeat (first | exact Drawn0.refl _ | apply Drawn0.step)⟩
     ·
      rw [if_neg c5] at H
      exact absurd H (by simp)
    ·
     rw [if_neg c4] at H
     exact absurd H (by simp)
   ·
    rw [if_neg c3] at H
    have c3b0 : decide (x8_1 < (l0.length : Int)) = false := decide_eq_false c3
    clear c3
    obtain rfl := Option.some.inj H
    go_wp2
    go_ret
    exact ⟨by first | rfl | (simp; done) | (simp [*]; done), by repeat (first | exact Drawn0.refl _ | apply Drawn0.step)⟩

def slices_Contains_string_string.f (k : Nat) (l0 : List ByteArray) (a1 : ByteArray) : Option (Bool) := (slices_Index_string_string.f k l0 a1).bind fun t413 => (some (decide (t413 ≥ 0)))
theorem slices_Contains_string_string.mono : ∀ a0 a1 k, LeO (slices_Contains_string_string.f k a0 a1) (slices_Contains_string_string.f (k + 1) a0 a1) := by
 intro a0 a1 k
 unfold slices_Contains_string_string.f
 repeat' first
   | (with_reducible exact slices_Index_string_string.mono _ _ _)
   | (with_reducible exact LeO.refl _)
   | (with_reducible exact LeO.none _)
   | (with_reducible refine LeO.ite ?_ ?_)
   | (with_reducible refine LeO.bind ?_ (fun _ => ?_))
   | exact slices_Index_string_string.mono _ _ _
   | exact LeO.none _
   | refine LeO.ite ?_ ?_
   | refine LeO.bind ?_ (fun _ => ?_)
set_option maxHeartbeats 8000000 in
set_option maxRecDepth 100000 in
theorem slices_Contains_string_string.calls (k : Nat) (A0 : Option Addr) (c0 : Nat) (l0 : List ByteArray) (a1 : ByteArray) (r : Bool) (w : World) (hr0 : Kd.C Kd.string w A0 l0.length l0) (hc0 : l0.length ≤ c0) (h : slices_Contains_string_string.f k l0 a1 = some r) :
  Calls Tryz.prog 113 #[.slice A0 l0.length c0, .string a1] w fun e w' => e = .returned (.bool r) ∧ Drawn0 w w' := by
 have HR0 := Aside0.mk hr0
 have HC0 := Aside0.mk hc0
 clear hr0 hc0
 have H : ((slices_Index_string_string.f k l0 a1).bind fun t413 => (some (decide (t413 ≥ 0)))) = some r := h
 clear h
 replace H := Option.bind_eq_some_iff.mp H
 obtain ⟨t413, A30, H⟩ := H
 replace H : (some (decide (t413 ≥ 0))) = some r := H
 have A3 := Aside0.mk A30
 clear A30
 obtain rfl := Option.some.inj H
 go_enter Tryz.func113, Tryz.ntmps113
 go_wp2_with (first | ((with_reducible refine gate_callee (f := 154) rfl ?_); refine goesL_ (some 7) rfl rfl Tryz.func154 (by kernel_rfl) rfl #[.slice A0 l0.length c0, .string a1] rfl (by (try simp only [List.map_toArray, List.map_cons, List.map_nil]); first | done | rfl | (simp only [List.length_drop, List.length_take]; rfl)) ?_; (with_reducible refine (slices_Index_string_string.calls k _ _ l0 a1 t413 _ ?side1 ?side2 A3.out).mono ?_); (case side1 => repeat (first | exact HR0.out | (with_reducible refine Kd.C_alloc ?_ _) | (with_reducible refine Kd.C_drewN ?_ _) | (with_reducible refine Kd.C_drew ?_))); (case side2 => exact HC0.out); rintro e w' ⟨rfl, ⟨nd, rfl⟩⟩; refine ⟨_, rfl, ?_⟩))
 go_ret
 exact ⟨by first | rfl | (simp; done) | (simp [*]; done), by repeat (first | exact Drawn0.refl _ | apply Drawn0.step)⟩

-- NOT PRINTED: function 57 (grant_Owner)

-- NOT PRINTED: function 58 (exequaturlaw20_answers)

-- NOT PRINTED: function 10 (exequaturlaw20_GrantOld)

end Go.Proofs.YtpoblffgclmmlaaGreatDoor.Q
end
section
namespace Go.Proofs.YtpoblffgclmmlaaGreatDoor.Q
open Go.RowKit Go.Proofs.YtpoblffgclmmlaaGreatDoorW.PrintWords Go.Proofs.YtpoblffgclmmlaaGreatDoorW.PrintLast Go.Proofs.YtpoblffgclmmlaaGreatDoorW.PrintMore
attribute [local go_sem] max2_int min2_int max_two min_two max_three min_three max_four min_four   -- for this text's walks alone
open Go.Proofs.YtpoblffgclmmlaaGreatDoor.X
set_option linter.unusedVariables false
set_option linter.unusedSimpArgs false

def be_Put.f (l0 : List Int) (a1 : Int) : Option (List Int) := (some (([(a1 / 16777216) % 256, (a1 / 65536) % 256, (a1 / 256) % 256, (a1) % 256] : List Int) : List Int)).bind fun y102 => (if l0.length + y102.length < 140737488355328 then (some (l0 ++ y102)) else (none))
set_option maxHeartbeats 8000000 in
set_option maxRecDepth 100000 in
theorem be_Put.calls (P0_ : Nat → Prop) (u9000_ : Value) (l0 : List Int) (a1 : Int) (r : List Int) (w0 w : World) (hB : Below w0.heap.size w0 w) (ho0 : Kd.R (Kd.int .u8) 5 w w0.heap.size P0_ u9000_ l0) (h : be_Put.f l0 a1 = some r) :
  Calls Tryz.prog 135 #[u9000_, .int .u32 a1] w fun e w' => ∃ v0_ : Value, e = .returned (v0_) ∧ Kd.R (Kd.int .u8) 5 w' w0.heap.size (fun k_ => (P0_ k_ ∨ w.heap.size ≤ k_)) v0_ r ∧ Below w0.heap.size w0 w' ∧ Kept w w' (fun k_ => P0_ k_) := by
 have HO0 := Aside0.mk (show Kd.R (Kd.int .u8) 5 w w0.heap.size (fun k_ => (P0_ k_ ∨ w.heap.size ≤ k_)) u9000_ l0 from Kd.R_mono ho0 (fun k_ hk => (.inl hk)))
 have HK := Aside0.mk (Kept.refl w (fun k_ => P0_ k_))
 have HW0 := Aside0.mk hB.size
 have HB := Aside0.mk hB
 clear hB
 have H : ((some (([(a1 / 16777216) % 256, (a1 / 65536) % 256, (a1 / 256) % 256, (a1) % 256] : List Int) : List Int)).bind fun y102 => (if l0.length + y102.length < 140737488355328 then (some (l0 ++ y102)) else (none))) = some r := h
 clear h
 obtain ⟨y102, hy102⟩ : ∃ y_ : List Int, y_ = (([(a1 / 16777216) % 256, (a1 / 65536) % 256, (a1 / 256) % 256, (a1) % 256] : List Int)) := ⟨_, rfl⟩
 replace H : (if l0.length + y102.length < 140737488355328 then (some (l0 ++ y102)) else (none)) = some r := by first | (rw [hy102]; with_reducible exact H) | (have H2_ := (Option.bind_some _ _).symm.trans H; rw [hy102]; with_reducible exact H2_) | (have H2_ := (Option.bind_some _ _).symm.trans H; with_reducible exact H2_) | with_reducible exact H | (rw [hy102]; exact H) | exact H
 have Ny102 := Aside0.mk hy102
 clear hy102
 by_cases c3 : l0.length + y102.length < 140737488355328
 ·
  rw [if_pos c3] at H
  have LMc3 := Aside0.mk c3
  clear c3
  obtain ⟨y105, hy105⟩ : ∃ y_ : List Int, y_ = (l0 ++ y102) := ⟨_, rfl⟩
  replace H : (some y105) = some r := by first | (rw [hy105]; with_reducible exact H) | (have H2_ := (Option.bind_some _ _).symm.trans H; rw [hy105]; with_reducible exact H2_) | (have H2_ := (Option.bind_some _ _).symm.trans H; with_reducible exact H2_) | with_reducible exact H | (rw [hy105]; exact H) | exact H
  have Ny105 := Aside0.mk hy105
  clear hy105
  obtain rfl := Option.some.inj H
  go_enter Tryz.func135, Tryz.ntmps135
  go_wp2_with (first | ((with_reducible refine gate_dst (N := 17) rfl ?_); refine Kd.R_lit (Kd.int .u8) _ 5 ?hg (N := 17) ?hd (xs := ([(a1 / 16777216) % 256, (a1 / 65536) % 256, (a1 / 256) % 256, (a1) % 256] : List Int)) (inner := [.int .u8 ((a1 / 16777216) % 256), .int .u8 ((a1 / 65536) % 256), .int .u8 ((a1 / 256) % 256), .int .u8 ((a1) % 256)]) (ok := fun _ => True) (okp := fun _ => True) ?hr ?hp (fun _ hk => hk) trivial (Below.refl _ _) (Nat.le_refl _) (by simp) ?_; (case hd => rfl); (case hg => rfl); (case hr => first | (go_simp; done) | (go_simp; rfl)); (case hp => exact (Reps.one (show Kd.M (Kd.int .u8) _ _ _ ((a1 / 16777216) % 256) [.int .u8 ((a1 / 16777216) % 256)] from rfl) (Reps.one (show Kd.M (Kd.int .u8) _ _ _ ((a1 / 65536) % 256) [.int .u8 ((a1 / 65536) % 256)] from rfl) (Reps.one (show Kd.M (Kd.int .u8) _ _ _ ((a1 / 256) % 256) [.int .u8 ((a1 / 256) % 256)] from rfl) (Reps.one (show Kd.M (Kd.int .u8) _ _ _ ((a1) % 256) [.int .u8 ((a1) % 256)] from rfl) (Reps.none _ _)))))); intro v103 w4 ho5 hb hg_ hnew_; clear hg_ hnew_; (first | rw [← Ny102.out] at ho5 | (simp only [Int.reduceToNat] at ho5; rw [← Ny102.out] at ho5)); have n0_ := Aside0.mk (Kd.R_elder' (by (with_reducible repeat (first | apply Kd.R_alloc | apply Kd.R_drewN | apply Kd.R_drew)); exact HO0.out) (Kd.R_base ho5) hb); have n1_ := Aside0.mk (Kd.R_lower (Kd.R_new' (Kd.R_newM (M := fun k_ => (P0_ k_ ∨ w.heap.size ≤ k_)) ho5 (by first | exact HK.out.1 | exact (show Kept w _ (fun k_ => P0_ k_) from by repeat (first | (with_reducible first | exact HK.out | apply Kept.alloc | apply Kept.drewN | apply Kept.drew) | exact HK.out)).1) (fun k_ h_ => .inr h_)) (Kd.R_lt (by (with_reducible repeat (first | apply Kd.R_alloc | apply Kd.R_drewN | apply Kd.R_drew)); exact HO0.out))) (below_size (by repeat (first | (with_reducible first | exact HB.out | apply below_alloc | apply pw_below_drewN | apply below_drew1) | exact HB.out)))); have n2_ := Aside0.mk (Kept.below (S := (fun k_ => P0_ k_)) (by repeat (first | (with_reducible first | exact HK.out | apply Kept.alloc | apply Kept.drewN | apply Kept.drew) | exact HK.out)) hb); have n3_ := Aside0.mk (below_step (by repeat (first | (with_reducible first | exact HB.out | apply below_alloc | apply pw_below_drewN | apply below_drew1) | exact HB.out)) hb); clear HO0; clear HK; clear HB; have HO0 := n0_; have HO104 := n1_; have HK := n2_; have HB := n3_; clear n0_ n1_ n2_ n3_; clear hb ho5; obtain ⟨Ao7, co7, eo7⟩ := Kd.R_slice HO104.out; subst eo7) | ((with_reducible refine gate_builtin (b := .append) (xs := #[.tmp 5, .tmp 17]) rfl ?_); at_builtin; refine Kd.R_append_rows (Kd.int .u8) (w0 := w0) w0.heap.size rfl (.tmp 5) (.tmp 17) 40 5 (.int .u8 0) 1 rfl Tryz.underlying40 info5 rfl (by decide) (by omega) u9000_ l0 y102 _ _ _ (fun k_ => (P0_ k_ ∨ w.heap.size ≤ k_) ∧ some k_ ≠ (.slice Ao7 y102.length co7 : Value).ownBlock) (fun _ => False) rfl rfl ?aO ?aR (fun _ _ h => h) (fun _ h => h.elim) ?aF ?aB ?aS ?aL ?_; (case aR => repeat (first | exact (Kd.R_reads' HO104.out).2.2 | (with_reducible refine Kd.C_alloc ?_ _) | (with_reducible refine Kd.C_drewN ?_ _) | (with_reducible refine Kd.C_drew ?_))); (case aB => exact (by repeat (first | (with_reducible first | exact HB.out | apply below_alloc | apply pw_below_drewN | apply below_drew1) | exact HB.out))); (case aF => exact (fun k_ hk => ⟨(.inr (Nat.le_trans (by first | exact HK.out.1 | exact (show Kept w _ (fun k_ => P0_ k_) from by repeat (first | (with_reducible first | exact HK.out | apply Kept.alloc | apply Kept.drewN | apply Kept.drew) | exact HK.out)).1) hk)), Kd.fresh' (Kd.R_lt (by (with_reducible repeat (first | apply Kd.R_alloc | apply Kd.R_drewN | apply Kd.R_drew)); exact HO104.out)) k_ hk⟩)); (case aO => exact (by (with_reducible repeat (first | apply Kd.R_alloc | apply Kd.R_drewN | apply Kd.R_drew)); exact HO0.out)); (case aS => exact (below_size (by repeat (first | (with_reducible first | exact HB.out | apply below_alloc | apply pw_below_drewN | apply below_drew1) | exact HB.out)))); (case aL => have := LMc3.out; omega); intro v106 w6 ho hb hg hat; rw [← Ny105.out] at ho; have n0_ := Aside0.mk (Kd.R_after (ok := (fun k_ => (P0_ k_ ∨ w.heap.size ≤ k_))) (by (with_reducible repeat (first | apply Kd.R_alloc | apply Kd.R_drewN | apply Kd.R_drew)); exact Kd.R_mono HO104.out (fun _ hk => ⟨hk.1.1, hk.2⟩)) hg hat); have n1_ := Aside0.mk (hb); have n2_ := Aside0.mk (Kept.of_grown (S := (fun k_ => P0_ k_)) hg (by repeat (first | (with_reducible first | exact HK.out | apply Kept.alloc | apply Kept.drewN | apply Kept.drew) | exact HK.out)) (fun k_ e_ => (HO0.out.1 k_ e_).1)); have n3_ := Aside0.mk (ho); clear HO104; clear HB; clear HK; clear HO0; have HO104 := n0_; have HB := n1_; have HK := n2_; have HO107 := n3_; clear n0_ n1_ n2_ n3_; clear ho hb hg hat))
  go_ret
  exact ⟨_, by first | rfl | (simp [errW_none, errW_some] <;> rfl) | (simp [*, errW_none, errW_some] <;> rfl), by (with_reducible repeat (first | apply Kd.R_alloc | apply Kd.R_drewN | apply Kd.R_drew)); exact Kd.R_mono HO107.out (fun _ hk => hk.1), by repeat (first | (with_reducible first | exact HB.out | apply below_alloc | apply pw_below_drewN | apply below_drew1) | exact HB.out), by repeat (first | (with_reducible first | exact HK.out | apply Kept.alloc | apply Kept.drewN | apply Kept.drew) | exact HK.out)⟩
 ·
  rw [if_neg c3] at H
  exact absurd H (by simp)

def be_Long.f (l0 : List Int) (a1 : Int) : Option (List Int) := (be_Put.f l0 ((a1 / 4294967296) % 4294967296)).bind fun t108 => ((be_Put.f t108 ((a1) % 4294967296)).bind fun t111 => (some t111))
set_option maxHeartbeats 8000000 in
set_option maxRecDepth 100000 in
theorem be_Long.calls (P0_ : Nat → Prop) (u9000_ : Value) (l0 : List Int) (a1 : Int) (r : List Int) (w0 w : World) (hB : Below w0.heap.size w0 w) (ho0 : Kd.R (Kd.int .u8) 5 w w0.heap.size P0_ u9000_ l0) (h : be_Long.f l0 a1 = some r) :
  Calls Tryz.prog 197 #[u9000_, .int .u64 a1] w fun e w' => ∃ v0_ : Value, e = .returned (v0_) ∧ Kd.R (Kd.int .u8) 5 w' w0.heap.size (fun k_ => (P0_ k_ ∨ w.heap.size ≤ k_)) v0_ r ∧ Below w0.heap.size w0 w' ∧ Kept w w' (fun k_ => P0_ k_) := by
 have HO0 := Aside0.mk (show Kd.R (Kd.int .u8) 5 w w0.heap.size (fun k_ => (P0_ k_ ∨ w.heap.size ≤ k_)) u9000_ l0 from Kd.R_mono ho0 (fun k_ hk => (.inl hk)))
 have HK := Aside0.mk (Kept.refl w (fun k_ => P0_ k_))
 have HW0 := Aside0.mk hB.size
 have HB := Aside0.mk hB
 clear hB
 have H : ((be_Put.f l0 ((a1 / 4294967296) % 4294967296)).bind fun t108 => ((be_Put.f t108 ((a1) % 4294967296)).bind fun t111 => (some t111))) = some r := h
 clear h
 replace H := Option.bind_eq_some_iff.mp H
 obtain ⟨t108, A30, H⟩ := H
 replace H : ((be_Put.f t108 ((a1) % 4294967296)).bind fun t111 => (some t111)) = some r := H
 have A3 := Aside0.mk A30
 clear A30
 replace H := Option.bind_eq_some_iff.mp H
 obtain ⟨t111, A40, H⟩ := H
 replace H : (some t111) = some r := H
 have A4 := Aside0.mk A40
 clear A40
 obtain rfl := Option.some.inj H
 obtain ⟨Ao5, co5, eo5⟩ := Kd.R_slice HO0.out
 subst eo5
 go_enter Tryz.func197, Tryz.ntmps197
 go_wp2_with (first | ((with_reducible refine gate_callee (f := 135) rfl ?_); refine goesL_ (some 9) rfl rfl Tryz.func135 (by kernel_rfl) rfl #[.slice Ao5 l0.length co5, .int .u32 ((a1 / 4294967296) % 4294967296)] rfl (by (try simp only [List.map_toArray, List.map_cons, List.map_nil]); first | done | rfl | (simp only [List.length_drop, List.length_take]; rfl)) ?_; (with_reducible refine (be_Put.calls (fun k_ => some k_ = (.slice Ao5 l0.length co5 : Value).ownBlock) (.slice Ao5 l0.length co5) l0 ((a1 / 4294967296) % 4294967296) t108 w0 _ ?side1 ?side2 A3.out).mono ?_); (case side1 => repeat (first | (with_reducible first | exact HB.out | apply below_alloc | apply pw_below_drewN | apply below_drew1) | exact HB.out)); (case side2 => exact Kd.R_tight rfl HO0.out); rintro e w6 ⟨v109, rfl, ho0, hb, hkp⟩; refine ⟨_, rfl, ?_⟩; have n0_ := Aside0.mk (Kd.R_mono (ok' := fun k_ => (P0_ k_ ∨ w.heap.size ≤ k_)) ho0 (fun k_ hk_ => Or.elim hk_ (fun hs_ => (HO0.out.1 k_ (hs_).symm)) (fun hn_ => (.inr (Nat.le_trans (by first | exact HK.out.1 | exact (show Kept w _ (fun k_ => P0_ k_) from by repeat (first | (with_reducible first | exact HK.out | apply Kept.alloc | apply Kept.drewN | apply Kept.drew) | exact HK.out)).1) hn_))))); have n1_ := Aside0.mk (Kept.then_ (S := (fun k_ => P0_ k_)) (by repeat (first | (with_reducible first | exact HK.out | apply Kept.alloc | apply Kept.drewN | apply Kept.drew) | exact HK.out)) hkp (fun k_ hs_ => (fun e_ => (HO0.out.1 k_ e_.symm)) hs_)); have n2_ := Aside0.mk (hb); clear HK; clear HB; clear HO0; have HO110 := n0_; have HK := n1_; have HB := n2_; clear n0_ n1_ n2_; (try clear hb); (try clear hkp); (try clear ho0); obtain ⟨Ao7, co7, eo7⟩ := Kd.R_slice HO110.out; subst eo7) | ((with_reducible refine gate_callee (f := 135) rfl ?_); refine goesL_ (some 12) rfl rfl Tryz.func135 (by kernel_rfl) rfl #[.slice Ao7 t108.length co7, .int .u32 ((a1) % 4294967296)] rfl (by (try simp only [List.map_toArray, List.map_cons, List.map_nil]); first | done | rfl | (simp only [List.length_drop, List.length_take]; rfl)) ?_; (with_reducible refine (be_Put.calls (fun k_ => some k_ = (.slice Ao7 t108.length co7 : Value).ownBlock) (.slice Ao7 t108.length co7) t108 ((a1) % 4294967296) t111 w0 _ ?side1 ?side2 A4.out).mono ?_); (case side1 => repeat (first | (with_reducible first | exact HB.out | apply below_alloc | apply pw_below_drewN | apply below_drew1) | exact HB.out)); (case side2 => exact Kd.R_tight rfl HO110.out); rintro e w8 ⟨v112, rfl, ho0, hb, hkp⟩; refine ⟨_, rfl, ?_⟩; have n0_ := Aside0.mk (Kd.R_mono (ok' := fun k_ => (P0_ k_ ∨ w.heap.size ≤ k_)) ho0 (fun k_ hk_ => Or.elim hk_ (fun hs_ => (HO110.out.1 k_ (hs_).symm)) (fun hn_ => (.inr (Nat.le_trans (by first | exact HK.out.1 | exact (show Kept w _ (fun k_ => P0_ k_) from by repeat (first | (with_reducible first | exact HK.out | apply Kept.alloc | apply Kept.drewN | apply Kept.drew) | exact HK.out)).1) hn_))))); have n1_ := Aside0.mk (Kept.then_ (S := (fun k_ => P0_ k_)) (by repeat (first | (with_reducible first | exact HK.out | apply Kept.alloc | apply Kept.drewN | apply Kept.drew) | exact HK.out)) hkp (fun k_ hs_ => (fun e_ => (HO110.out.1 k_ e_.symm)) hs_)); have n2_ := Aside0.mk (hb); clear HK; clear HB; clear HO110; have HO113 := n0_; have HK := n1_; have HB := n2_; clear n0_ n1_ n2_; (try clear hb); (try clear hkp); (try clear ho0)))
 go_ret
 exact ⟨_, by first | rfl | (simp [errW_none, errW_some] <;> rfl) | (simp [*, errW_none, errW_some] <;> rfl), by (with_reducible repeat (first | apply Kd.R_alloc | apply Kd.R_drewN | apply Kd.R_drew)); exact HO113.out, by repeat (first | (with_reducible first | exact HB.out | apply below_alloc | apply pw_below_drewN | apply below_drew1) | exact HB.out), by repeat (first | (with_reducible first | exact HK.out | apply Kept.alloc | apply Kept.drewN | apply Kept.drew) | exact HK.out)⟩

-- NOT PRINTED: function 151 (stringslite_HasPrefix)

-- NOT PRINTED: function 109 (strings_HasPrefix)

-- NOT PRINTED: function 178 (abi_NoEscape)

-- NOT PRINTED: function 164 (strings_Builder_copyCheck)

-- NOT PRINTED: function 142 (strings_Builder_WriteString)

-- NOT PRINTED: function 144 (strings_Builder_String)

-- NOT PRINTED: function 231 (bits_Mul32)

-- NOT PRINTED: function 232 (bits_Mul64)

-- NOT PRINTED: function 218 (bits_Mul)

-- NOT PRINTED: function 241 (bytealg_MakeNoZero)

-- NOT PRINTED: function 233 (strings_Builder_grow)

-- NOT PRINTED: function 219 (strings_Builder_Grow)

-- NOT PRINTED: function 220 (strings_Builder_Len)

def strings_Repeat.f (a0 : ByteArray) (a1 : Int) : Option (ByteArray) := if 0 ≤ a1 ∧ a1 ≤ 9223372036854775807 ∧ a0.size * a1.toNat ≤ 140737488355328 then some ⟨(Lib.repeatL a0.data.toList a1.toNat).toArray⟩ else none
theorem strings_Repeat.calls (a0 : ByteArray) (a1 : Int) (r : ByteArray) (w : World) (h : strings_Repeat.f a0 a1 = some r) :
  Calls Tryz.prog 198 #[.string a0, .int .i64 a1] w fun e w' => e = .returned (.string r) ∧ Below w.heap.size w w' := by
 unfold strings_Repeat.f at h
 split at h
 case isTrue hs =>
  obtain rfl := Option.some.inj h
  have h1 : ((a1.toNat : Nat) : Int) = a1 := Int.toNat_of_nonneg hs.1
  have := Tryz.strings_Repeat a0 a1.toNat w (by omega) hs.2.2
  rw [h1] at this
  exact this
 case isFalse hs => exact absurd h (by simp)

def hash_padded.f (a0 : ByteArray) : Option (ByteArray) := (be_Long.f ([] : List Int) (IntKind.u64.wrap (8 * (a0.size : Int)))).bind fun t114 => (if a0.size + 1 ≤ 9223372036854775807 then ((strings_Repeat.f (⟨#[0]⟩ : ByteArray) ((183 - (a0.size : Int)) % 64)).bind fun t117 => (if (a0.size + 1) + t117.size ≤ 9223372036854775807 then (if (a0.size + 1 + t117.size) + (strOfNums t114).size ≤ 9223372036854775807 then (some (((a0 ++ (⟨#[128]⟩ : ByteArray)) ++ t117) ++ (strOfNums t114))) else (none)) else (none))) else (none))
def hash_padded.T3 : Bool × List (List Nat × List Nat) := (true, [([], []), ([0], [0]), ([], []), ([2], [2]), ([1, 3], [1, 3]), ([], []), ([5], [5]), ([4, 6], [4, 6]), ([7, 3, 0, 1, 2, 3, 4, 5, 6, 7], [7])])
def hash_padded.B3 : List Nat := [0, 1, 0, 4, 15, 0, 32, 127, 255]
theorem hash_padded.tab3 : rtab .any (opsOf Tryz.f176 3) = hash_padded.T3 := by kernel_rfl
theorem hash_padded.bits3 : waitsOk hash_padded.T3.2 hash_padded.B3 = true := by kernel_rfl
set_option maxHeartbeats 8000000 in
set_option maxRecDepth 100000 in
theorem hash_padded.calls (a0 : ByteArray) (r : ByteArray) (w : World) (h : hash_padded.f a0 = some r) :
  Calls Tryz.prog 176 #[.string a0] w fun e w' => e = .returned (.string r) ∧ Below w.heap.size w w' := by
 have HB := Aside0.mk (Below.refl w.heap.size w)
 have H : ((be_Long.f ([] : List Int) (IntKind.u64.wrap (8 * (a0.size : Int)))).bind fun t114 => (if a0.size + 1 ≤ 9223372036854775807 then ((strings_Repeat.f (⟨#[0]⟩ : ByteArray) ((183 - (a0.size : Int)) % 64)).bind fun t117 => (if (a0.size + 1) + t117.size ≤ 9223372036854775807 then (if (a0.size + 1 + t117.size) + (strOfNums t114).size ≤ 9223372036854775807 then (some (((a0 ++ (⟨#[128]⟩ : ByteArray)) ++ t117) ++ (strOfNums t114))) else (none)) else (none))) else (none))) = some r := h
 clear h
 replace H := Option.bind_eq_some_iff.mp H
 obtain ⟨t114, A20, H⟩ := H
 replace H : (if a0.size + 1 ≤ 9223372036854775807 then ((strings_Repeat.f (⟨#[0]⟩ : ByteArray) ((183 - (a0.size : Int)) % 64)).bind fun t117 => (if (a0.size + 1) + t117.size ≤ 9223372036854775807 then (if (a0.size + 1 + t117.size) + (strOfNums t114).size ≤ 9223372036854775807 then (some (((a0 ++ (⟨#[128]⟩ : ByteArray)) ++ t117) ++ (strOfNums t114))) else (none)) else (none))) else (none)) = some r := H
 have A2 := Aside0.mk A20
 clear A20
 by_cases c3 : a0.size + 1 ≤ 9223372036854775807
 ·
  rw [if_pos c3] at H
  have c3b0 := eq_true c3
  have c3b1 : decide (a0.size + 1 ≤ 9223372036854775807) = true := decide_eq_true c3
  try have c3b2 : (9223372036854775807 < a0.size + 1) = False := eq_false (Nat.not_lt.2 c3)
  replace H := Option.bind_eq_some_iff.mp H
  obtain ⟨t117, A40, H⟩ := H
  replace H : (if (a0.size + 1) + t117.size ≤ 9223372036854775807 then (if (a0.size + 1 + t117.size) + (strOfNums t114).size ≤ 9223372036854775807 then (some (((a0 ++ (⟨#[128]⟩ : ByteArray)) ++ t117) ++ (strOfNums t114))) else (none)) else (none)) = some r := H
  have A4 := Aside0.mk A40
  clear A40
  by_cases c5 : (a0.size + 1) + t117.size ≤ 9223372036854775807
  ·
   rw [if_pos c5] at H
   have c5b0 := eq_true c5
   have c5b1 : decide ((a0.size + 1) + t117.size ≤ 9223372036854775807) = true := decide_eq_true c5
   try have c5b2 : (9223372036854775807 < (a0.size + 1) + t117.size) = False := eq_false (Nat.not_lt.2 c5)
   by_cases c6 : (a0.size + 1 + t117.size) + (strOfNums t114).size ≤ 9223372036854775807
   ·
    rw [if_pos c6] at H
    have c6b0 := eq_true c6
    have c6b1 : decide ((a0.size + 1 + t117.size) + (strOfNums t114).size ≤ 9223372036854775807) = true := decide_eq_true c6
    try have c6b2 : (9223372036854775807 < (a0.size + 1 + t117.size) + (strOfNums t114).size) = False := eq_false (Nat.not_lt.2 c6)
    obtain rfl := Option.some.inj H
    go_enter Tryz.func176, Tryz.ntmps176
    try go_wp2_with (first | ((with_reducible refine gate_callee (f := 197) rfl ?_); refine goesL_ (some 14) rfl rfl Tryz.func197 (by kernel_rfl) rfl #[.slice none 0 0, .int .u64 (IntKind.u64.wrap (8 * (a0.size : Int)))] rfl (by (try simp only [List.map_toArray, List.map_cons, List.map_nil]); first | done | rfl | (simp only [List.length_drop, List.length_take]; rfl)) ?_; (refine (be_Long.calls (fun k_ => some k_ = (.slice none 0 0 : Value).ownBlock) (.slice none 0 0) ([] : List Int) (IntKind.u64.wrap (8 * (a0.size : Int))) t114 w _ ?side1 ?side2 A2.out).mono ?_); (case side1 => repeat (first | (with_reducible first | exact HB.out | apply below_alloc | apply pw_below_drewN | apply below_drew1) | exact HB.out)); (case side2 => exact Kd.R_nil _ _ _ _ _); rintro e w7 ⟨v115, rfl, ho0, hb, hkp⟩; refine ⟨_, rfl, ?_⟩; have n0_ := Aside0.mk (Kd.R_mono (ok' := fun k_ => True) ho0 (fun k_ hk_ => trivial)); have n1_ := Aside0.mk (hb); clear HB; have HO116 := n0_; have HB := n1_; clear n0_ n1_; (try clear hb); (try clear hkp); (try clear ho0)))
    have n0_ := Aside0.mk (Kd.R_drew HO116.out)
    have n1_ := Aside0.mk (below_drew1 HB.out)
    clear HO116
    clear HB
    have HO116 := n0_
    have HB := n1_
    clear n0_ n1_
    refine start_ (n := 9) (S := fun w' => (Sem.run Tryz.prog (convert 40 9 v115) w') = .ok (.string (strOfNums t114)) w') (ds := []) #[false, false, false, false, false, false, false, false, false] (by kernel_rfl) rfl rfl ((own_string (P := Tryz.prog) Tryz.underlying40 Tryz.underlying5 Tryz.underlying9 (Kd.own_of_R HO116.out))) (fun hHeld => ?_); refine with_tabW hash_padded.tab3 hash_padded.bits3 (fun HT_ HW_ => ?_)
    generalize w7.drew = w8 at HO116 HB hHeld ⊢
    refine pure_ (i := 0) (N := some 15) (v := ?_) (a' := ?_) #[true, false, false, false, false, false, false, false, false] rfl rfl (any_of HT_.out (by kernel_rfl)) (fun _ _ _ h => h) (Or.inl ⟨by rfl, ?_⟩) ?_ ?_
    rotate_left
    ·
     intro w'
     go_simp
     with_reducible rfl
    rotate_left
    ·
     simp only [Act.put, List.setIfInBounds_toArray, List.set_cons_zero, List.set_cons_succ, i64_w, i32_w]
     rfl
    refine pure_ (i := 1) (N := some 16) (v := ?_) (a' := ?_) #[true, true, false, false, false, false, false, false, false] rfl rfl (any_of HT_.out (by kernel_rfl)) (fun _ _ _ h => h) (Or.inl ⟨by rfl, ?_⟩) ?_ ?_
    rotate_left
    ·
     intro w'
     go_simp
     with_reducible rfl
    rotate_left
    ·
     simp only [Act.put, List.setIfInBounds_toArray, List.set_cons_zero, List.set_cons_succ, i64_w, i32_w]
     rfl
    refine pure_ (i := 2) (N := some 17) (v := ?_) (a' := ?_) #[true, true, true, false, false, false, false, false, false] rfl rfl (any_of HT_.out (by kernel_rfl)) (fun _ _ _ h => h) (Or.inl ⟨by rfl, ?_⟩) ?_ ?_
    rotate_left
    ·
     intro w'
     go_simp
     with_reducible rfl
    rotate_left
    ·
     simp only [Act.put, List.setIfInBounds_toArray, List.set_cons_zero, List.set_cons_succ, i64_w, i32_w]
     rfl
    refine pure_ (i := 5) (N := some 20) (v := ?_) (a' := ?_) #[true, true, true, false, false, true, false, false, false] rfl rfl (any_of HT_.out (by kernel_rfl)) (fun _ _ _ h => h) (Or.inl ⟨by rfl, ?_⟩) ?_ ?_
    rotate_left
    ·
     intro w'
     go_simp
     with_reducible rfl
    rotate_left
    ·
     simp only [Act.put, List.setIfInBounds_toArray, List.set_cons_zero, List.set_cons_succ, i64_w, i32_w]
     rfl
    refine take_ (i := 6) (N := some 21) (v := ?_) (a' := ?_) #[true, true, true, false, false, true, true, false, false] rfl rfl (take_ofW HT_.out HW_.out (by kernel_rfl)) (fun _ _ _ h => h) (Or.inl ⟨by rfl, ?_⟩) hHeld ?_ ?_
    rotate_left
    ·
     intro w' s0
     go_simp
     with_reducible rfl
    rotate_left
    ·
     simp only [Act.put, List.setIfInBounds_toArray, List.set_cons_zero, List.set_cons_succ, i64_w, i32_w]
     rfl
    refine one_ (i := 3) (N := some 18) #[true, true, true, true, false, true, true, false, false] rfl rfl (one_of HT_.out (by kernel_rfl)) (by decide) (fun K hK => ?_)
    refine goes_ Tryz.func198 (by kernel_rfl) rfl #[.string (⟨#[0]⟩ : ByteArray), .int .i64 ((183 - (a0.size : Int)) % 64)] (by rfl) rfl rfl (by (try simp only [List.map_toArray, List.map_cons, List.map_nil]); first | done | rfl | (simp only [List.length_drop, List.length_take]; rfl)) ?_
    with_reducible refine (strings_Repeat.calls (⟨#[0]⟩ : ByteArray) ((183 - (a0.size : Int)) % 64) t117 _ A4.out).mono ?_
    rintro e w9 ⟨rfl, hb⟩
    refine ⟨_, rfl, ?_⟩
    have n0_ := Aside0.mk (Kd.R_below (by (with_reducible repeat (first | apply Kd.R_alloc | apply Kd.R_drewN | apply Kd.R_drew)); exact HO116.out) hb)
    have n1_ := Aside0.mk (below_step (by repeat (first | (with_reducible first | exact HB.out | apply below_alloc | apply pw_below_drewN | apply below_drew1) | exact HB.out)) hb)
    clear HO116
    clear HB
    have HO116 := n0_
    have HB := n1_
    clear n0_ n1_
    (try clear hb)
    (try clear hb2)
    (try clear hk)
    (try clear hi)
    refine hK.out _ _ ((own_string (P := Tryz.prog) Tryz.underlying40 Tryz.underlying5 Tryz.underlying9 (Kd.own_of_R HO116.out))) (fun hHeld => ?_)
    clear hK K
    refine norm_ (a' := ?_) ?_ ?_
    rotate_left
    ·
     show Act.put _ (some 18) _ = _
     simp only [Act.put, List.setIfInBounds_toArray, List.set_cons_zero, List.set_cons_succ, i64_w, i32_w]
     rfl
    refine pure_ (i := 4) (N := some 19) (v := ?_) (a' := ?_) #[true, true, true, true, true, true, true, false, false] rfl rfl (any_of HT_.out (by kernel_rfl)) (fun _ _ _ h => h) (Or.inl ⟨by rfl, ?_⟩) ?_ ?_
    rotate_left
    ·
     intro w'
     go_simp
     with_reducible rfl
    rotate_left
    ·
     simp only [Act.put, List.setIfInBounds_toArray, List.set_cons_zero, List.set_cons_succ, i64_w, i32_w]
     rfl
    refine pure_ (i := 7) (N := some 22) (v := ?_) (a' := ?_) #[true, true, true, true, true, true, true, true, false] rfl rfl (any_of HT_.out (by kernel_rfl)) (fun _ _ _ h => h) (Or.inl ⟨by rfl, ?_⟩) ?_ ?_
    rotate_left
    ·
     intro w'
     go_simp
     with_reducible rfl
    rotate_left
    ·
     simp only [Act.put, List.setIfInBounds_toArray, List.set_cons_zero, List.set_cons_succ, i64_w, i32_w]
     rfl
    refine pure_ (i := 8) (N := some 2) (v := ?_) (a' := ?_) #[true, true, true, true, true, true, true, true, true] rfl rfl (any_of HT_.out (by kernel_rfl)) (fun _ _ _ h => h) (Or.inl ⟨by rfl, ?_⟩) ?_ ?_
    rotate_left
    ·
     intro w'
     go_simp
     with_reducible rfl
    rotate_left
    ·
     simp only [Act.put, List.setIfInBounds_toArray, List.set_cons_zero, List.set_cons_succ, i64_w, i32_w]
     rfl
    refine done_ (done_of HT_.out (by kernel_rfl)) ?_
    try go_wp2
    go_ret
    exact ⟨by first | rfl | (simp [errW_none, errW_some] <;> rfl) | (simp [*, errW_none, errW_some] <;> rfl), by repeat (first | (with_reducible first | exact HB.out | apply below_alloc | apply pw_below_drewN | apply below_drew1) | exact HB.out)⟩
   ·
    rw [if_neg c6] at H
    exact absurd H (by simp)
  ·
   rw [if_neg c5] at H
   exact absurd H (by simp)
 ·
  rw [if_neg c3] at H
  exact absurd H (by simp)

def be_Get.f (l0 : List Int) : Option (Int) := some (getL (l0.take 4))
set_option maxHeartbeats 1000000 in
theorem be_Get.says (A0 : Option Addr) (m c0 : Nat) (l0 : List Int) (w : World) (hm : m = l0.length) (hr0 : Kd.C (Kd.int .u8) w A0 l0.length l0) (hc0 : l0.length ≤ c0) :
  Calls Tryz.prog 160 #[.slice A0 m c0] w fun e w' => e = .returned (.int .u32 (getL (l0.take 4))) ∧ w' = w := by
 subst hm
 obtain ⟨n, hn⟩ : ∃ n : Nat, n = min l0.length 4 := ⟨_, rfl⟩
 have hnl : n ≤ l0.length := by omega
 have hn4 : n ≤ 4 := by omega
 obtain ⟨i05, hi05, _, hsz5, _⟩ := info_parts (show (Tryz.prog.info? 5).map (fun i => (i.zero, i.size, i.bytes)) = some (some (.int .u8 0), 1, 1) by kernel_rfl)
 have hcut := cut_to (P := Tryz.prog) 40 5 .i64 Tryz.underlying40 hi05 A0 l0.length c0 (n : Int) (by omega) (by omega) hc0
 have hmn : (if 4 < (l0.length : Int) then (4 : Int) else (l0.length : Int)) = (n : Int) := by split <;> omega
 have ht : l0.take 4 = l0.take n := by rw [hn, List.take_eq_take_iff]; omega
 have HT := Lib.hid ht
 clear hn ht hi05 hsz5
 go_enter Tryz.func160, Tryz.ntmps160
 go_wp2
 clear hmn hcut
 go_loop [3, 12] (fun v3 v12 => ∃ k : Nat, k ≤ n ∧ v12 = .int .i64 k ∧ v3 = .int .u32 (getL (l0.take k))) (fun _ v12 => n - (intOf v12).toNat)
 case atStart => exact ⟨0, by omega, rfl, rfl⟩
 case round =>
  obtain ⟨k, hk, rfl, rfl⟩ := hrel
  by_cases hlt : k < n
  ·
   obtain ⟨ad, rfl, hx⟩ := Kd.at_int hr0 (k : Int) (by omega) (by omega)
   rw [Int.toNat_natCast] at hx
   have hs : getL (l0.take (k + 1)) = Go.bits .or .u32 (getL (l0.take k) * 256 % 4294967296) (rd l0 (k : Int) % 4294967296) := by
    rw [List.take_succ_eq_append_getElem (by omega)]
    unfold getL
    rw [List.foldl_append]
    simp [rd, List.getD_eq_getElem?_getD, List.getElem?_eq_getElem (show k < l0.length by omega)]
   have HS := Lib.hid hs
   clear hs
   go_wp2
   go_round
   case measure => simp [intOf]; omega
   case rel => exact ⟨k + 1, by omega, by go_num, by rw [HS.out]⟩
  ·
   obtain rfl : k = n := by omega
   go_wp2
   go_ret
   exact ⟨by rw [HT.out]; rfl, rfl⟩
theorem be_Get.calls (A0 : Option Addr) (c0 : Nat) (l0 : List Int) (r : Int) (w : World) (hr0 : Kd.C (Kd.int .u8) w A0 l0.length l0) (hc0 : l0.length ≤ c0) (h : be_Get.f l0 = some r) :
  Calls Tryz.prog 160 #[.slice A0 l0.length c0] w fun e w' => e = .returned (.int .u32 r) ∧ Drawn0 w w' := by
 refine (be_Get.says A0 _ c0 l0 w rfl hr0 hc0).mono ?_
 rintro e w' ⟨rfl, rfl⟩
 unfold be_Get.f at h
 obtain rfl := Option.some.inj h
 exact ⟨rfl, Drawn0.refl _⟩

theorem rot_2 (x : Int) (w : World) : Calls Tryz.prog 200 #[.int .u32 x, .int .i64 (-2)] w fun e w' => e = .returned (.int .u32 (rr x 2)) ∧ w' = w := by
 have he : Go.bits BinOp.and IntKind.u64 (IntKind.u64.wrap (-2)) 31 = 30 := by decide
 go_enter Tryz.func200, Tryz.ntmps200
 go_wp2
 go_ret
 exact ⟨by rw [rr, bits_or_comm]; rfl, rfl⟩
theorem rot_6 (x : Int) (w : World) : Calls Tryz.prog 200 #[.int .u32 x, .int .i64 (-6)] w fun e w' => e = .returned (.int .u32 (rr x 6)) ∧ w' = w := by
 have he : Go.bits BinOp.and IntKind.u64 (IntKind.u64.wrap (-6)) 31 = 26 := by decide
 go_enter Tryz.func200, Tryz.ntmps200
 go_wp2
 go_ret
 exact ⟨by rw [rr, bits_or_comm]; rfl, rfl⟩
theorem rot_7 (x : Int) (w : World) : Calls Tryz.prog 200 #[.int .u32 x, .int .i64 (-7)] w fun e w' => e = .returned (.int .u32 (rr x 7)) ∧ w' = w := by
 have he : Go.bits BinOp.and IntKind.u64 (IntKind.u64.wrap (-7)) 31 = 25 := by decide
 go_enter Tryz.func200, Tryz.ntmps200
 go_wp2
 go_ret
 exact ⟨by rw [rr, bits_or_comm]; rfl, rfl⟩
theorem rot_11 (x : Int) (w : World) : Calls Tryz.prog 200 #[.int .u32 x, .int .i64 (-11)] w fun e w' => e = .returned (.int .u32 (rr x 11)) ∧ w' = w := by
 have he : Go.bits BinOp.and IntKind.u64 (IntKind.u64.wrap (-11)) 31 = 21 := by decide
 go_enter Tryz.func200, Tryz.ntmps200
 go_wp2
 go_ret
 exact ⟨by rw [rr, bits_or_comm]; rfl, rfl⟩
theorem rot_13 (x : Int) (w : World) : Calls Tryz.prog 200 #[.int .u32 x, .int .i64 (-13)] w fun e w' => e = .returned (.int .u32 (rr x 13)) ∧ w' = w := by
 have he : Go.bits BinOp.and IntKind.u64 (IntKind.u64.wrap (-13)) 31 = 19 := by decide
 go_enter Tryz.func200, Tryz.ntmps200
 go_wp2
 go_ret
 exact ⟨by rw [rr, bits_or_comm]; rfl, rfl⟩
theorem rot_17 (x : Int) (w : World) : Calls Tryz.prog 200 #[.int .u32 x, .int .i64 (-17)] w fun e w' => e = .returned (.int .u32 (rr x 17)) ∧ w' = w := by
 have he : Go.bits BinOp.and IntKind.u64 (IntKind.u64.wrap (-17)) 31 = 15 := by decide
 go_enter Tryz.func200, Tryz.ntmps200
 go_wp2
 go_ret
 exact ⟨by rw [rr, bits_or_comm]; rfl, rfl⟩
theorem rot_18 (x : Int) (w : World) : Calls Tryz.prog 200 #[.int .u32 x, .int .i64 (-18)] w fun e w' => e = .returned (.int .u32 (rr x 18)) ∧ w' = w := by
 have he : Go.bits BinOp.and IntKind.u64 (IntKind.u64.wrap (-18)) 31 = 14 := by decide
 go_enter Tryz.func200, Tryz.ntmps200
 go_wp2
 go_ret
 exact ⟨by rw [rr, bits_or_comm]; rfl, rfl⟩
theorem rot_19 (x : Int) (w : World) : Calls Tryz.prog 200 #[.int .u32 x, .int .i64 (-19)] w fun e w' => e = .returned (.int .u32 (rr x 19)) ∧ w' = w := by
 have he : Go.bits BinOp.and IntKind.u64 (IntKind.u64.wrap (-19)) 31 = 13 := by decide
 go_enter Tryz.func200, Tryz.ntmps200
 go_wp2
 go_ret
 exact ⟨by rw [rr, bits_or_comm]; rfl, rfl⟩
theorem rot_22 (x : Int) (w : World) : Calls Tryz.prog 200 #[.int .u32 x, .int .i64 (-22)] w fun e w' => e = .returned (.int .u32 (rr x 22)) ∧ w' = w := by
 have he : Go.bits BinOp.and IntKind.u64 (IntKind.u64.wrap (-22)) 31 = 10 := by decide
 go_enter Tryz.func200, Tryz.ntmps200
 go_wp2
 go_ret
 exact ⟨by rw [rr, bits_or_comm]; rfl, rfl⟩
theorem rot_25 (x : Int) (w : World) : Calls Tryz.prog 200 #[.int .u32 x, .int .i64 (-25)] w fun e w' => e = .returned (.int .u32 (rr x 25)) ∧ w' = w := by
 have he : Go.bits BinOp.and IntKind.u64 (IntKind.u64.wrap (-25)) 31 = 7 := by decide
 go_enter Tryz.func200, Tryz.ntmps200
 go_wp2
 go_ret
 exact ⟨by rw [rr, bits_or_comm]; rfl, rfl⟩
set_option maxHeartbeats 4000000 in
set_option maxRecDepth 100000 in
theorem hash_spread.says (b : ByteArray) (hb : b.size = 64) (w : World) : Calls Tryz.prog 199 #[.string b] w fun e w' => e = .returned (.agg (nums .u32 (spr b.data.toList)).toArray) ∧ Below w.heap.size w w' := by
 have kb := fun (s : ByteArray) W => print_bytes (P := Tryz.prog) 9 40 5 Tryz.underlying9 Tryz.underlying40 Tryz.underlying5 s W
 go_enter Tryz.func199, Tryz.ntmps199
 go_wp2
 go_loopw [10] (fun v10 wr => ∃ k : Nat, k ≤ 16 ∧ v10 = .int .i64 k ∧ ArrK .u32 wr w.heap.size 200 (List.replicate 64 0) ∧ ArrK .u32 wr (w.heap.size + 1) 200 (sprTo b.data.toList k) ∧ Below w.heap.size w wr) (fun v10 _ => 16 - (intOf v10).toNat)
 case atStart =>
  refine ⟨0, by omega, rfl, ?_, ?_, ?_⟩
  ·
   exact arr_alloc (arr_new w 200 (List.replicate 64 0) rfl) _
  ·
   exact arr_new _ 200 (List.replicate 64 0) (by simp)
  ·
   exact ((Below.refl _ _).alloc (Nat.le_refl _) _).alloc (by simp) _
 case round =>
  obtain ⟨k, hk, rfl, hres, harr, hbel⟩ := hrel
  by_cases hlt : k < 16
  ·
   have hdec : decide ((k : Int) < 16) = true := by simp; omega
   have hb' : (b.size : Int) = 64 := by omega
   go_wp2_with fail
   have hbel1 := bytes_below (Below.refl wr.heap.size wr) (Nat.le_refl _) 5 (b.extract (4 * k) 64)
   have hlen : (b.extract (4 * k) 64).size = 64 - 4 * k := by simp; omega
   have hrd := Kd.C_of_reads (d := (0 : Int)) (h1 := fun _ => rfl) (bytes_reads wr 5 (b.extract (4 * k) 64) (by omega))
   have hgc := grownCap_ge wr (b.extract (4 * k) 64).size 0 5
   have hres1 := arr_below hres hbel1
   have harr1 := arr_below harr hbel1
   rw [← bytesOf_length (b.extract (4 * k) 64)] at hrd
   rw [hlen] at hgc
   have hlen2 : 64 - 4 * k = (bytesOf (b.extract (4 * k) 64)).length := by rw [bytesOf_length, hlen]
   have hbsz : w.heap.size ≤ wr.heap.size := hbel.size
   have hbel2 := below_then hbel hbsz hbel1
   generalize hW : Lib.bytesWorld wr 5 (b.extract (4 * k) 64) = w1 at hbel1 hbel2 hrd hres1 harr1 ⊢
   refine (be_Get.says _ _ _ (bytesOf (b.extract (4 * k) 64)) w1 hlen2 hrd (by rw [← hlen2]; exact hgc)).mono ?_
   clear hW hres harr hbel hbel1 hrd hgc hlen hlen2
   rintro e w2 ⟨rfl, rfl⟩
   have hc := arr_cell harr1 k (by rw [sprTo_length]; omega)
   have hf := arr_frozen harr1 k
   go_wp2
   go_roundw
   case measure => simp [intOf]; omega
   case rel =>
    rw [sprGet_is b k hb]
    refine ⟨k + 1, by omega, by go_num, arr_far hres1 (by show w.heap.size ≠ w.heap.size + 1; omega) _, ?_, hbel2.setCell (p := ⟨w.heap.size + 1, k, none⟩) (by show w.heap.size ≤ w.heap.size + 1; omega) _⟩
    rw [sprTo_get _ _ hlt]
    exact arr_set harr1 k _
  ·
   obtain rfl : k = 16 := by omega
   clear hlt hk kb
   go_wp2
   obtain ⟨wo, rfl⟩ : ∃ wo : World, wo = wr := ⟨_, rfl⟩
   go_loopw [5] (fun v5 wr => ∃ j : Nat, j ≤ 48 ∧ v5 = .int .i64 ((j : Int) + 16) ∧ ArrK .u32 wr w.heap.size 200 (List.replicate 64 0) ∧ ArrK .u32 wr (w.heap.size + 1) 200 (sprTo b.data.toList (j + 16)) ∧ Below w.heap.size w wr) (fun v5 _ => 64 - (intOf v5).toNat)
   case atStart => exact ⟨0, by omega, rfl, hres, harr, hbel⟩
   case round =>
    clear hres harr hbel
    obtain ⟨j, hj, rfl, hres, harr, hbel⟩ := hrel
    by_cases hlt : j < 48
    ·
     have hdec : decide ((j : Int) + 16 < 64) = true := by simp; omega
     have l0 := sprTo_length b.data.toList (j + 16)
     have c16 := arr_cell harr j (by omega)
     have c15 := arr_cell harr (j + 1) (by omega)
     have c7 := arr_cell harr (j + 9) (by omega)
     have c2 := arr_cell harr (j + 14) (by omega)
     have c0 := arr_cell harr (j + 16) (by omega)
     have hf := arr_frozen harr (j + 16)
     have Hs := Lib.hid (sprTo_new b.data.toList (j + 16) (by omega))
     obtain ⟨xs, hxs⟩ : ∃ xs, sprTo b.data.toList (j + 16) = xs := ⟨_, rfl⟩
     rw [hxs] at l0 c16 c15 c7 c2 c0 harr Hs
     have hxs := Lib.hid hxs
     have e15 : IntKind.i64.wrap ((j : Int) + 16 - 15) = ((j + 1 : Nat) : Int) := (IntWalk.i64_in _ (by omega)).trans (by omega)
     have e2 : IntKind.i64.wrap ((j : Int) + 16 - 2) = ((j + 14 : Nat) : Int) := (IntWalk.i64_in _ (by omega)).trans (by omega)
     have b15 : (0 ≤ ((j + 1 : Nat) : Int) ∧ ((j + 1 : Nat) : Int) < 64) = True := by simp; omega
     have b2 : (0 ≤ ((j + 14 : Nat) : Int) ∧ ((j + 14 : Nat) : Int) < 64) = True := by simp; omega
     clear l0
     go_wp2_with fail
     go_quiet (fail)
     have hbsz : w.heap.size ≤ wr.heap.size := hbel.size
     have hbelN : Below wr.heap.size wr (wr.drewN nq) := ⟨rfl, rfl, rfl, Nat.le_refl _, fun _ _ => rfl⟩
     have hbel2 := below_then hbel hbsz hbelN
     have harr2 := arr_below harr hbelN
     have hres2 := arr_below hres hbelN
     clear hbelN
     generalize wr.drewN nq = w2 at hbel2 harr2 hres2 ⊢
     clear harr hres hbel c16 c15 c7 c2 c0 hf
     go_wp2_with fail
     refine (rot_7 _ _).mono ?_
     rintro e w3 ⟨rfl, rfl⟩
     go_wp2_with fail
     refine (rot_18 _ _).mono ?_
     rintro e w3 ⟨rfl, rfl⟩
     go_wp2_with fail
     refine (rot_17 _ _).mono ?_
     rintro e w4 ⟨rfl, rfl⟩
     go_wp2_with fail
     refine (rot_19 _ _).mono ?_
     rintro e w5 ⟨rfl, rfl⟩
     have l0 : xs.length = 64 := by rw [← (show sprTo b.data.toList (j + 16) = xs from hxs)]; exact sprTo_length _ _
     have e16 : IntKind.i64.wrap (j : Int) = (j : Int) := IntWalk.i64_in _ (by omega)
     have e7 : IntKind.i64.wrap ((j : Int) + 16 - 7) = (j : Int) + 9 := (IntWalk.i64_in _ (by omega)).trans (by omega)
     have t7 : ((j : Int) + 9).toNat = j + 9 := by omega
     have e0 : ((j : Int) + 16).toNat = j + 16 := by omega
     have b16 : ((j : Int) < 64) = True := by simp; omega
     have b7 : (0 ≤ (j : Int) + 9 ∧ (j : Int) + 9 < 64) = True := by simp; omega
     have b0 : (0 ≤ (j : Int) + 16 ∧ (j : Int) + 16 < 64) = True := by simp; omega
     have c16 := arr_cell harr2 j (by omega)
     have c7 := arr_cell harr2 (j + 9) (by omega)
     have hf := arr_frozen harr2 (j + 16)
     clear b15 b2 e15 e2
     go_wp2_with fail
     go_still_tail 15, (by kernel_rfl)
     change wpList _ _ _ _ _ w5.drew
     have hbel3 : Below w.heap.size w w5.drew := below_drew hbel2
     have harr3 : ArrK .u32 w5.drew (w.heap.size + 1) 200 xs := harr2
     have hres3 : ArrK .u32 w5.drew w.heap.size 200 _ := hres2
     clear hbel2 harr2 hres2 c16 c7 hf
     generalize w5.drew = w6 at hbel3 harr3 hres3 ⊢
     have hf := arr_frozen harr3 (j + 16)
     have c0 := arr_cell harr3 (j + 16) (by omega)
     go_wp2_with fail
     refine ⟨?_, ?measure⟩
     apply Exists.intro
     (repeat apply Exists.intro)
     refine ⟨?rel, rfl⟩
     case measure => simp [intOf]; omega
     case rel =>
      refine ⟨j + 1, by omega, by go_num, arr_far hres3 (by show w.heap.size ≠ w.heap.size + 1; omega) _, ?_, hbel3.setCell (p := ⟨w.heap.size + 1, j + 16, none⟩) (by show w.heap.size ≤ w.heap.size + 1; omega) _⟩
      rw [show j + 1 + 16 = j + 16 + 1 by omega, (show sprTo b.data.toList (j + 16 + 1) = xs.set (j + 16) (sprNew xs (j + 16)) from Hs), show sprNew xs (j + 16) = (rd xs (j : Int) + lowW (rd xs ((j + 1 : Nat) : Int)) + rd xs ((j + 9 : Nat) : Int) + highW (rd xs ((j + 14 : Nat) : Int))) % 4294967296 by
       unfold sprNew
       rw [show ((j + 16 : Nat) : Int) - 16 = (j : Int) by omega, show ((j + 16 : Nat) : Int) - 15 = ((j + 1 : Nat) : Int) by omega, show ((j + 16 : Nat) : Int) - 7 = ((j + 9 : Nat) : Int) by omega, show ((j + 16 : Nat) : Int) - 2 = ((j + 14 : Nat) : Int) by omega]]
      exact arr_set harr3 (j + 16) _
    ·
     obtain rfl : j = 48 := by omega
     clear hlt hj
     go_upto_region 14 with fail
     have l0 := sprTo_length b.data.toList 64
     apply wp_region_lit
     refine arr_load harr 200 (.tmp 3) rfl rfl rfl rfl (by rw [l0]; rfl) ?_
     refine arr_store hres (sprTo b.data.toList 64) (by rw [l0]; rfl) 200 (.tmp 2) (.tmp 65) rfl rfl rfl rfl (by rw [l0]; rfl) ?_
     refine wpList_nil ?_
     have hres2 := arr_setRow hres (sprTo b.data.toList 64)
     have hbel2 := below_setRow hbel (Nat.le_refl _) (nums .u32 (sprTo b.data.toList 64)).toArray
     go_wp2_with fail
     exact bodyPost_ret (arr_result hres2 rfl _ rfl rfl (by rw [l0]; rfl)) rfl ⟨rfl, hbel2⟩
def hash_spread.f (a0 : ByteArray) : Option (List Int) := none
theorem hash_spread.calls (a0 : ByteArray) (r : List Int) (w : World) (h : hash_spread.f a0 = some r) :
  Calls Tryz.prog 199 #[.string a0] w fun e w' => e = .returned (.agg (nums .u32 r).toArray) ∧ Below w.heap.size w w' := by cases h

set_option maxHeartbeats 4000000 in
set_option maxRecDepth 100000 in
theorem hash_mix.says (hs : List Int) (hl : hs.length = 8) (b : ByteArray) (hb : b.size = 64) (w : World) (hG : GL w) : Calls Tryz.prog 177 #[.agg (nums .u32 hs).toArray, .string b] w fun e w' => e = .returned (.agg (nums .u32 (mixed hs b.data.toList)).toArray) ∧ Below w.heap.size w w' := by
 go_enter Tryz.func177, Tryz.ntmps177
 go_upto_region 1 with fail
 obtain ⟨w0, hw0⟩ : ∃ w0 : World, w0 = (w.alloc (.cells (nums .u32 hs).toArray 201)).alloc (.cells (nums .u32 (List.replicate 8 0)).toArray 201) := ⟨_, rfl⟩
 have hbel0 : Below w.heap.size w w0 := by rw [hw0]; exact ((Below.refl _ _).alloc (Nat.le_refl _) _).alloc (by simp) _
 have hh0 : ArrK .u32 w0 w.heap.size 201 hs := by rw [hw0]; exact arr_alloc (arr_new _ _ _ rfl) _
 have hr0 : ArrK .u32 w0 (w.heap.size + 1) 201 (List.replicate 8 0) := by rw [hw0]; exact arr_new _ _ _ (by simp)
 have hs0 : w0.heap.size = w.heap.size + 2 := by rw [hw0]; simp
 rw [show ((w.alloc (.cells (nums .u32 hs).toArray 201)).alloc (.cells #[Value.int IntKind.u32 0, Value.int IntKind.u32 0, Value.int IntKind.u32 0, Value.int IntKind.u32 0, Value.int IntKind.u32 0, Value.int IntKind.u32 0, Value.int IntKind.u32 0, Value.int IntKind.u32 0] 201)) = w0 from hw0.symm]
 clear hw0
 have hG0 := hG.below hbel0
 go_wp2_with (fail)
 refine (hash_spread.says b hb w0).mono ?_
 rintro e w1 ⟨rfl, hb1⟩
 have hbel1 := below_then hbel0 (by omega) hb1
 have hh1 := arr_below hh0 hb1
 have hr1 := arr_below hr0 hb1
 have hG1 := hG0.below hb1
 have hs1 : w.heap.size + 2 ≤ w1.heap.size := by rw [← hs0]; exact hb1.size
 clear hG0 hbel0 hh0 hr0 hb1 hG
 go_upto_region 2 with (refine arr_store (arr_new w1 200 (List.replicate 64 0) rfl) (spr b.data.toList) (by rw [spr_length]; rfl) 200 (.tmp 5) (.tmp 17) rfl rfl rfl rfl (by rw [spr_length]; rfl) ?_)
 refine wp_world ?_
 intro w2 hw2
 have hX2 : ArrK .u32 w2 w1.heap.size 200 (spr b.data.toList) := by rw [hw2]; exact arr_setRow (arr_new w1 200 (List.replicate 64 0) rfl) _
 have hb2 : Below w1.heap.size w1 w2 := by rw [hw2]; exact below_setRow ((Below.refl _ _).alloc (Nat.le_refl _) _) (Nat.le_refl _) _
 have hs2 : w1.heap.size + 1 ≤ w2.heap.size := by rw [hw2]; simp
 clear hw2
 have hbel2 := below_then hbel1 (by omega) hb2
 have hh2 := arr_below hh1 hb2
 have hr2 := arr_below hr1 hb2
 have hG2 := hG1.below hb2
 clear hG1 hbel1 hh1 hr1 hb2
 go_upto_region 3 with (first | refine arr_load hh2 201 (.tmp 2) rfl rfl rfl rfl (by rw [hl]; rfl) ?_ | refine arr_store (arr_new w2 201 (List.replicate 8 0) rfl) hs (by rw [hl]; rfl) 201 (.tmp 6) (.tmp 18) rfl rfl rfl rfl (by rw [hl]; rfl) ?_)
 refine wp_world ?_
 intro w3 hw3
 have hS3 : ArrK .u32 w3 w2.heap.size 201 hs := by rw [hw3]; exact arr_setRow (arr_new w2 201 (List.replicate 8 0) rfl) _
 have hb3 : Below w2.heap.size w2 w3 := by rw [hw3]; exact below_setRow ((Below.refl _ _).alloc (Nat.le_refl _) _) (Nat.le_refl _) _
 have hs3 : w2.heap.size + 1 ≤ w3.heap.size := by rw [hw3]; simp
 clear hw3
 have hbel3 := below_then hbel2 (by omega) hb3
 have hh3 := arr_below hh2 hb3
 have hr3 := arr_below hr2 hb3
 have hX3 := arr_below hX2 hb3
 have hG3 := hG2.below hb3
 clear hG2 hbel2 hh2 hr2 hX2 hb3
 obtain ⟨_, _, -, hGr⟩ := hG3
 go_upto_region 4 with (refine arr_load hGr 200 (.global 1) rfl rfl rfl rfl rfl ?_)
 clear hGr
 go_loopw [20] (fun v20 wr => ∃ i : Nat, i ≤ 64 ∧ v20 = .int .i64 i ∧ ArrK .u32 wr w.heap.size 201 hs ∧ ArrK .u32 wr (w.heap.size + 1) 201 (List.replicate 8 0) ∧ ArrK .u32 wr w1.heap.size 200 (spr b.data.toList) ∧ ArrK .u32 wr w2.heap.size 201 (mixTo (spr b.data.toList) hs i) ∧ Below w.heap.size w wr) (fun v20 _ => 64 - (intOf v20).toNat)
 case atStart => exact ⟨0, by omega, rfl, hh3, hr3, hX3, hS3, hbel3⟩
 case round =>
  clear hh3 hr3 hX3 hS3 hbel3
  obtain ⟨i, hi, rfl, hh, hr, hX, hS, hbel⟩ := hrel
  by_cases hlt : i < 64
  ·
   have hdec : decide ((i : Int) < 64) = true := by simp; omega
   have lX := spr_length b.data.toList
   have lS := mixTo_length (spr b.data.toList) hs hl i
   have hidx : ∀ W, Sem.run Tryz.prog (Instr.index 200 (.agg (nums .u32 roundsL).toArray) (.int .i64 (i : Int))) W = .ok (.int .u32 (rd roundsL (i : Int))) W := fun W => run_index_num (n := 64) rfl rfl rfl rfl rfl rfl i hlt W
   obtain ⟨ss, hss⟩ : ∃ ss, ss = mixTo (spr b.data.toList) hs i := ⟨_, rfl⟩
   rw [← hss] at lS hS
   have s0 := arr_cell hS 0 (by omega)
   have s4 := arr_cell hS 4 (by omega)
   have Hss := Lib.hid hss
   clear hss
   go_wp2_with (fail)
   go_quiet (fail)
   have hbsz : w.heap.size ≤ wr.heap.size := hbel.size
   have hbelN : Below wr.heap.size wr (wr.drewN nq) := ⟨rfl, rfl, rfl, Nat.le_refl _, fun _ _ => rfl⟩
   have hbel2 := below_then hbel hbsz hbelN
   have hh2 := arr_below hh hbelN
   have hr2 := arr_below hr hbelN
   have hX2 := arr_below hX hbelN
   have hS2 := arr_below hS hbelN
   clear hbelN s0 s4 hh hr hX hS hbel
   generalize wr.drewN nq = w4 at hbel2 hh2 hr2 hX2 hS2 ⊢
   go_wp2_with fail
   refine (rot_6 _ _).mono ?_
   rintro e w5 ⟨rfl, rfl⟩
   go_wp2_with fail
   refine (rot_11 _ _).mono ?_
   rintro e w6 ⟨rfl, rfl⟩
   go_wp2_with fail
   refine (rot_25 _ _).mono ?_
   rintro e w7 ⟨rfl, rfl⟩
   go_wp2_with fail
   refine (rot_2 _ _).mono ?_
   rintro e w8 ⟨rfl, rfl⟩
   go_wp2_with fail
   refine (rot_13 _ _).mono ?_
   rintro e w9 ⟨rfl, rfl⟩
   go_wp2_with fail
   refine (rot_22 _ _).mono ?_
   rintro e w10 ⟨rfl, rfl⟩
   go_wp2_with fail
   have s1 := arr_cell hS2 1 (by omega)
   have s2 := arr_cell hS2 2 (by omega)
   have s5 := arr_cell hS2 5 (by omega)
   have s6 := arr_cell hS2 6 (by omega)
   have s7 := arr_cell hS2 7 (by omega)
   have x0 := arr_cell hX2 i (by omega)
   have b0 : ((i : Int) < 64) = True := by simp; omega
   go_still (by kernel_rfl)
   obtain ⟨one, hone⟩ : ∃ one, one = mixOne (spr b.data.toList) ss i := ⟨_, rfl⟩
   rw [show IntKind.u32.wrap (IntKind.u32.wrap (IntKind.u32.wrap (IntKind.u32.wrap (rd ss 7 + bits BinOp.xor IntKind.u32 (bits BinOp.xor IntKind.u32 (rr (rd ss 4) 6) (rr (rd ss 4) 11)) (rr (rd ss 4) 25)) + bits BinOp.xor IntKind.u32 (bits BinOp.and IntKind.u32 (rd ss 4) (rd ss 5)) (bits BinOp.and IntKind.u32 (bits BinOp.xor IntKind.u32 (if IntKind.u32.signed = true then -1 else IntKind.u32.max) (rd ss 4)) (rd ss 6))) + rd roundsL i) + rd (spr b.data.toList) i) = one from hone.symm]
   have Hone := Lib.hid hone
   clear hone
   change Exit.then _ _ _ _ w10.drew
   clear hidx s1 s2 s5 s6 s7 x0 b0 hdec
   rw [show (if IntKind.u32.signed = true then (-1 : Int) else IntKind.u32.max) = 4294967295 from rfl]
   have s0 := arr_cell hS2 0 (by omega)
   have s1 := arr_cell hS2 1 (by omega)
   have s2 := arr_cell hS2 2 (by omega)
   have s3 := arr_cell hS2 3 (by omega)
   have s4 := arr_cell hS2 4 (by omega)
   have s5 := arr_cell hS2 5 (by omega)
   have s6 := arr_cell hS2 6 (by omega)
   go_upto_region 11 with fail
   obtain ⟨two, htwo⟩ : ∃ two, two = mixTwo ss := ⟨_, rfl⟩
   rw [show (bits BinOp.xor IntKind.u32 (bits BinOp.xor IntKind.u32 (rr (rd ss 0) 2) (rr (rd ss 0) 13)) (rr (rd ss 0) 22) + bits BinOp.xor IntKind.u32 (bits BinOp.xor IntKind.u32 (bits BinOp.and IntKind.u32 (rd ss 0) (rd ss 1)) (bits BinOp.and IntKind.u32 (rd ss 0) (rd ss 2))) (bits BinOp.and IntKind.u32 (rd ss 1) (rd ss 2))) % 4294967296 = two from (IntKind.wrap_u32 _).symm.trans htwo.symm]
   have Htwo := Lib.hid htwo
   clear htwo
   have hS3 : ArrK .u32 w10.drew w2.heap.size 201 ss := hS2
   go_upto_region 12 with (refine arr_store hS3 [(one + two) % 4294967296, rd ss 0, rd ss 1, rd ss 2, (rd ss 3 + one) % 4294967296, rd ss 4, rd ss 5, rd ss 6] lS 201 (.tmp 6) (.tmp 101) rfl rfl rfl rfl rfl ?_)
   refine wp_world ?_
   intro w11 hw11
   have hst : mixStep (spr b.data.toList) ss i = [(one + two) % 4294967296, rd ss 0, rd ss 1, rd ss 2, (rd ss 3 + one) % 4294967296, rd ss 4, rd ss 5, rd ss 6] := by
    rw [show one = mixOne (spr b.data.toList) ss i from Hone, show two = mixTwo ss from Htwo]
    unfold mixStep
    simp only [w32, IntKind.wrap_u32]
   have hS5 : ArrK .u32 w11 w2.heap.size 201 (mixTo (spr b.data.toList) hs (i + 1)) := by
    rw [hw11, mixTo_succ, ← (show ss = mixTo (spr b.data.toList) hs i from Hss), hst]
    exact arr_setRow hS3 _
   have hh5 : ArrK .u32 w11 w.heap.size 201 hs := by rw [hw11]; exact arr_setRow_far hh2 (by omega) _
   have hr5 : ArrK .u32 w11 (w.heap.size + 1) 201 (List.replicate 8 0) := by rw [hw11]; exact arr_setRow_far hr2 (by omega) _
   have hX5 : ArrK .u32 w11 w1.heap.size 200 (spr b.data.toList) := by rw [hw11]; exact arr_setRow_far hX2 (by omega) _
   have hbel5 : Below w.heap.size w w11 := by rw [hw11]; exact below_setRow (below_drew hbel2) (by omega) _
   clear hw11 hst Hone Htwo Hss hS3 hS2 hh2 hr2 hX2 hbel2 s0 s1 s2 s3 s4 s5 s6
   go_wp2_with fail
   exact ⟨⟨i + 1, by omega, by go_num, hh5, hr5, hX5, hS5, hbel5⟩, by simp [intOf]; omega⟩
  ·
   obtain rfl : i = 64 := by omega
   clear hlt hi
   go_upto_region 14 with fail
   obtain ⟨SS, hSS⟩ : ∃ SS, SS = mixTo (spr b.data.toList) hs 64 := ⟨_, rfl⟩
   have lS := mixTo_length (spr b.data.toList) hs hl 64
   rw [← hSS] at hS lS
   have HSS := Lib.hid hSS
   clear hSS
   go_loopw [103] (fun v103 wr => ∃ j : Nat, j ≤ 8 ∧ v103 = .int .i64 j ∧ ArrK .u32 wr w.heap.size 201 (addTo SS hs j) ∧ ArrK .u32 wr (w.heap.size + 1) 201 (List.replicate 8 0) ∧ ArrK .u32 wr w2.heap.size 201 SS ∧ Below w.heap.size w wr) (fun v103 _ => 8 - (intOf v103).toNat)
   case atStart => exact ⟨0, by omega, rfl, hh, hr, hS, hbel⟩
   case round =>
    clear hh hr hS hbel hX
    obtain ⟨j, hj, rfl, hh, hr, hS, hbel⟩ := hrel
    by_cases hlt : j < 8
    ·
     have hdec : decide ((j : Int) < 8) = true := by simp; omega
     have b0 : ((j : Int) < 8) = True := by simp; omega
     have la := (addTo_length SS hs j).trans hl
     obtain ⟨hj2, hhj⟩ : ∃ xs, xs = addTo SS hs j := ⟨_, rfl⟩
     rw [← hhj] at hh la
     have Hhj := Lib.hid hhj
     clear hhj
     have c0 := arr_cell hh j (by omega)
     have d0 := arr_cell hS j (by omega)
     have f0 := arr_frozen hh j
     go_wp2_with fail
     go_still_tail 8, (by kernel_rfl)
     change wpList _ _ _ _ _ wr.drew
     have hbel3 : Below w.heap.size w wr.drew := below_drew hbel
     have hh3 : ArrK .u32 wr.drew w.heap.size 201 hj2 := hh
     have hr3 : ArrK .u32 wr.drew (w.heap.size + 1) 201 _ := hr
     have hS3 : ArrK .u32 wr.drew w2.heap.size 201 SS := hS
     clear hbel hh hr hS c0 d0 f0
     generalize wr.drew = w6 at hbel3 hh3 hr3 hS3 ⊢
     have f0 := arr_frozen hh3 j
     have c0 := arr_cell hh3 j (by omega)
     go_wp2_with fail
     refine ⟨?_, ?measure⟩
     apply Exists.intro
     (repeat apply Exists.intro)
     refine ⟨?rel, rfl⟩
     case measure => simp [intOf]; omega
     case rel =>
      refine ⟨j + 1, by omega, by go_num, ?_, arr_far hr3 (by show w.heap.size + 1 ≠ w.heap.size; omega) _, arr_far hS3 (by show w2.heap.size ≠ w.heap.size; omega) _, hbel3.setCell (p := ⟨w.heap.size, j, none⟩) (by show w.heap.size ≤ w.heap.size; omega) _⟩
      rw [addTo_succ, ← (show hj2 = addTo SS hs j from Hhj)]
      exact arr_set hh3 j _
    ·
     obtain rfl : j = 8 := by omega
     clear hlt hj
     go_upto_region 18 with fail
     have la := (addTo_length SS hs 8).trans hl
     apply wp_region_lit
     refine arr_load hh 201 (.tmp 2) rfl rfl rfl rfl (by rw [la]; rfl) ?_
     refine arr_store hr (addTo SS hs 8) (by rw [la]; rfl) 201 (.tmp 4) (.tmp 115) rfl rfl rfl rfl (by rw [la]; rfl) ?_
     refine wpList_nil ?_
     have hr2 := arr_setRow hr (addTo SS hs 8)
     have hbel2 := below_setRow hbel (show w.heap.size ≤ w.heap.size + 1 by omega) (nums .u32 (addTo SS hs 8)).toArray
     go_wp2_with fail
     exact bodyPost_ret (arr_result hr2 rfl _ rfl rfl (by rw [la]; rfl)) rfl ⟨by rw [show SS = mixTo (spr b.data.toList) hs 64 from HSS]; rfl, hbel2⟩
def hash_mix.f (a0 : List Int) (a1 : ByteArray) : Option (List Int) := none
theorem hash_mix.calls (a0 : List Int) (a1 : ByteArray) (r : List Int) (w : World) (h : hash_mix.f a0 a1 = some r) :
  Calls Tryz.prog 177 #[.agg (nums .u32 a0).toArray, .string a1] w fun e w' => e = .returned (.agg (nums .u32 r).toArray) ∧ Below w.heap.size w w' := by cases h

end Go.Proofs.YtpoblffgclmmlaaGreatDoor.Q
end
section
namespace Go.Proofs.YtpoblffgclmmlaaGreatDoor.Q
open Go.RowKit Go.Proofs.YtpoblffgclmmlaaGreatDoorW.PrintWords Go.Proofs.YtpoblffgclmmlaaGreatDoorW.PrintLast Go.Proofs.YtpoblffgclmmlaaGreatDoorW.PrintMore
attribute [local go_sem] max2_int min2_int max_two min_two max_three min_three max_four min_four   -- for this text's walks alone
open Go.Proofs.YtpoblffgclmmlaaGreatDoor.X
set_option linter.unusedVariables false
set_option linter.unusedSimpArgs false

theorem be_Long_nil (n : Nat) (hn : n < 18446744073709551616) : be_Long.f [] (n : Int) = some ((longL n).map fun c => (c.toNat : Int)) := by
 unfold be_Long.f be_Put.f
 have e (x : Nat) : (((x % 256).toUInt8.toNat : Nat) : Int) = (x : Int) % 256 := by
  rw [UInt8.toNat_ofNat']; omega
 simp only [Option.bind_some, List.length_nil, List.length_cons, List.nil_append, List.cons_append, longL, List.map_cons, List.map_nil, e]
 rw [if_pos (by decide), Option.bind_some, if_pos (by simp), Option.bind_some]
 simp only [Option.some.injEq, List.cons.injEq, and_true, List.cons_append, List.nil_append]
 omega
theorem padded_is (b : ByteArray) (hb : b.size ≤ 1000000000) : hash_padded.f b = some ⟨(padL b.data.toList).toArray⟩ := by
 have hn : ((183 - (b.size : Int)) % 64) = ((padFill b.size : Nat) : Int) := by unfold padFill; omega
 unfold hash_padded.f
 rw [show IntKind.u64.wrap (8 * (b.size : Int)) = ((8 * b.size : Nat) : Int) by simp [IntKind.wrap, IntKind.bits, IntKind.signed]; omega, be_Long_nil _ (by omega), Option.bind_some, if_pos (by omega), hn]
 have hp : padFill b.size < 64 := by unfold padFill; omega
 unfold strings_Repeat.f
 have h0 : ∀ n, Lib.repeatL [0] n = List.replicate n 0 := by
  intro n
  induction n with
  | zero => rfl
  | succ n ih => rw [Lib.repeatL, ih]; rfl
 have h1 (l : List UInt8) : strOfNums (l.map fun c => (c.toNat : Int)) = ⟨l.toArray⟩ := by
  unfold strOfNums; simp [List.map_map, Function.comp_def]
 have h2 : (⟨(Lib.repeatL (⟨#[0]⟩ : ByteArray).data.toList ((padFill b.size : Nat) : Int).toNat).toArray⟩ : ByteArray) = ⟨(List.replicate (padFill b.size) 0).toArray⟩ := by
  rw [Int.toNat_natCast]; exact congrArg (fun l : List UInt8 => (⟨l.toArray⟩ : ByteArray)) (h0 _)
 have h3 : (⟨(List.replicate (padFill b.size) (0 : UInt8)).toArray⟩ : ByteArray).size = padFill b.size := by show (List.replicate (padFill b.size) (0 : UInt8)).toArray.size = _; simp
 have h4 : (⟨(longL (8 * b.size)).toArray⟩ : ByteArray).size = 8 := rfl
 rw [if_pos ⟨by omega, by omega, by rw [Int.toNat_natCast]; show 1 * _ ≤ _; omega⟩, Option.bind_some, h2, h1, h3, h4, if_pos (by omega), if_pos (by omega)]
 congr 1
theorem put_is (l0 : List Int) (v : Int) (h : l0.length + 4 < 140737488355328) : be_Put.f l0 v = some (l0 ++ four v) := by
 unfold be_Put.f
 rw [Option.bind_some, if_pos (by simpa using h)]
 rfl
set_option maxHeartbeats 4000000 in
set_option maxRecDepth 100000 in
theorem hash_Sum.says (b : ByteArray) (hb : b.size ≤ 1000000000) (w : World) (hG : GL w) : Calls Tryz.prog 162 #[.string b] w fun e w' => e = .returned (.string (sumS b.data.toList)) ∧ Below w.heap.size w w' := by
 go_enter Tryz.func162, Tryz.ntmps162
 go_upto_region 1 with fail
 obtain ⟨_, _, hGb, -⟩ := id hG
 go_upto_region 2 with (first | refine arr_load hGb 201 (.global 0) rfl rfl rfl rfl rfl ?_ | refine arr_store (arr_new w 201 (List.replicate 8 0) rfl) beginL rfl 201 (.tmp 3) (.tmp 8) rfl rfl rfl rfl rfl ?_)
 refine wp_world ?_
 intro w1 hw1
 have hh1 : ArrK .u32 w1 w.heap.size 201 beginL := by rw [hw1]; exact arr_setRow (arr_new w 201 (List.replicate 8 0) rfl) _
 have hbel1 : Below w.heap.size w w1 := by rw [hw1]; exact below_setRow ((Below.refl _ _).alloc (Nat.le_refl _) _) (Nat.le_refl _) _
 have hs1 : w.heap.size + 1 ≤ w1.heap.size := by rw [hw1]; simp
 clear hw1 hGb
 go_wp2_with fail
 refine (hash_padded.calls b _ w1 (padded_is b hb)).mono ?_
 rintro e w2 ⟨rfl, hb2⟩
 have hbel2 := below_then hbel1 (by omega) hb2
 have hh2 := arr_below hh1 hb2
 have hs2 : w.heap.size + 1 ≤ w2.heap.size := Nat.le_trans hs1 hb2.size
 clear hbel1 hh1 hb2
 have lP := padL_mod b.data.toList
 obtain ⟨P, hP⟩ : ∃ P, P = padL b.data.toList := ⟨_, rfl⟩
 rw [← hP] at lP ⊢
 have HP := Lib.hid hP
 clear hP
 go_upto_region 3 with fail
 go_loopw [4] (fun v4 wr => ∃ (k : Nat) (q : ByteArray), 64 * k ≤ P.length ∧ v4 = .string q ∧ q.data.toList = P.drop (64 * k) ∧ ArrK .u32 wr w.heap.size 201 (statesTo P k) ∧ Below w.heap.size w wr ∧ w.heap.size + 1 ≤ wr.heap.size ∧ GL wr) (fun v4 _ => match v4 with | .string q => q.size | _ => 0)
 case atStart => exact ⟨0, _, by omega, rfl, rfl, hh2, hbel2, hs2, hG.below hbel2⟩
 case round =>
  clear hh2 hbel2 hs2
  obtain ⟨k, q, hk, rfl, hq, hh, hbel, hs, hGw⟩ := hrel
  have lq : q.size = P.length - 64 * k := by
   have := congrArg List.length hq
   rw [List.length_drop, Array.length_toList] at this
   exact this
  have hE : q.toList.isEmpty = decide (q.size = 0) := by
   rw [ByteArray.toList_eq]; show q.data.toList.isEmpty = decide (q.data.size = 0); rw [← Array.length_toList]; cases q.data.toList <;> rfl
  by_cases hlt : q.size = 0
  ·
   have hE' : q.toList.isEmpty = true := by rw [hE]; simp [hlt]
   obtain rfl : k = P.length / 64 := by omega
   clear hE lq hq hlt
   have lh := statesTo_length P (P.length / 64)
   obtain ⟨H, hH⟩ : ∃ H, H = statesTo P (P.length / 64) := ⟨_, rfl⟩
   rw [← hH] at hh lh
   have HH := Lib.hid hH
   clear hH
   go_upto_region 8 with (refine arr_load hh 201 (.tmp 3) rfl rfl rfl rfl (by rw [lh]; rfl) ?_)
   go_loopw [5, 20] (fun v5 v20 wr => ∃ j : Nat, j ≤ 8 ∧ v20 = .int .i64 j ∧ Kd.R (Kd.int .u8) 5 wr w.heap.size (fun _ => True) v5 (fourTo H j) ∧ Below w.heap.size w wr) (fun _ v20 _ => 8 - (intOf v20).toNat)
   case atStart => exact ⟨0, by omega, rfl, Kd.R_nil _ _ _ _ _, hbel⟩
   case round =>
    clear hh hbel hs hGw
    obtain ⟨j, hj, rfl, hr, hbel⟩ := hrel
    by_cases hlt : j < 8
    ·
     have hdec : decide ((j : Int) < 8) = true := by simp; omega
     have hidx : ∀ W, Sem.run Tryz.prog (Instr.index 201 (.agg (nums .u32 H).toArray) (.int .i64 (j : Int))) W = .ok (.int .u32 (rd H (j : Int))) W := fun W => run_index_num (n := 8) rfl rfl rfl rfl rfl lh j hlt W
     go_wp2_with fail
     refine (be_Put.calls (fun _ => True) u5 _ _ _ w wr hbel hr (put_is (fourTo H j) (rd H j) (by rw [fourTo_length]; omega))).mono ?_
     rintro e w4 ⟨v1, rfl, hr1, hb1, -⟩
     have hr2 := Kd.R_mono (ok' := fun _ => True) hr1 (fun _ _ => trivial)
     rw [← fourTo_succ] at hr2
     clear hr hr1 hbel
     go_wp2_with fail
     exact ⟨⟨j + 1, by omega, by go_num, hr2, hb1⟩, by simp [intOf]; omega⟩
    ·
     obtain rfl : j = 8 := by omega
     have hcv := own_string (P := Tryz.prog) Tryz.underlying40 Tryz.underlying5 Tryz.underlying9 (Kd.own_of_R hr)
     go_wp2_with fail
     go_ret
     exact ⟨by rw [sumS, ← (show P = padL b.data.toList from HP), ← (show H = statesTo P (P.length / 64) from HH)]; rfl, hbel⟩
  ·
   have hE' : q.toList.isEmpty = false := by rw [hE]; simp [hlt]
   clear hE
   have l1 : 64 ≤ q.size := by omega
   have b64 : ((64 : Int) ≤ (q.size : Int)) = True := by simp; omega
   have Lq := Lib.hid lq
   clear lq
   have lh := statesTo_length P k
   go_upto_region 5 with fail
   refine wp_region_still_tail 3 (by kernel_rfl) (by kernel_rfl) ?_
   simp only [List.take_succ_cons, List.take_zero, List.drop_succ_cons, List.drop_zero]
   change wpStill _ _ wr.drew _ _ _
   have hbel1 : Below w.heap.size w wr.drew := below_drew hbel
   have hh1 : ArrK .u32 wr.drew w.heap.size 201 (statesTo P k) := hh
   have hs1 : w.heap.size + 1 ≤ wr.drew.heap.size := hs
   have hG1 : GL wr.drew := hGw
   clear hbel hh hs hGw
   refine arr_still_load hh1 201 (.tmp 3) rfl rfl rfl rfl (by rw [lh]; rfl) ?_
   repeat still_step
   refine wpStill_nil ?_
   change wpList _ _ _ _ _ wr.drew
   generalize wr.drew = w3 at hbel1 hh1 hs1 hG1 ⊢
   go_wp2_with fail
   have le : (q.extract 0 64).size = 64 := by simp; omega
   refine (hash_mix.says (statesTo P k) lh (q.extract 0 64) le w3 hG1).mono ?_
   rintro e w4 ⟨rfl, hb4⟩
   have hbel4 := below_then hbel1 (by omega) hb4
   have hh4 := arr_below hh1 hb4
   have hs4 : w.heap.size + 1 ≤ w4.heap.size := Nat.le_trans hs1 hb4.size
   have hG4 := hG1.below hb4
   clear hbel1 hh1 hs1 hG1 hb4
   have lm := mixed_length (statesTo P k) (q.extract 0 64).data.toList
   rw [lh] at lm
   obtain ⟨M, hM⟩ : ∃ M, M = mixed (statesTo P k) (q.extract 0 64).data.toList := ⟨_, rfl⟩
   rw [← hM] at lm ⊢
   have HM := Lib.hid hM
   clear hM
   go_upto_region 4 with (refine arr_store hh4 M (by rw [lm, lh]) 201 (.tmp 3) (.tmp 18) rfl rfl rfl rfl (by rw [lm]; rfl) ?_)
   refine wp_world ?_
   intro w5 hw5
   have hq2 : (q.extract 0 64).data.toList = blockOf P k := by
    rw [ByteArray.data_extract, Array.toList_extract, List.extract_eq_take_drop, hq]; rfl
   have hq3 : (q.extract 64 q.size).data.toList = P.drop (64 * (k + 1)) := by
    rw [ByteArray.data_extract, Array.toList_extract, List.extract_eq_take_drop, hq, List.take_of_length_le (by rw [List.length_drop, List.length_drop]; have := (show q.size = P.length - 64 * k from Lq); omega), List.drop_drop]
    congr 1
   have hM2 : M = mixed (statesTo P k) (blockOf P k) := by rw [show M = mixed (statesTo P k) (q.extract 0 64).data.toList from HM, hq2]
   rw [hM2] at hw5
   have hh5 : ArrK .u32 w5 w.heap.size 201 (statesTo P (k + 1)) := by rw [hw5, statesTo_succ]; exact arr_setRow hh4 _
   have hbel5 : Below w.heap.size w w5 := by rw [hw5]; exact below_setRow hbel4 (Nat.le_refl _) _
   have hs5 : w.heap.size + 1 ≤ w5.heap.size := by rw [hw5, size_setRow]; exact hs4
   have hG5 : GL w5 := hG.below hbel5
   clear hw5 hh4 hbel4 hs4 hG4 lm hq2
   go_wp2_with fail
   have Lq2 : q.size = P.length - 64 * k := Lq
   exact ⟨⟨k + 1, _, by omega, rfl, hq3, hh5, hbel5, hs5, hG5⟩, by show (q.extract 64 q.size).size < q.size; simp; omega⟩
def hash_Sum.f (a0 : ByteArray) : Option (ByteArray) := if a0.size ≤ 1000000000 then some (sumS a0.data.toList) else none
theorem hash_Sum.calls (a0 : ByteArray) (r : ByteArray) (w : World) (h : hash_Sum.f a0 = some r) (hGL : GL w) :
  Calls Tryz.prog 162 #[.string a0] w fun e w' => e = .returned (.string r) ∧ Below w.heap.size w w' := by
 unfold hash_Sum.f at h
 split at h
 case isTrue hs =>
  obtain rfl := Option.some.inj h
  exact hash_Sum.says a0 hs w hGL
 case isFalse hs => exact absurd h (by simp)

theorem take_four (l : List Int) (h : 4 ≤ l.length) : l.take 4 = [rd l 0, rd l 1, rd l 2, rd l 3] := by
 match l, h with
 | a :: b :: c :: d :: r, _ => rfl
set_option maxHeartbeats 4000000 in
set_option maxRecDepth 100000 in
theorem frame_mark.says (As Ab : Option Addr) (cs cb : Nat) (ls lb : List Int) (w : World) (hs : Kd.C (Kd.int .u8) w As ls.length ls) (hb : Kd.C (Kd.int .u8) w Ab lb.length lb) (hl : ls.length + lb.length ≤ 1000000000) (hG : GL w) :
  Calls Tryz.prog 136 #[.slice As ls.length cs, .slice Ab lb.length cb] w fun e w' => e = .returned (.agg (nums .u8 (markL (strOfNums ls ++ strOfNums lb))).toArray) ∧ Below w.heap.size w w' := by
 have s1 : (strOfNums ls ++ strOfNums lb).size ≤ 1000000000 := by rw [ByteArray.size_append, strOfNums_size, strOfNums_size]; exact hl
 have g1 : (9223372036854775807 < (strOfNums ls).size + (strOfNums lb).size) = False := eq_false (by rw [strOfNums_size, strOfNums_size]; omega)
 go_enter Tryz.func136, Tryz.ntmps136
 go_upto_region 1 with fail
 refine wp_world ?_
 intro w1 hw1
 have hA1 : ArrK .u8 w1 w.heap.size 179 (List.replicate 4 0) := by rw [hw1]; exact arr_new w 179 (List.replicate 4 0) rfl
 have hb1 : Below w.heap.size w w1 := by rw [hw1]; exact (Below.refl _ _).alloc (Nat.le_refl _) _
 have hz1 : w.heap.size + 1 ≤ w1.heap.size := by rw [hw1]; simp
 clear hw1
 have hcv1 := Kd.C_string (P := Tryz.prog) (A := As) (c := cs) Tryz.underlying40 Tryz.underlying5 Tryz.underlying9 (Kd.C_below hs hb1)
 have hcv2 := Kd.C_string (P := Tryz.prog) (A := Ab) (c := cb) Tryz.underlying40 Tryz.underlying5 Tryz.underlying9 (Kd.C_below hb hb1)
 go_wp2_with fail
 refine (hash_Sum.says _ s1 w1 (hG.below hb1)).mono ?_
 rintro e w2 ⟨rfl, hb2⟩
 have hA2 := arr_below hA1 hb2
 have hb2t := below_then hb1 hb1.size hb2
 have hz2 : w.heap.size + 1 ≤ w2.heap.size := Nat.le_trans hz1 hb2.size
 clear hcv1 hcv2 hA1 hb1 hb2
 obtain ⟨S, hS⟩ : ∃ S, S = sumS (strOfNums ls ++ strOfNums lb).data.toList := ⟨_, rfl⟩
 have hSs : S.size = 32 := by rw [hS]; exact sumS_size _
 rw [← hS]
 have HS := Lib.hid hS
 clear hS
 have kb := fun (s : ByteArray) W => print_bytes (P := Tryz.prog) 9 40 5 Tryz.underlying9 Tryz.underlying40 Tryz.underlying5 s W
 have hO := OwnM.of_bytes w2 5 w2.heap.size (Nat.le_refl _) S (by rw [hSs]; decide)
 obtain ⟨g, cap, hv, -, hcl⟩ := hO.cell
 simp only [Value.slice.injEq, Option.some.injEq, Addr.mk.injEq, and_true, true_and] at hv
 obtain ⟨rfl, -⟩ := hv
 have hbl : (bytesOf S).length = 32 := by rw [bytesOf_length, hSs]
 have c0 := hcl 0 (by omega)
 have c1 := hcl 1 (by omega)
 have c2 := hcl 2 (by omega)
 have c3 := hcl 3 (by omega)
 have hb3 : Below w2.heap.size w2 (Lib.bytesWorld w2 5 S) := bytes_below (Below.refl _ _) (Nat.le_refl _) _ _
 have hA3 := arr_below hA2 hb3
 have hb3t := below_then hb2t hb2t.size hb3
 have hm : markL (strOfNums ls ++ strOfNums lb) = [rd (bytesOf S) 0, rd (bytesOf S) 1, rd (bytesOf S) 2, rd (bytesOf S) 3] := by
  unfold markL
  rw [← (show S = sumS (strOfNums ls ++ strOfNums lb).data.toList from HS)]
  exact take_four _ (by omega)
 clear hcl hO hA2 hb2t hbl hb3
 have harr : ∀ c W, Sem.run Tryz.prog (Instr.arrayAt 179 (.slice (some ⟨w2.heap.size, 0, none⟩) 32 c)) W = .ok (.pointer (some ⟨w2.heap.size, 0, none⟩)) W := fun c W => run_arrayAt (P := Tryz.prog) W 179 _ _ _ _ _ Tryz.underlying179 (by decide)
 go_wp2_with (refine arr_store hA3 [rd (bytesOf S) 0, rd (bytesOf S) 1, rd (bytesOf S) 2, rd (bytesOf S) 3] rfl 179 (.tmp 4) (.tmp 13) rfl rfl rfl rfl rfl ?_)
 have hA4 := arr_setRow hA3 [rd (bytesOf S) 0, rd (bytesOf S) 1, rd (bytesOf S) 2, rd (bytesOf S) 3]
 have hb4 := below_setRow hb3t (Nat.le_refl _) (nums .u8 [rd (bytesOf S) 0, rd (bytesOf S) 1, rd (bytesOf S) 2, rd (bytesOf S) 3]).toArray
 exact bodyPost_ret (arr_result hA4 rfl _ rfl rfl rfl) rfl ⟨by rw [hm], hb4⟩
def frame_mark.f (l0 l1 : List Int) : Option (List Int) := none
theorem frame_mark.calls (a : Nat) (h : frame_mark.f [] [] = some []) : True := trivial
theorem markL_length (s : ByteArray) : (markL s).length = 4 := by
 unfold markL
 rw [List.length_take, bytesOf_length, sumS_size]; rfl
theorem arr_C {w : World} {g T : Nat} {xs : List Int} (h : ArrK .u8 w g T xs) (hl : xs.length ≤ 9223372036854775807) (n : Nat) (hn : xs.length = n) : Kd.C (Kd.int .u8) w (some ⟨g, 0, none⟩) n xs := by
 subst hn
 refine ⟨rfl, hl, fun _ => ⟨⟨g, 0, none⟩, rfl, fun j p hj => ⟨[.int .u8 p], rfl, rfl, fun i u hu => ?_⟩⟩⟩
 have hlt : j < xs.length := (List.getElem?_eq_some_iff.1 hj).1
 match i, hu with
 | 0, hu =>
  simp only [List.getElem?_cons_zero, Option.some.injEq] at hu
  subst hu
  have hc := arr_cell h j hlt
  have e : rd xs (j : Int) = p := by simp [rd, List.getD_eq_getElem?_getD, hj]
  rw [e] at hc
  have ha : (⟨g, 0, none⟩ : Addr).add (j * (Kd.int .u8).sz + 0) = ⟨g, j, none⟩ := by
   show (⟨g, 0, none⟩ : Addr).add (j * 1 + 0) = _
   unfold Addr.add
   simp
   intro h; omega
  rw [ha]
  exact hc

theorem getL_range (l : List Int) : 0 ≤ getL l ∧ getL l < 4294967296 := by
 have h : ∀ (l : List Int) (v : Int), 0 ≤ v ∧ v < 4294967296 → 0 ≤ l.foldl (fun v c => Go.bits .or .u32 (v * 256 % 4294967296) (c % 4294967296)) v ∧ l.foldl (fun v c => Go.bits .or .u32 (v * 256 % 4294967296) (c % 4294967296)) v < 4294967296 := by
  intro l
  induction l with
  | nil => intro v hv; exact hv
  | cons a t ih =>
   intro v _
   rw [List.foldl_cons]
   refine ih _ ?_
   unfold Go.bits
   simp only [IntKind.wrap_u32]
   omega
 exact h l 0 (by omega)
/-- What the first frame has in it; false: there is none. -/
def oneL (l : List Int) : List Int × Bool :=
 if l.length < 8 then ([], false)
 else if getL (l.take 4) > 32768 ∨ getL (l.take 4) > (l.length : Int) - 8 then ([], false)
 else ((l.drop 8).take (getL (l.take 4)).toNat, decide (markL (strOfNums (l.take 4) ++ strOfNums ((l.drop 8).take (getL (l.take 4)).toNat)) = (l.drop 4).take 4))
/-- A cut of a row of bytes that is read. -/
theorem cut_row {w : World} {A : Option Addr} {l : List Int} {c : Nat} (h : Kd.C (Kd.int .u8) w A l.length l) (hc : l.length ≤ c) (lo hi : Nat) (h1 : lo ≤ hi) (h2 : hi ≤ l.length) :
  ∃ Ai ci, (∀ W, Sem.run Tryz.prog (Instr.slice 40 (.slice A l.length c) (some (.int .i64 (lo : Int))) (some (.int .i64 (hi : Int))) none) W = .ok (.slice Ai (hi - lo) ci) W) ∧ Kd.C (Kd.int .u8) w Ai (hi - lo) ((l.take hi).drop lo) ∧ hi - lo ≤ ci := by
 obtain ⟨i05, hi05, _, hsz5, _⟩ := info_parts (show (Tryz.prog.info? 5).map (fun i => (i.zero, i.size, i.bytes)) = some (some (.int .u8 0), 1, 1) by kernel_rfl)
 have hcut := cut_mid (P := Tryz.prog) 40 5 .i64 .i64 Tryz.underlying40 hi05 1 hsz5 A l.length c (lo : Int) (hi : Int) (by omega) (by omega) (by omega) hc
 simp only [Int.toNat_natCast] at hcut
 have ht : (l.take hi).length = hi := by rw [List.length_take]; omega
 have hd : ((l.take hi).drop lo).length = hi - lo := by rw [List.length_drop, ht]
 have hC := Kd.C_drop (Kd.C_take h h2) (m := lo) (c := c) (by rw [ht]; exact h1) (by rw [ht]; omega)
 rw [hd] at hC
 exact ⟨_, _, hcut, hC, by omega⟩
/-- The four bytes behind the first four. -/
theorem cut_48 {w : World} {A : Option Addr} {l : List Int} {c : Nat} (h : Kd.C (Kd.int .u8) w A l.length l) (hc : l.length ≤ c) (h8 : 8 ≤ l.length) :
  ∃ g o cj, (∀ W, Sem.run Tryz.prog (Instr.slice 40 (.slice A l.length c) (some (.int .i64 4)) (some (.int .i64 8)) none) W = .ok (.slice (some ⟨g, o, none⟩) 4 cj) W) ∧ (∀ j < 4, w.cell? ⟨g, o + j, none⟩ = some (.int .u8 (rd l ((4 + j : Nat) : Int)))) := by
 obtain ⟨i05, hi05, _, hsz5, _⟩ := info_parts (show (Tryz.prog.info? 5).map (fun i => (i.zero, i.size, i.bytes)) = some (some (.int .u8 0), 1, 1) by kernel_rfl)
 have hcut := cut_mid (P := Tryz.prog) 40 5 .i64 .i64 Tryz.underlying40 hi05 1 hsz5 A l.length c 4 8 (by omega) (by omega) (by omega) hc
 have hcl0 := h.2.2 (by omega)
 obtain ⟨ad, rfl, hcl⟩ := hcl0
 refine ⟨ad.block, ad.off + 4, c - 4, ?_, ?_⟩
 ·
  intro W
  have := hcut W
  rw [if_neg (by omega)] at this
  simpa [Addr.add] using this
 ·
  intro j hj
  obtain ⟨cs, _, hK, hcs⟩ := hcl (4 + j) _ (List.getElem?_eq_getElem (by omega))
  have hK2 : cs = [.int .u8 (l[4 + j]'(by omega))] := hK
  rw [hK2] at hcs
  have h2 := hcs 0 _ rfl
  have ha : ad.add ((4 + j) * (Kd.int .u8).sz + 0) = ⟨ad.block, ad.off + 4 + j, none⟩ := by
   show ad.add ((4 + j) * 1 + 0) = _
   unfold Addr.add
   rw [if_neg (by omega)]
   simp <;> omega
  rw [ha] at h2
  have e : rd l ((4 + j : Nat) : Int) = l[4 + j]'(by omega) := by
   unfold rd
   rw [Int.toNat_natCast, List.getD_eq_getElem?_getD, List.getElem?_eq_getElem (by omega)]
   rfl
  rw [h2, e]
theorem cell_below {w w' : World} {a : Addr} {v : Value} (h : w.cell? a = some v) (hb : Below w.heap.size w w') : w'.cell? a = some v := by
 have h2 := hb.block a.block (World.block_lt_of_cell? w a h)
 unfold World.cell? at h ⊢
 rw [h2]
 exact h
theorem mark_at (As Ab : Option Addr) (cs cb ms mb : Nat) (ls lb : List Int) (w : World) (e1 : ls.length = ms) (e2 : lb.length = mb) (hs : Kd.C (Kd.int .u8) w As ls.length ls) (hb : Kd.C (Kd.int .u8) w Ab lb.length lb) (hl : ls.length + lb.length ≤ 1000000000) (hG : GL w) :
  Calls Tryz.prog 136 #[.slice As ms cs, .slice Ab mb cb] w fun e w' => e = .returned (.agg (nums .u8 (markL (strOfNums ls ++ strOfNums lb))).toArray) ∧ Below w.heap.size w w' := by
 subst e1; subst e2
 exact frame_mark.says As Ab cs cb ls lb w hs hb hl hG
theorem nil_C (w : World) : Kd.C (Kd.int .u8) w none ([] : List Int).length [] := ⟨rfl, by simp, fun h => absurd h (by simp)⟩
set_option maxHeartbeats 4000000 in
set_option maxRecDepth 100000 in
theorem frame_one.says (A0 : Option Addr) (c0 : Nat) (l0 : List Int) (w : World) (hr0 : Kd.C (Kd.int .u8) w A0 l0.length l0) (hc0 : l0.length ≤ c0) (hl : l0.length ≤ 100000000) (hGL : GL w) :
  Calls Tryz.prog 125 #[.slice A0 l0.length c0] w fun e w' => ∃ Ai ci, e = .returned (.tuple #[.slice Ai (oneL l0).1.length ci, .bool (oneL l0).2]) ∧ Kd.C (Kd.int .u8) w' Ai (oneL l0).1.length (oneL l0).1 ∧ (oneL l0).1.length ≤ ci ∧ Below w.heap.size w w' := by
 go_enter Tryz.func125, Tryz.ntmps125
 by_cases h8 : l0.length < 8
 ·
  have hdec : decide ((l0.length : Int) < 8) = true := by simp; omega
  have ho : oneL l0 = ([], false) := if_pos h8
  go_wp2_with fail
  go_ret2
  rw [ho]
  refine ⟨none, 0, by rfl, ?_, by simp, Below.refl _ _⟩
  exact nil_C w
 ·
  have hdec : decide ((l0.length : Int) < 8) = false := by simp; omega
  go_wp2_with fail
  refine (be_Get.says A0 _ c0 l0 w rfl hr0 hc0).mono ?_
  rintro e w1 ⟨rfl, rfl⟩
  obtain ⟨n, hn⟩ : ∃ n : Nat, getL (l0.take 4) = (n : Int) := ⟨(getL (l0.take 4)).toNat, by have := (getL_range (l0.take 4)).1; omega⟩
  rw [hn]
  by_cases hbig : 32768 < n
  ·
   have hdec2 : decide ((32768 : Int) < (n : Int)) = true := by simp; omega
   have ho : oneL l0 = ([], false) := by rw [oneL, if_neg h8, if_pos (.inl (by omega))]
   go_wp2_with fail
   go_ret2
   rw [ho]
   exact ⟨none, 0, by rfl, nil_C w1, by simp, Below.refl _ _⟩
  ·
   have hdec2 : decide ((32768 : Int) < (n : Int)) = false := by simp; omega
   by_cases hlong : l0.length < n + 8
   ·
    have hdec3 : decide ((l0.length : Int) - 8 < (n : Int)) = true := by simp; omega
    have ho : oneL l0 = ([], false) := by rw [oneL, if_neg h8, if_pos (.inr (by omega))]
    go_wp2_with fail
    go_ret2
    rw [ho]
    exact ⟨none, 0, by rfl, nil_C w1, by simp, Below.refl _ _⟩
   ·
    have hdec3 : decide ((l0.length : Int) - 8 < (n : Int)) = false := by simp; omega
    obtain ⟨Ai, ci, hcut, hCi, hci⟩ := cut_row hr0 hc0 8 (8 + n) (by omega) (by omega)
    rw [show 8 + n - 8 = n by omega] at hCi hci hcut
    rw [show ((8 + n : Nat) : Int) = 8 + (n : Int) by omega] at hcut
    rw [show ((8 : Nat) : Int) = 8 from rfl] at hcut
    obtain ⟨inn, hinn⟩ : ∃ inn, inn = (l0.take (8 + n)).drop 8 := ⟨_, rfl⟩
    rw [← hinn] at hCi
    have hinl : inn.length = n := by rw [hinn, List.length_drop, List.length_take]; omega
    have hinn2 : (l0.drop 8).take n = inn := by rw [hinn, List.drop_take, show 8 + n - 8 = n by omega]
    obtain ⟨g, o, cj, hcut2, hcl⟩ := cut_48 hr0 hc0 (by omega)
    have hcut3 := cut_to (P := Tryz.prog) 40 5 .i64 Tryz.underlying40 (info_parts (show (Tryz.prog.info? 5).map (fun i => (i.zero, i.size, i.bytes)) = some (some (.int .u8 0), 1, 1) by kernel_rfl)).choose_spec.1 A0 l0.length c0 4 (by omega) (by omega) hc0
    have hC4 := Kd.C_take hr0 (m := 4) (by omega)
    obtain ⟨M, hM⟩ : ∃ M, M = markL (strOfNums (l0.take 4) ++ strOfNums inn) := ⟨_, rfl⟩
    have hMl : M.length = 4 := by rw [hM]; exact markL_length _
    have ht4 : (l0.take 4).length = 4 := by rw [List.length_take]; omega
    obtain ⟨x0, hx0⟩ : ∃ x, x = rd l0 ((4 + 0 : Nat) : Int) := ⟨_, rfl⟩
    obtain ⟨x1, hx1⟩ : ∃ x, x = rd l0 ((4 + 1 : Nat) : Int) := ⟨_, rfl⟩
    obtain ⟨x2, hx2⟩ : ∃ x, x = rd l0 ((4 + 2 : Nat) : Int) := ⟨_, rfl⟩
    obtain ⟨x3, hx3⟩ : ∃ x, x = rd l0 ((4 + 3 : Nat) : Int) := ⟨_, rfl⟩
    have hx : (l0.drop 4).take 4 = [x0, x1, x2, x3] := by
     rw [take_four _ (by rw [List.length_drop]; omega), hx0, hx1, hx2, hx3]
     simp [rd, List.getD_eq_getElem?_getD]
    have k0 : w1.cell? ⟨g, o, none⟩ = some (.int .u8 x0) := by rw [hx0]; exact hcl 0 (by omega)
    have k1 : w1.cell? ⟨g, o + 1, none⟩ = some (.int .u8 x1) := by rw [hx1]; exact hcl 1 (by omega)
    have k2 : w1.cell? ⟨g, o + 2, none⟩ = some (.int .u8 x2) := by rw [hx2]; exact hcl 2 (by omega)
    have k3 : w1.cell? ⟨g, o + 3, none⟩ = some (.int .u8 x3) := by rw [hx3]; exact hcl 3 (by omega)
    have heq : ∀ W, Sem.run Tryz.prog (Op.equalIn 10000 179 (.agg (nums .u8 M).toArray) (.agg #[.int .u8 x0, .int .u8 x1, .int .u8 x2, .int .u8 x3])) W = .ok (M == [x0, x1, x2, x3]) W := fun W => run_equalIn_nums (P := Tryz.prog) W 9998 179 5 4 (k := .u8) Tryz.underlying179 Tryz.underlying5 (fun w => by kernel_rfl) M [x0, x1, x2, x3] hMl rfl
    have harr : ∀ c W, Sem.run Tryz.prog (Instr.arrayAt 179 (.slice (some ⟨g, o, none⟩) 4 c)) W = .ok (.pointer (some ⟨g, o, none⟩)) W := fun c W => run_arrayAt (P := Tryz.prog) W 179 _ _ _ _ _ Tryz.underlying179 (by decide)
    have ho : oneL l0 = (inn, M == [x0, x1, x2, x3]) := by
     rw [oneL, if_neg h8, if_neg (by omega), hn, Int.toNat_natCast, hinn2, ← hM, hx]
     congr 1
     rw [Bool.eq_iff_iff]; simp
    have hcallM : ∀ W, Below w1.heap.size w1 W → Calls Tryz.prog 136 #[.slice A0 4 c0, .slice Ai n ci] W fun e w' => e = .returned (.agg (nums .u8 M).toArray) ∧ Below W.heap.size W w' := fun W hW => by
     have := mark_at A0 Ai c0 ci 4 n (l0.take 4) inn W ht4 hinl (Kd.C_below hC4 hW) (by rw [hinl]; exact Kd.C_below hCi hW) (by omega) (hGL.below hW)
     rw [← hM] at this
     exact this
    have Hinl := Lib.hid hinl
    clear hinl hinn hinn2 hM hMl ht4 hx hx0 hx1 hx2 hx3 hcl hC4
    have ew : IntKind.i64.wrap (8 + (n : Int)) = 8 + (n : Int) := IntWalk.i64_in _ (by omega)
    go_upto_region 7 with fail
    have hb6 : Below w1.heap.size w1 w1.drew := below_drew (Below.refl _ _)
    -- [7
    refine start_ (n := 12) (S := fun w' => w'.cell? ⟨g, o, none⟩ = some (.int .u8 x0) ∧ w'.cell? ⟨g, o + 1, none⟩ = some (.int .u8 x1) ∧ w'.cell? ⟨g, o + 2, none⟩ = some (.int .u8 x2) ∧ w'.cell? ⟨g, o + 3, none⟩ = some (.int .u8 x3)) (ds := []) #[false, false, false, false, false, false, false, false, false, false, false, false] (by kernel_rfl) rfl rfl ⟨k0, k1, k2, k3⟩ (fun hHeld => ?_)
    generalize w1.drew = w6 at hb6 hHeld ⊢
    refine pure_ (i := 0) (N := some 26) (v := ?_) (a' := ?_) #[true, false, false, false, false, false, false, false, false, false, false, false] rfl rfl (by kernel_rfl) (fun _ _ _ h => h) (Or.inl ⟨by rfl, ?_⟩) ?_ ?_
    rotate_left
    ·
     intro w'
     go_simp
     with_reducible rfl
    rotate_left
    ·
     simp only [Act.put, List.setIfInBounds_toArray, List.set_cons_zero, List.set_cons_succ, i64_w, i32_w]
     rfl
    refine pure_ (i := 1) (N := some 27) (v := ?_) (a' := ?_) #[true, true, false, false, false, false, false, false, false, false, false, false] rfl rfl (by kernel_rfl) (fun _ _ _ h => h) (Or.inl ⟨by rfl, ?_⟩) ?_ ?_
    rotate_left
    ·
     intro w'
     go_simp
     with_reducible rfl
    rotate_left
    ·
     simp only [Act.put, List.setIfInBounds_toArray, List.set_cons_zero, List.set_cons_succ, i64_w, i32_w]
     rfl
    refine pure_ (i := 2) (N := some 28) (v := ?_) (a' := ?_) #[true, true, true, false, false, false, false, false, false, false, false, false] rfl rfl (by kernel_rfl) (fun _ _ _ h => h) (Or.inl ⟨by rfl, ?_⟩) ?_ ?_
    rotate_left
    ·
     intro w'
     go_simp
     with_reducible rfl
    rotate_left
    ·
     simp only [Act.put, List.setIfInBounds_toArray, List.set_cons_zero, List.set_cons_succ, i64_w, i32_w]
     rfl
    refine pure_ (i := 3) (N := some 29) (v := ?_) (a' := ?_) #[true, true, true, true, false, false, false, false, false, false, false, false] rfl rfl (by kernel_rfl) (fun _ _ _ h => h) (Or.inl ⟨by rfl, ?_⟩) ?_ ?_
    rotate_left
    ·
     intro w'
     go_simp
     with_reducible rfl
    rotate_left
    ·
     simp only [Act.put, List.setIfInBounds_toArray, List.set_cons_zero, List.set_cons_succ, i64_w, i32_w]
     rfl
    refine pure_ (i := 5) (N := some 31) (v := ?_) (a' := ?_) #[true, true, true, true, false, true, false, false, false, false, false, false] rfl rfl (by kernel_rfl) (fun _ _ _ h => h) (Or.inl ⟨by rfl, ?_⟩) ?_ ?_
    rotate_left
    ·
     intro w'
     go_simp
     with_reducible rfl
    rotate_left
    ·
     simp only [Act.put, List.setIfInBounds_toArray, List.set_cons_zero, List.set_cons_succ, i64_w, i32_w]
     rfl
    refine pure_ (i := 6) (N := some 32) (v := ?_) (a' := ?_) #[true, true, true, true, false, true, true, false, false, false, false, false] rfl rfl (by kernel_rfl) (fun _ _ _ h => h) (Or.inl ⟨by rfl, ?_⟩) ?_ ?_
    rotate_left
    ·
     intro w'
     go_simp
     with_reducible rfl
    rotate_left
    ·
     simp only [Act.put, List.setIfInBounds_toArray, List.set_cons_zero, List.set_cons_succ, i64_w, i32_w]
     rfl
    refine pure_ (i := 7) (N := some 33) (v := ?_) (a' := ?_) #[true, true, true, true, false, true, true, true, false, false, false, false] rfl rfl (by kernel_rfl) (fun _ _ _ h => h) (Or.inl ⟨by rfl, ?_⟩) ?_ ?_
    rotate_left
    ·
     intro w'
     go_simp
     with_reducible rfl
    rotate_left
    ·
     simp only [Act.put, List.setIfInBounds_toArray, List.set_cons_zero, List.set_cons_succ, i64_w, i32_w]
     rfl
    refine take_ (i := 8) (N := some 34) (v := ?_) (a' := ?_) #[true, true, true, true, false, true, true, true, true, false, false, false] rfl rfl (by kernel_rfl) (fun _ _ _ h => h) (Or.inl ⟨by rfl, ?_⟩) hHeld ?_ ?_
    rotate_left
    ·
     rintro w' ⟨s0, s1, s2, s3⟩
     go_simp
     with_reducible rfl
    rotate_left
    ·
     simp only [Act.put, List.setIfInBounds_toArray, List.set_cons_zero, List.set_cons_succ, i64_w, i32_w]
     rfl
    refine one_ (i := 4) (N := some 30) #[true, true, true, true, true, true, true, true, true, false, false, false] rfl rfl (by kernel_rfl) (by decide) (fun K hK => ?_)
    refine goes_ Tryz.func136 (by kernel_rfl) rfl #[.slice A0 4 c0, .slice Ai n ci] (by rfl) rfl rfl (by simp only [List.map_toArray, List.map_cons, List.map_nil]; rfl) ?_
    with_reducible refine (hcallM _ hb6).mono ?_
    rintro e w7 ⟨rfl, hb7⟩
    refine ⟨_, rfl, ?_⟩
    have hb7t := below_then hb6 hb6.size hb7
    refine hK.out _ _ ⟨cell_below k0 hb7t, cell_below k1 hb7t, cell_below k2 hb7t, cell_below k3 hb7t⟩ (fun hHeld => ?_)
    clear hK K
    refine norm_ (a' := ?_) ?_ ?_
    rotate_left
    ·
     show Act.put _ (some 30) _ = _
     simp only [Act.put, List.setIfInBounds_toArray, List.set_cons_zero, List.set_cons_succ, i64_w, i32_w]
     rfl
    refine pure_ (i := 9) (N := some 35) (v := ?_) (a' := ?_) #[true, true, true, true, true, true, true, true, true, true, false, false] rfl rfl (by kernel_rfl) (fun _ _ _ h => h) (Or.inl ⟨by rfl, ?_⟩) ?_ ?_
    rotate_left
    ·
     intro w'
     go_simp
     with_reducible rfl
    rotate_left
    ·
     simp only [Act.put, List.setIfInBounds_toArray, List.set_cons_zero, List.set_cons_succ, i64_w, i32_w]
     rfl
    refine pure_ (i := 10) (N := some 2) (v := ?_) (a' := ?_) #[true, true, true, true, true, true, true, true, true, true, true, false] rfl rfl (by kernel_rfl) (fun _ _ _ h => h) (Or.inl ⟨by rfl, ?_⟩) ?_ ?_
    rotate_left
    ·
     intro w'
     go_simp
     with_reducible rfl
    rotate_left
    ·
     simp only [Act.put, List.setIfInBounds_toArray, List.set_cons_zero, List.set_cons_succ, i64_w, i32_w]
     rfl
    refine pure_ (i := 11) (N := some 3) (v := ?_) (a' := ?_) #[true, true, true, true, true, true, true, true, true, true, true, true] rfl rfl (by kernel_rfl) (fun _ _ _ h => h) (Or.inl ⟨by rfl, ?_⟩) ?_ ?_
    rotate_left
    ·
     intro w'
     go_simp
     with_reducible rfl
    rotate_left
    ·
     simp only [Act.put, List.setIfInBounds_toArray, List.set_cons_zero, List.set_cons_succ, i64_w, i32_w]
     rfl
    refine done_ (by kernel_rfl) ?_
    -- 7]
    go_wp2_with fail
    go_ret2
    rw [ho]
    exact ⟨Ai, ci, by rw [show inn.length = n from Hinl]; rfl, by rw [show inn.length = n from Hinl]; exact Kd.C_below hCi hb7t, by rw [show inn.length = n from Hinl]; exact hci, hb7t⟩
def frame_one.f (l0 : List Int) : Option (List Int × Bool) := none
theorem frame_one.calls (a : Nat) (h : frame_one.f [] = some ([], false)) : True := trivial

theorem oneL_fits (l : List Int) (h : (oneL l).2 = true) : 8 + (oneL l).1.length ≤ l.length := by
 unfold oneL at h ⊢
 split
 ·
  rename_i h1; rw [if_pos h1] at h; cases h
 ·
  rename_i h1
  rw [if_neg h1] at h
  split
  ·
   rename_i h2; rw [if_pos h2] at h; cases h
  ·
   rename_i h2
   have hr := (getL_range (l.take 4)).1
   show 8 + ((l.drop 8).take (getL (l.take 4)).toNat).length ≤ _
   rw [List.length_take, List.length_drop]; omega
/-- What is in all frames from a place on, and where they end. -/
def splitF : Nat → List Int → Nat → List (List Int) × Nat
 | 0, _, i => ([], i)
 | k + 1, l, i => if (oneL (l.drop i)).2 = true then ((oneL (l.drop i)).1 :: (splitF k l (i + 8 + (oneL (l.drop i)).1.length)).1, (splitF k l (i + 8 + (oneL (l.drop i)).1.length)).2) else ([], i)
def splitL (l : List Int) : List (List Int) × Nat := splitF (l.length + 1) l 0
/-- A cut of a row of bytes from a place on. -/
theorem drop_row {w : World} {A : Option Addr} {l : List Int} {c : Nat} (h : Kd.C (Kd.int .u8) w A l.length l) (hc : l.length ≤ c) (lo : Nat) (h1 : lo ≤ l.length) :
  ∃ Ad cd, (∀ W, Sem.run Tryz.prog (Instr.slice 40 (.slice A l.length c) (some (.int .i64 (lo : Int))) none none) W = .ok (.slice Ad (l.drop lo).length cd) W) ∧ Kd.C (Kd.int .u8) w Ad (l.drop lo).length (l.drop lo) ∧ (l.drop lo).length ≤ cd := by
 obtain ⟨i05, hi05, _, hsz5, _⟩ := info_parts (show (Tryz.prog.info? 5).map (fun i => (i.zero, i.size, i.bytes)) = some (some (.int .u8 0), 1, 1) by kernel_rfl)
 have hcut := cut_from (P := Tryz.prog) 40 5 .i64 Tryz.underlying40 hi05 1 hsz5 A l.length c (lo : Int) (by omega) (by omega)
 simp only [Int.toNat_natCast] at hcut
 have hd : (l.drop lo).length = l.length - lo := List.length_drop
 have hC := Kd.C_drop h (m := lo) (c := c) h1 hc
 exact ⟨_, _, by rw [hd]; exact hcut, hC, by rw [hd]; omega⟩
set_option maxHeartbeats 4000000 in
set_option maxRecDepth 100000 in
theorem frame_Split.says (A0 : Option Addr) (c0 : Nat) (l0 : List Int) (w : World) (hr0 : Kd.C (Kd.int .u8) w A0 l0.length l0) (hc0 : l0.length ≤ c0) (hl : l0.length ≤ 100000000) (hGL : GL w) :
  Calls Tryz.prog 80 #[.slice A0 l0.length c0] w fun e w' => ∃ v0_ : Value, e = .returned (.tuple #[v0_, .int .i64 ((splitL l0).2 : Int)]) ∧ Kd.S (Kd.slice 5 (Kd.int .u8)) 40 w' w.heap.size (fun _ => True) v0_ (splitL l0).1 ∧ Below w.heap.size w w' := by
 go_enter Tryz.func80, Tryz.ntmps80
 go_upto_region 3 with fail
 go_loopw [4, 5] (fun v4 v5 wr => ∃ (i k : Nat) (out : List (List Int)), v5 = .int .i64 i ∧ i ≤ l0.length ∧ l0.length < i + k ∧ out.length ≤ i ∧ Kd.S (Kd.slice 5 (Kd.int .u8)) 40 wr w.heap.size (fun _ => True) v4 out ∧ Below w.heap.size w wr ∧ splitL l0 = (out ++ (splitF k l0 i).1, (splitF k l0 i).2)) (fun _ v5 _ => l0.length - (intOf v5).toNat)
 case atStart => exact ⟨0, l0.length + 1, [], rfl, by omega, by omega, by simp, Kd.S_nil _ _ _ _ _, Below.refl _ _, rfl⟩
 case round =>
  obtain ⟨i, k, out, rfl, hi, hk, hout, hr, hb, hsp⟩ := hrel
  obtain ⟨k, rfl⟩ : ∃ m, k = m + 1 := ⟨k - 1, by omega⟩
  have hC := Kd.C_below hr0 hb
  obtain ⟨Ad, cd, hcut, hCd, hcd⟩ := drop_row hC hc0 i hi
  have hsp2 : splitF (k + 1) l0 i = if (oneL (l0.drop i)).2 = true then ((oneL (l0.drop i)).1 :: (splitF k l0 (i + 8 + (oneL (l0.drop i)).1.length)).1, (splitF k l0 (i + 8 + (oneL (l0.drop i)).1.length)).2) else ([], i) := rfl
  have hdl : (l0.drop i).length = l0.length - i := List.length_drop
  obtain ⟨D, hD⟩ : ∃ D, D = l0.drop i := ⟨_, rfl⟩
  rw [← hD] at hcut hCd hcd hsp2 hdl
  have Hdl := Lib.hid hdl
  clear hdl hD
  go_wp2_with fail
  refine (frame_one.says Ad cd D wr hCd hcd (by have := (show D.length = l0.length - i from Hdl); omega) (hGL.below hb)).mono ?_
  rintro e w2 ⟨Ai, ci, rfl, hCi, hci, hb2⟩
  have hr2 := Kd.S_below hr hb2
  have hb2t := below_then hb hb.size hb2
  have hfit := oneL_fits D
  obtain ⟨inn, hinn⟩ : ∃ inn, inn = (oneL D).1 := ⟨_, rfl⟩
  rw [← hinn] at hCi hci hsp2 hfit ⊢
  have Hsp2 := Lib.hid hsp2
  have Hsp := Lib.hid hsp
  clear hcut hCd hcd hsp hsp2 hr hb hb2 hC hinn
  cases hok : (oneL D).2 with
  | false =>
   go_wp2_with fail
   go_ret2
   have h1 : splitL l0 = (out, i) := by
    rw [(show splitL l0 = (out ++ (splitF (k + 1) l0 i).1, (splitF (k + 1) l0 i).2) from Hsp), (show splitF (k + 1) l0 i = _ from Hsp2), if_neg (by rw [hok]; decide)]
    simp
   exact ⟨_, by rw [h1]; rfl, by rw [h1]; exact hr2, hb2t⟩
  | true =>
   have hf := hfit hok
   have hdl : D.length = l0.length - i := Hdl
   have hsz2 : w.heap.size ≤ w2.heap.size := hb2t.size
   have LA := Lib.hid (show (([] : List Int).length + inn.length) * 1 ≤ 140737488355328 by rw [List.length_nil]; omega)
   have LB := Lib.hid (show (out.length + 1) * 24 ≤ 140737488355328 by omega)
   obtain ⟨A4, c4, e4⟩ := Kd.S_slice hr2
   subst e4
   have e1 : IntKind.i64.wrap (8 + (inn.length : Int)) = 8 + (inn.length : Int) := IntWalk.i64_in _ (by omega)
   have e2 : IntKind.i64.wrap ((i : Int) + (8 + (inn.length : Int))) = (i : Int) + (8 + (inn.length : Int)) := IntWalk.i64_in _ (by omega)
   have hi2 : i + 8 + inn.length ≤ l0.length := by omega
   clear hf hdl hfit
   go_wp2_with (first
    | ((with_reducible refine gate_builtin (b := .append) (xs := #[.const (.slice none 0 0), .tmp 20]) rfl ?_); at_builtin; refine Kd.R_append_rows (Kd.int .u8) (w0 := w2) w2.heap.size rfl (.const (.slice none 0 0)) (.tmp 20) 40 5 (.int .u8 0) 1 rfl Tryz.underlying40 rfl rfl (by decide) (by omega) (.slice none 0 0) [] inn _ _ _ (fun _ => True) (fun _ => False) rfl rfl (Kd.R_nil _ _ _ _ _) hCi (fun _ _ h => h) (fun _ h => h.elim) (fun _ _ => trivial) (Below.refl _ _) (Nat.le_refl _) LA ?_; intro v21 w3 ho3 hb3 hg3 hat3; clear hg3 hat3; rw [List.nil_append] at ho3; obtain ⟨A21, c21, e21⟩ := Kd.R_slice ho3; subst e21)
    | ((with_reducible refine gate_builtin (b := .append) (xs := #[.tmp 19, .tmp 22]) rfl ?_); at_builtin; refine Kd.S_append (Kd.slice 5 (Kd.int .u8)) (w0 := w) w.heap.size rfl (.tmp 19) (.tmp 22) 120 40 (.slice none 0 0) 24 rfl Tryz.underlying120 rfl rfl (by decide) (by omega) (.slice A4 out.length c4) out inn [.slice A21 inn.length c21] (fun _ => True) (fun k => (True ∧ some k ≠ (.slice A4 out.length c4 : Value).ownBlock) ∧ w2.heap.size ≤ k) rfl rfl ⟨_, rfl, Kd.R_lower (Kd.R_mono (Kd.R_bound (Kd.R_new' ho3 (Kd.S_lt hr2))) (fun _ hk => ⟨hk.1, hk.2.1⟩)) hsz2⟩ (fun _ h => h.1) (fun _ _ => trivial) (Kd.S_mono (Kd.S_below (Kd.S_bound hr2) hb3) (fun k hk => ⟨trivial, fun h2 => Nat.lt_irrefl k (Nat.lt_of_lt_of_le hk.2.2.1 h2.2)⟩)) (below_then hb2t hsz2 hb3) (Nat.le_trans hsz2 hb3.size) LB ?_; intro v23 w4 ho4 hb4 hg4 hat4; clear hg4 hat4))
   refine ⟨⟨i + 8 + inn.length, k, out ++ [inn], by rw [show ((i + 8 + inn.length : Nat) : Int) = (i : Int) + (8 + (inn.length : Int)) by omega], hi2, by omega, by rw [List.length_append, List.length_singleton]; omega, ho4, hb4, ?_⟩, by simp only [intOf]; omega⟩
   rw [(show splitL l0 = (out ++ (splitF (k + 1) l0 i).1, (splitF (k + 1) l0 i).2) from Hsp), (show splitF (k + 1) l0 i = _ from Hsp2), if_pos hok, List.append_assoc]
   rfl
def frame_Split.f (l0 : List Int) : Option (List (List Int) × Int) := if l0.length ≤ 100000000 then some ((splitL l0).1, ((splitL l0).2 : Int)) else none
theorem frame_Split.calls (A0 : Option Addr) (c0 : Nat) (l0 : List Int) (r1 : List (List Int)) (r2 : Int) (w : World) (hr0 : Kd.C (Kd.int .u8) w A0 l0.length l0) (hc0 : l0.length ≤ c0) (h : frame_Split.f l0 = some (r1, r2)) (hGL : GL w) :
  Calls Tryz.prog 80 #[.slice A0 l0.length c0] w fun e w' => ∃ v0_ : Value, e = .returned (.tuple #[v0_, .int .i64 r2]) ∧ Kd.S (Kd.slice 5 (Kd.int .u8)) 40 w' w.heap.size (fun _ => True) v0_ r1 ∧ Below w.heap.size w w' := by
 unfold frame_Split.f at h
 split at h
 case isTrue hs =>
  simp only [Option.some.injEq, Prod.mk.injEq] at h
  obtain ⟨rfl, rfl⟩ := h
  exact frame_Split.says A0 c0 l0 w hr0 hc0 hs hGL
 case isFalse hs => exact absurd h (by simp)

def store_number.f (l0 : List Int) (a1 : Int) : Option (List Int) := (be_Put.f l0 ((a1) % 4294967296)).bind fun t118 => (some t118)
set_option maxHeartbeats 8000000 in
set_option maxRecDepth 100000 in
theorem store_number.calls (P0_ : Nat → Prop) (u9000_ : Value) (l0 : List Int) (a1 : Int) (r : List Int) (w0 w : World) (hB : Below w0.heap.size w0 w) (ho0 : Kd.R (Kd.int .u8) 5 w w0.heap.size P0_ u9000_ l0) (h : store_number.f l0 a1 = some r) :
  Calls Tryz.prog 134 #[u9000_, .int .i64 a1] w fun e w' => ∃ v0_ : Value, e = .returned (v0_) ∧ Kd.R (Kd.int .u8) 5 w' w0.heap.size (fun k_ => (P0_ k_ ∨ w.heap.size ≤ k_)) v0_ r ∧ Below w0.heap.size w0 w' ∧ Kept w w' (fun k_ => P0_ k_) := by
 have HO0 := Aside0.mk (show Kd.R (Kd.int .u8) 5 w w0.heap.size (fun k_ => (P0_ k_ ∨ w.heap.size ≤ k_)) u9000_ l0 from Kd.R_mono ho0 (fun k_ hk => (.inl hk)))
 have HK := Aside0.mk (Kept.refl w (fun k_ => P0_ k_))
 have HW0 := Aside0.mk hB.size
 have HB := Aside0.mk hB
 clear hB
 have H : ((be_Put.f l0 ((a1) % 4294967296)).bind fun t118 => (some t118)) = some r := h
 clear h
 replace H := Option.bind_eq_some_iff.mp H
 obtain ⟨t118, A30, H⟩ := H
 replace H : (some t118) = some r := H
 have A3 := Aside0.mk A30
 clear A30
 obtain rfl := Option.some.inj H
 obtain ⟨Ao4, co4, eo4⟩ := Kd.R_slice HO0.out
 subst eo4
 go_enter Tryz.func134, Tryz.ntmps134
 go_wp2_with (first | ((with_reducible refine gate_callee (f := 135) rfl ?_); refine goesL_ (some 8) rfl rfl Tryz.func135 (by kernel_rfl) rfl #[.slice Ao4 l0.length co4, .int .u32 ((a1) % 4294967296)] rfl (by (try simp only [List.map_toArray, List.map_cons, List.map_nil]); first | done | rfl | (simp only [List.length_drop, List.length_take]; rfl)) ?_; (with_reducible refine (be_Put.calls (fun k_ => some k_ = (.slice Ao4 l0.length co4 : Value).ownBlock) (.slice Ao4 l0.length co4) l0 ((a1) % 4294967296) t118 w0 _ ?side1 ?side2 A3.out).mono ?_); (case side1 => repeat (first | (with_reducible first | exact HB.out | apply below_alloc | apply pw_below_drewN | apply below_drew1) | exact HB.out)); (case side2 => exact Kd.R_tight rfl HO0.out); rintro e w5 ⟨v119, rfl, ho0, hb, hkp⟩; refine ⟨_, rfl, ?_⟩; have n0_ := Aside0.mk (Kd.R_mono (ok' := fun k_ => (P0_ k_ ∨ w.heap.size ≤ k_)) ho0 (fun k_ hk_ => Or.elim hk_ (fun hs_ => (HO0.out.1 k_ (hs_).symm)) (fun hn_ => (.inr (Nat.le_trans (by first | exact HK.out.1 | exact (show Kept w _ (fun k_ => P0_ k_) from by repeat (first | (with_reducible first | exact HK.out | apply Kept.alloc | apply Kept.drewN | apply Kept.drew) | exact HK.out)).1) hn_))))); have n1_ := Aside0.mk (Kept.then_ (S := (fun k_ => P0_ k_)) (by repeat (first | (with_reducible first | exact HK.out | apply Kept.alloc | apply Kept.drewN | apply Kept.drew) | exact HK.out)) hkp (fun k_ hs_ => (fun e_ => (HO0.out.1 k_ e_.symm)) hs_)); have n2_ := Aside0.mk (hb); clear HK; clear HB; clear HO0; have HO120 := n0_; have HK := n1_; have HB := n2_; clear n0_ n1_ n2_; (try clear hb); (try clear hkp); (try clear ho0)))
 go_ret
 exact ⟨_, by first | rfl | (simp [errW_none, errW_some] <;> rfl) | (simp [*, errW_none, errW_some] <;> rfl), by (with_reducible repeat (first | apply Kd.R_alloc | apply Kd.R_drewN | apply Kd.R_drew)); exact HO120.out, by repeat (first | (with_reducible first | exact HB.out | apply below_alloc | apply pw_below_drewN | apply below_drew1) | exact HB.out), by repeat (first | (with_reducible first | exact HK.out | apply Kept.alloc | apply Kept.drewN | apply Kept.drew) | exact HK.out)⟩

-- NOT PRINTED: function 88 (store_record)

-- NOT PRINTED: function 126 (store_reader_number)

-- NOT PRINTED: function 127 (store_reader_text)

-- NOT PRINTED: function 81 (store_changes)

-- NOT PRINTED: function 161 (maps_clone)

-- NOT PRINTED: function 128 (maps_Clone_map_string_string_string_string)

-- NOT PRINTED: function 82 (store_turned)

end Go.Proofs.YtpoblffgclmmlaaGreatDoor.Q
end
section
namespace Go.Proofs.YtpoblffgclmmlaaGreatDoor.Q
open Go.RowKit Go.Proofs.YtpoblffgclmmlaaGreatDoorW.PrintWords Go.Proofs.YtpoblffgclmmlaaGreatDoorW.PrintLast Go.Proofs.YtpoblffgclmmlaaGreatDoorW.PrintMore
attribute [local go_sem] max2_int min2_int max_two min_two max_three min_three max_four min_four   -- for this text's walks alone
open Go.Proofs.YtpoblffgclmmlaaGreatDoor.X
set_option linter.unusedVariables false
set_option linter.unusedSimpArgs false

/-- Bytes in a frame. -/
def frameL (l : List Int) : List Int := four (l.length : Int) ++ markL (strOfNums (four (l.length : Int)) ++ strOfNums l) ++ l
set_option maxHeartbeats 4000000 in
set_option maxRecDepth 100000 in
theorem frame_Frame.says (A0 : Option Addr) (c0 : Nat) (l0 : List Int) (w : World) (hr0 : Kd.C (Kd.int .u8) w A0 l0.length l0) (hc0 : l0.length ≤ c0) (hl : l0.length ≤ 100000000) (hGL : GL w) :
  Calls Tryz.prog 89 #[.slice A0 l0.length c0] w fun e w' => ∃ v0_ : Value, e = .returned (v0_) ∧ Kd.R (Kd.int .u8) 5 w' w.heap.size (fun _ => True) v0_ (frameL l0) ∧ Below w.heap.size w w' := by
 go_enter Tryz.func89, Tryz.ntmps89
 go_wp2_with fail
 have eu : IntKind.u32.wrap (l0.length : Int) = (l0.length : Int) := by rw [IntKind.wrap_u32]; omega
 have hp := put_is [] (l0.length : Int) (by rw [List.length_nil]; omega)
 refine (be_Put.calls (fun _ => True) (.slice none 0 0) [] (l0.length : Int) ([] ++ four (l0.length : Int)) w w (Below.refl _ _) (Kd.R_nil _ _ _ _ _) hp).mono ?_
 rintro e w1 ⟨v1, rfl, hr1, hb1, -⟩
 have hr1' := Kd.R_mono (ok' := fun _ => True) hr1 (fun _ _ => trivial)
 rw [List.nil_append] at hr1'
 clear hr1
 obtain ⟨z, hz⟩ : ∃ z, z = four (l0.length : Int) := ⟨_, rfl⟩
 have hzl : z.length = 4 := by rw [hz]; rfl
 rw [← hz] at hr1'
 obtain ⟨A1, c1, e1⟩ := Kd.R_slice hr1'
 subst e1
 have hrd := Kd.R_reads' hr1'
 have Hz := Lib.hid hz
 have Hzl := Lib.hid hzl
 clear hz hzl
 go_wp2_with fail
 have hzl : z.length = 4 := Hzl
 refine (frame_mark.says A1 A0 c1 c0 z l0 w1 hrd.2.2 (Kd.C_below hr0 hb1) (by omega) (hGL.below hb1)).mono ?_
 rintro e w2 ⟨rfl, hb2⟩
 have hr2 := Kd.R_below hr1' hb2
 have hb2t := below_then hb1 hb1.size hb2
 obtain ⟨m, hm⟩ : ∃ m, m = markL (strOfNums z ++ strOfNums l0) := ⟨_, rfl⟩
 have hml : m.length = 4 := by rw [hm]; exact markL_length _
 rw [← hm]
 have Hm := Lib.hid hm
 clear hm hrd hr1' hb2 hzl
 go_upto_region 3 with (refine arr_store (arr_new w2 179 (List.replicate 4 0) rfl) m (by rw [hml]; rfl) 179 (.tmp 4) (.tmp 11) rfl rfl rfl rfl (by rw [hml]; rfl) ?_)
 refine wp_world ?_
 intro w3 hw3
 have hM3 : ArrK .u8 w3 w2.heap.size 179 m := by rw [hw3]; exact arr_setRow (arr_new w2 179 (List.replicate 4 0) rfl) _
 have hb3 : Below w2.heap.size w2 w3 := by rw [hw3]; exact below_setRow ((Below.refl _ _).alloc (Nat.le_refl _) _) (Nat.le_refl _) _
 clear hw3
 have hr3 := Kd.R_below hr2 hb3
 have hb3t := below_then hb2t hb2t.size hb3
 have hC3 := Kd.C_below hr0 hb3t
 clear hr2 hb2t hC3
 have Hml := Lib.hid hml
 clear hml
 have hml : m.length = 4 := Hml
 have hRm := arr_C hM3 (by omega) 4 hml
 have hzl : z.length = 4 := Hzl
 have LA := Lib.hid (show (z.length + 4) * 1 ≤ 140737488355328 by omega)
 have LB := Lib.hid (show ((z ++ m).length + l0.length) * 1 ≤ 140737488355328 by rw [List.length_append]; omega)
 clear hml hzl
 have hsz3 : w.heap.size ≤ w3.heap.size := hb3t.size
 go_wp2_with (first
  | ((with_reducible refine gate_builtin (b := .append) (xs := #[.tmp 12, .tmp 13]) rfl ?_); at_builtin; refine Kd.R_append_rows (Kd.int .u8) (w0 := w) w.heap.size rfl (.tmp 12) (.tmp 13) 40 5 (.int .u8 0) 1 rfl Tryz.underlying40 rfl rfl (by decide) (by omega) (.slice A1 z.length c1) z m _ _ _ (fun _ => True) (fun _ => False) rfl rfl hr3 hRm (fun _ _ h => h) (fun _ h => h.elim) (fun _ _ => trivial) hb3t hsz3 LA ?_; intro v4 w4 ho4 hb4 hg4 hat4; clear hg4 hat4 hr3 hRm hM3; have hC4 := Kd.C_below hr0 hb4; have hsz4 : w.heap.size ≤ w4.heap.size := hb4.size)
  | ((with_reducible refine gate_builtin (b := .append) (xs := #[.tmp 14, .tmp 15]) rfl ?_); at_builtin; refine Kd.R_append_rows (Kd.int .u8) (w0 := w) w.heap.size rfl (.tmp 14) (.tmp 15) 40 5 (.int .u8 0) 1 rfl Tryz.underlying40 rfl rfl (by decide) (by omega) v4 (z ++ m) l0 _ _ _ (fun _ => True) (fun _ => False) rfl rfl ho4 hC4 (fun _ _ h => h) (fun _ h => h.elim) (fun _ _ => trivial) hb4 hsz4 LB ?_; intro v5 w5 ho5 hb5 hg5 hat5; clear hg5 hat5))
 go_ret
 exact ⟨_, rfl, by rw [show frameL l0 = z ++ m ++ l0 by rw [frameL, ← (show z = four (l0.length : Int) from Hz), ← (show m = markL (strOfNums z ++ strOfNums l0) from Hm)]]; exact ho5, hb5⟩
def frame_Frame.f (l0 : List Int) : Option (List Int) := if l0.length ≤ 100000000 then some (frameL l0) else none
theorem frame_Frame.calls (A0 : Option Addr) (c0 : Nat) (l0 : List Int) (r : List Int) (w : World) (hr0 : Kd.C (Kd.int .u8) w A0 l0.length l0) (hc0 : l0.length ≤ c0) (h : frame_Frame.f l0 = some r) (hGL : GL w) :
  Calls Tryz.prog 89 #[.slice A0 l0.length c0] w fun e w' => ∃ v0_ : Value, e = .returned (v0_) ∧ Kd.R (Kd.int .u8) 5 w' w.heap.size (fun _ => True) v0_ r ∧ Below w.heap.size w w' := by
 unfold frame_Frame.f at h
 split at h
 case isTrue hs =>
  obtain rfl := Option.some.inj h
  exact frame_Frame.says A0 c0 l0 w hr0 hc0 hs hGL
 case isFalse hs => exact absurd h (by simp)

-- NOT PRINTED: function 168 (slices_AppendSeq_string_string)

-- NOT PRINTED: function 148 (slices_Collect_string)

-- NOT PRINTED: function 216 (cmp_isNaN_string)

-- NOT PRINTED: function 189 (cmp_Less_string)

-- NOT PRINTED: function 183 (slices_insertionSortOrdered_string)

-- NOT PRINTED: function 211 (slices_siftDownOrdered_string)

-- NOT PRINTED: function 184 (slices_heapSortOrdered_string)

-- NOT PRINTED: function 192 (bits_Len32)

-- NOT PRINTED: function 193 (bits_Len64)

-- NOT PRINTED: function 170 (bits_Len)

-- NOT PRINTED: function 212 (slices_nextPowerOfTwo)

-- NOT PRINTED: function 213 (slices_xorshift_Next)

-- NOT PRINTED: function 185 (slices_breakPatternsOrdered_string)

-- NOT PRINTED: function 229 (slices_order2Ordered_string)

-- NOT PRINTED: function 215 (slices_medianOrdered_string)

-- NOT PRINTED: function 214 (slices_medianAdjacentOrdered_string)

-- NOT PRINTED: function 186 (slices_choosePivotOrdered_string)

-- NOT PRINTED: function 187 (slices_reverseRangeOrdered_string)

-- NOT PRINTED: function 188 (slices_partialInsertionSortOrdered_string)

-- NOT PRINTED: function 190 (slices_partitionEqualOrdered_string)

-- NOT PRINTED: function 191 (slices_partitionOrdered_string)

-- NOT PRINTED: function 169 (slices_pdqsortOrdered_string)

-- NOT PRINTED: function 149 (slices_Sort_string_string)

-- NOT PRINTED: function 107 (slices_Sorted_string)

-- NOT PRINTED: function 108 (maps_Keys_map_string_string_string_string)

-- NOT PRINTED: function 137 (store_whole)

-- NOT PRINTED: function 90 (store_Store_renew)

-- NOT PRINTED: function 138 (tape_Tape_Write)

-- NOT PRINTED: function 139 (tape_Tape_Sync)

-- NOT PRINTED: function 91 (store_Store_append)

-- NOT PRINTED: function 25 (store_Store_Do)

-- NOT PRINTED: function 53 (store_Store_Keys)

-- NOT PRINTED: function 79 (store_Store_Get)

-- NOT PRINTED: function 16 (exequaturlaw12_answers)

theorem turn_2 (x : Int) (w : World) : Calls Tryz.prog 163 #[.int .u32 x, .int .u64 2] w fun e w' => e = .returned (.int .u32 (rr x 2)) ∧ w' = w := by
 go_enter Tryz.func163, Tryz.ntmps163
 go_wp2
 go_ret
 exact ⟨rfl, rfl⟩
theorem turn_6 (x : Int) (w : World) : Calls Tryz.prog 163 #[.int .u32 x, .int .u64 6] w fun e w' => e = .returned (.int .u32 (rr x 6)) ∧ w' = w := by
 go_enter Tryz.func163, Tryz.ntmps163
 go_wp2
 go_ret
 exact ⟨rfl, rfl⟩
theorem turn_7 (x : Int) (w : World) : Calls Tryz.prog 163 #[.int .u32 x, .int .u64 7] w fun e w' => e = .returned (.int .u32 (rr x 7)) ∧ w' = w := by
 go_enter Tryz.func163, Tryz.ntmps163
 go_wp2
 go_ret
 exact ⟨rfl, rfl⟩
theorem turn_11 (x : Int) (w : World) : Calls Tryz.prog 163 #[.int .u32 x, .int .u64 11] w fun e w' => e = .returned (.int .u32 (rr x 11)) ∧ w' = w := by
 go_enter Tryz.func163, Tryz.ntmps163
 go_wp2
 go_ret
 exact ⟨rfl, rfl⟩
theorem turn_13 (x : Int) (w : World) : Calls Tryz.prog 163 #[.int .u32 x, .int .u64 13] w fun e w' => e = .returned (.int .u32 (rr x 13)) ∧ w' = w := by
 go_enter Tryz.func163, Tryz.ntmps163
 go_wp2
 go_ret
 exact ⟨rfl, rfl⟩
theorem turn_17 (x : Int) (w : World) : Calls Tryz.prog 163 #[.int .u32 x, .int .u64 17] w fun e w' => e = .returned (.int .u32 (rr x 17)) ∧ w' = w := by
 go_enter Tryz.func163, Tryz.ntmps163
 go_wp2
 go_ret
 exact ⟨rfl, rfl⟩
theorem turn_18 (x : Int) (w : World) : Calls Tryz.prog 163 #[.int .u32 x, .int .u64 18] w fun e w' => e = .returned (.int .u32 (rr x 18)) ∧ w' = w := by
 go_enter Tryz.func163, Tryz.ntmps163
 go_wp2
 go_ret
 exact ⟨rfl, rfl⟩
theorem turn_19 (x : Int) (w : World) : Calls Tryz.prog 163 #[.int .u32 x, .int .u64 19] w fun e w' => e = .returned (.int .u32 (rr x 19)) ∧ w' = w := by
 go_enter Tryz.func163, Tryz.ntmps163
 go_wp2
 go_ret
 exact ⟨rfl, rfl⟩
theorem turn_22 (x : Int) (w : World) : Calls Tryz.prog 163 #[.int .u32 x, .int .u64 22] w fun e w' => e = .returned (.int .u32 (rr x 22)) ∧ w' = w := by
 go_enter Tryz.func163, Tryz.ntmps163
 go_wp2
 go_ret
 exact ⟨rfl, rfl⟩
theorem turn_25 (x : Int) (w : World) : Calls Tryz.prog 163 #[.int .u32 x, .int .u64 25] w fun e w' => e = .returned (.int .u32 (rr x 25)) ∧ w' = w := by
 go_enter Tryz.func163, Tryz.ntmps163
 go_wp2
 go_ret
 exact ⟨rfl, rfl⟩
end Go.Proofs.YtpoblffgclmmlaaGreatDoor.Q
end
section
set_option linter.unusedVariables false
set_option linter.unusedSimpArgs false
namespace Go.Proofs.YtpoblffgclmmlaaGreatDoor.X
open Go.RowKit Go.Proofs.YtpoblffgclmmlaaGreatDoorW.PrintWords Go.Proofs.YtpoblffgclmmlaaGreatDoorW.PrintMore

/-- What a call may turn: the blocks of S, and new ones; nothing else of the world. -/
structure Tur (w W : World) (S : Nat → Prop) : Prop where
 kept : Kept w W S
 os : W.os = w.os
 tape : W.tape = w.tape
 output : W.output = w.output
theorem Tur.refl (w : World) (S : Nat → Prop) : Tur w w S := ⟨Kept.refl w S, rfl, rfl, rfl⟩
theorem Tur.mono {w W : World} {S S' : Nat → Prop} (h : Tur w W S) (hs : ∀ k, S k → S' k) : Tur w W S' := ⟨h.kept.mono hs, h.os, h.tape, h.output⟩
theorem Tur.below {w W W2 : World} {S : Nat → Prop} (h : Tur w W S) (hb : Below W.heap.size W W2) : Tur w W2 S := ⟨h.kept.below hb, hb.os.trans h.os, hb.tape.trans h.tape, hb.output.trans h.output⟩
theorem Tur.of_below {w W : World} (hb : Below w.heap.size w W) (S : Nat → Prop) : Tur w W S := ⟨Kept.of_below hb S, hb.os, hb.tape, hb.output⟩
theorem Tur.alloc {w W : World} {S : Nat → Prop} (h : Tur w W S) (o : Obj) : Tur w (W.alloc o) S := h.below (below_alloc (Below.refl _ _) o)
theorem Tur.drew {w W : World} {S : Nat → Prop} (h : Tur w W S) : Tur w W.drew S := ⟨h.kept.drew, h.os, h.tape, h.output⟩
theorem Tur.setCell {w W : World} {S : Nat → Prop} (h : Tur w W S) {p : Addr} (hp : S p.block ∨ w.heap.size ≤ p.block) (u : Value) : Tur w (W.setCell p u) S := by
 have hb : Below 0 W (W.setCell p u) := (Below.refl 0 W).setCell (p := p) (Nat.zero_le _) u
 exact ⟨h.kept.setCell hp u, hb.os.trans h.os, hb.tape.trans h.tape, hb.output.trans h.output⟩
theorem Tur.of_grown {w W W2 : World} {S : Nat → Prop} {row : Option Nat} (hg : W.grownBy W2 row) (h : Tur w W S) (hr : ∀ k, row = some k → S k ∨ w.heap.size ≤ k) : Tur w W2 S := ⟨Kept.of_grown hg h.kept hr, hg.os.trans h.os, hg.tape.trans h.tape, hg.output.trans h.output⟩
theorem Tur.then_ {w W W2 : World} {S S2 : Nat → Prop} (h : Tur w W S) (k : Tur W W2 S2) (hs : ∀ k, S2 k → S k ∨ w.heap.size ≤ k) : Tur w W2 S := ⟨h.kept.then_ k.kept hs, k.os.trans h.os, k.tape.trans h.tape, k.output.trans h.output⟩
theorem Tur.toBelow {w W : World} {S : Nat → Prop} {B : Nat} (h : Tur w W S) (hB : B ≤ w.heap.size) (hS : ∀ k, S k → B ≤ k) : Below B w W := ⟨h.os, h.tape, h.output, h.kept.1, fun k hk => h.kept.2 k (Nat.lt_of_lt_of_le hk hB) (fun hs => Nat.lt_irrefl k (Nat.lt_of_lt_of_le hk (hS k hs)))⟩
/-- The row is a whole block's head, or it is full. -/
def RowB (W : World) (base e : Nat) (v : Value) (xs : List Int) : Prop :=
 Kd.R (Kd.int .u8) e W base (fun _ => True) v xs ∨ ∃ g cur, v = .slice (some ⟨g, 0, none⟩) xs.length xs.length ∧ base ≤ g ∧ W.heap[g]? = some (.cells cur e (0, 0)) ∧ xs.length ≤ cur.size ∧ xs.length ≤ maxLen ∧ cur.toList.take xs.length = nums .u8 xs
theorem RowB.nil (W : World) (base e : Nat) : RowB W base e (.slice none 0 0) [] := .inl (Kd.R_nil _ _ _ _ _)
theorem RowB.slice {W : World} {base e : Nat} {v : Value} {xs : List Int} (h : RowB W base e v xs) : ∃ A c, v = .slice A xs.length c ∧ xs.length ≤ c ∧ Kd.C (Kd.int .u8) W A xs.length xs := by
 rcases h with h | ⟨g, cur, rfl, hb, hg, hl, hm, ht⟩
 ·
  obtain ⟨A, c, rfl⟩ := Kd.R_slice h
  obtain ⟨-, h2, h3⟩ := Kd.R_reads' h
  exact ⟨A, c, rfl, h2, h3⟩
 ·
  refine ⟨_, _, rfl, Nat.le_refl _, rfl, by simp only [maxLen] at hm; omega, fun _ => ⟨⟨g, 0, none⟩, rfl, fun j p hj => ⟨[.int .u8 p], rfl, rfl, fun i u hu => ?_⟩⟩⟩
  have hlt : j < xs.length := (List.getElem?_eq_some_iff.1 hj).1
  match i, hu with
  | 0, hu =>
   simp only [List.getElem?_cons_zero, Option.some.injEq] at hu
   subst hu
   have ha : (⟨g, 0, none⟩ : Addr).add (j * (Kd.int .u8).sz + 0) = ⟨g, j, none⟩ := by
    show (⟨g, 0, none⟩ : Addr).add (j * 1 + 0) = _
    unfold Addr.add
    simp
    intro h; omega
   rw [ha, cell_of_row W g j cur e (0, 0) hg]
   have : (cur.toList.take xs.length)[j]? = (nums .u8 xs)[j]? := by rw [ht]
   rw [List.getElem?_take, if_pos hlt, Array.getElem?_toList] at this
   rw [this]
   simp [nums, hj]
theorem RowB.kept {W W2 : World} {base e : Nat} {v : Value} {xs : List Int} {S : Nat → Prop} (h : RowB W base e v xs) (hk : Tur W W2 S) (hne : ∀ k, v.ownBlock = some k → ¬ S k) : RowB W2 base e v xs := by
 rcases h with h | ⟨g, cur, rfl, hb, hg, r⟩
 ·
  refine .inl ?_
  have h2 : Kd.R (Kd.int .u8) e W base (fun k => v.ownBlock = some k) v xs := by
   obtain ⟨h0, inner, ho, hr⟩ := h
   exact ⟨fun k hk => hk, inner, ho, hr.imp_ (fun _ _ hp => hp)⟩
  exact Kd.R_mono (Kd.R_kept h2 hk.kept hne) (fun _ _ => trivial)
 ·
  exact .inr ⟨g, cur, rfl, hb, blk_kept hg hk.kept (hne g (by simp [Value.ownBlock])), r⟩
theorem RowB.typed {W : World} {base e : Nat} {v : Value} {xs : List Int} (h : RowB W base e v xs) : ∀ k, v.ownBlock = some k → base ≤ k ∧ ∃ cells, W.heap[k]? = some (.cells cells e (0, 0)) := by
 intro k hk
 rcases h with h | ⟨g, cur, rfl, hb, hg, r⟩
 ·
  exact ⟨Kd.R_base h k hk, Kd.R_typed h k hk⟩
 ·
  simp [Value.ownBlock] at hk
  subst hk
  exact ⟨hb, cur, hg⟩
theorem RowB.lower {W : World} {base base' e : Nat} {v : Value} {xs : List Int} (h : RowB W base e v xs) (hb : base' ≤ base) : RowB W base' e v xs := by
 rcases h with h | ⟨g, cur, rfl, hg, r⟩
 ·
  exact .inl (Kd.R_lower h hb)
 ·
  exact .inr ⟨g, cur, rfl, Nat.le_trans hb hg, r⟩
theorem append_RB_step {P : Program} {ops : Array Oper} {o : Oper} {a : Act} {Q : Exit → Act → World → Prop} {Kc : Act → World → Prop} {W : World} (base : Nat) (hw : Region.wanted o (yielded ops a.tmps) = true) (s x : Operand) (t e : TypeId)
  (ho : o.op = .call { callee := .builtin .append, args := #[s, x], argTypes := #[t, t] })
  (ht : P.underlying t = some (.slice e)) (hinfo : (P.info? e).map (fun i => (i.zero, i.size, i.bytes)) = some (some (.int .u8 0), 1, 1))
  (v : Value) (xs ys : List Int) (A : Option Addr) (c : Nat) (hs : a.eval s = v) (hx : a.eval x = .slice A ys.length c)
  (HO : RowB W base e v xs) (HR : Kd.C (Kd.int .u8) W A ys.length ys) (hbase : base ≤ W.heap.size) (hl : xs.length + ys.length ≤ 140737488355328)
  (h : ∀ v1 w1, RowB w1 base e v1 (xs ++ ys) → W.grownBy w1 v.ownBlock → (v1.ownBlock = v.ownBlock ∨ ∃ b, v1.ownBlock = some b ∧ W.heap.size ≤ b) → Kc (a.put o.dst v1) w1) :
  if Region.wanted o (yielded ops a.tmps) = true then Oper.wp P o a W Kc Q else Kc (a.put o.dst undef) W := by
 rcases HO with HO | ⟨g, cur, rfl, hb, hg, hlc, hm, htake⟩
 ·
  exact Kd.R_append_rows_step (Kd.int .u8) (w0 := W) base hw s x t e (.int .u8 0) 1 ho ht hinfo rfl (by decide) (by decide) v xs ys A ys.length c (fun _ => True) (fun _ => False) hs hx HO HR (fun _ _ h => h) (fun _ h => h.elim) (fun _ _ => trivial) (Below.refl _ _) hbase (by omega) (fun v1 w1 h1 _ h3 h4 => h v1 w1 (.inl h1) h3 h4)
 ·
  obtain ⟨i0, hi, hzz⟩ := Option.map_eq_some_iff.1 hinfo
  simp only [Prod.mk.injEq] at hzz
  obtain ⟨hz0, hz1, hz2⟩ := hzz
  by_cases hy : ys = []
  ·
   subst hy
   rw [if_pos hw]
   have hrun : (Builtin.append_ #[t, t] o.type #[.slice (some ⟨g, 0, none⟩) xs.length xs.length, .slice A 0 c]).run P W = .ok (.slice (some ⟨g, 0, none⟩) xs.length xs.length) W := by
    cases A <;> simp [Builtin.append_, run_underlying ht, sizeOf, typeInfo, hi, Builtin.lenOf, Builtin.firstCells, storeCells, loadCells, loadCellsFrom]
   unfold Oper.wp execOp
   simp only [ho, resolve, invoke, builtin, Sem.run_bind, Sem.run_pure, Result.andThen_ok, List.map_toArray, List.map_cons, List.map_nil, hs, hx, List.length_nil, hrun]
   refine (h _ W ?_ ⟨rfl, rfl, rfl, Nat.le_refl _, fun _ _ _ => rfl⟩ (.inl rfl))
   rw [List.append_nil]
   exact .inr ⟨g, cur, rfl, hb, hg, hlc, hm, htake⟩
  ·
   have hpos : 0 < ys.length := List.length_pos_iff.2 hy
   obtain ⟨ad, rfl, hcell⟩ := HR.2.2 hpos
   have hnews : ∀ j u, (nums .u8 ys)[j]? = some u → W.cell? (ad.add j) = some u := by
    intro j u hj
    have hjl : j < ys.length := by have := (List.getElem?_eq_some_iff.1 hj).1; simpa [nums] using this
    obtain ⟨cs, _, rfl, hc⟩ := hcell j ys[j] (List.getElem?_eq_getElem hjl)
    have h2 := hc 0 _ rfl
    have e1 : j * (Kd.int .u8).sz + 0 = j := by show j * 1 + 0 = j; omega
    rw [e1] at h2
    rw [h2]
    simp [nums, List.getElem?_eq_getElem hjl] at hj
    rw [← hj]
   have holds : ∀ j u, (nums .u8 xs)[j]? = some u → W.cell? ((⟨g, 0, none⟩ : Addr).add j) = some u := by
    intro j u hj
    have hadd : (⟨g, 0, none⟩ : Addr).add j = ⟨g, j, none⟩ := by unfold Addr.add; split <;> simp_all
    rw [hadd, cell_of_row W g j cur e (0, 0) hg]
    rw [← htake, List.getElem?_take] at hj
    split at hj
    ·
     simpa using hj
    ·
     cases hj
   have hr := run_append_grow (P := P) W t o.type e i0 (.int .u8 0) ht hi hz0 ⟨g, 0, none⟩ xs.length xs.length (nums .u8 xs) (by rw [hz1]; simp [nums]) holds ad ys.length c (nums .u8 ys) (by rw [hz1]; simp [nums]) hnews (by omega) (by omega) (growslice_fits (by omega) (by rw [hz2]; omega))
   have hge := grownCap_ge W (xs.length + ys.length) xs.length e
   have hcm := grownCap_le_maxLen W (xs.length + ys.length) xs.length e (by simp only [maxLen]; omega)
   rw [if_pos hw]
   unfold Oper.wp execOp
   simp only [ho, resolve, invoke, builtin, Sem.run_bind, Sem.run_pure, Result.andThen_ok, List.map_toArray, List.map_cons, List.map_nil, hs, hx, hr]
   refine (h _ _ (.inl ?_) ⟨rfl, rfl, rfl, by simp, fun k hk _ => heap_alloc_old W.drew _ hk⟩ (.inr ⟨W.heap.size, rfl, Nat.le_refl _⟩))
   have hln : (xs ++ ys).length = xs.length + ys.length := List.length_append
   refine Kd.R_of_own (enc := fun n => Value.int .u8 n) (h1 := fun _ => rfl) ⟨by simp [encs], .inr ⟨W.heap.size, grownCap W (xs.length + ys.length) xs.length e, _, by rw [hln], hbase, heap_alloc_new W.drew _, by rw [hln]; exact hge, hcm, ?_, ?_⟩⟩ (fun _ _ => trivial)
   ·
    simp only [Array.size_append, List.size_toArray, size_zeroCells]
    simp [nums, Value.cells]
    omega
   ·
    rw [hln]
    simp only [Array.toList_append, List.append_assoc]
    rw [← List.append_assoc]
    refine (List.take_left' ?_).trans ?_
    ·
     simp [nums]
    ·
     simp [nums, encs]
theorem RowB.cut {W : World} {base e : Nat} {A : Option Addr} {n c : Nat} {xs : List Int} (h : RowB W base e (.slice A n c) xs) (j : Nat) (hj : j ≤ xs.length) : RowB W base e (.slice A j j) (xs.take j) := by
 have hl : (xs.take j).length = j := by rw [List.length_take]; omega
 rcases h with h | ⟨g, cur, e1, hb, hg, hlc, hm, ht⟩
 ·
  have ho := Kd.own_of_R h
  obtain ⟨h1, h2⟩ := ho
  rcases h2 with ⟨e1, e2⟩ | ⟨g, cap, cur, e1, hb, hg, hn, hm, hcs, ht⟩
  ·
   have hx : xs = [] := List.eq_nil_of_length_eq_zero e2
   subst hx
   cases e1
   obtain rfl : j = 0 := by simpa using hj
   exact RowB.nil _ _ _
  ·
   cases e1
   refine .inr ⟨g, cur, by rw [hl], hb, hg, by omega, by rw [hl]; simp only [maxLen] at hm ⊢; omega, ?_⟩
   rw [hl]
   have h3 : (cur.toList.take (xs.length * 1)).take j = (encs (fun n => Value.int .u8 n) xs).take j := by rw [ht]
   rw [List.take_take, Nat.mul_one, Nat.min_eq_left hj] at h3
   rw [h3]
   simp [nums, encs, List.map_take]
 ·
  cases e1
  refine .inr ⟨g, cur, by rw [hl], hb, hg, by omega, by rw [hl]; omega, ?_⟩
  rw [hl]
  have h3 : (cur.toList.take xs.length).take j = (nums .u8 xs).take j := by rw [ht]
  rw [List.take_take, Nat.min_eq_left hj] at h3
  rw [h3]
  simp [nums, List.map_take]
/-- The bytes of a text appended to a row, in a region that draws. -/
theorem append_str_step {P : Program} {ops : Array Oper} {o : Oper} {a : Act} {Q : Exit → Act → World → Prop} {Kc : Act → World → Prop} {W : World} {ok : Nat → Prop} (base : Nat) (hw : Region.wanted o (yielded ops a.tmps) = true) (s x : Operand) (t u e : TypeId)
  (ho : o.op = .call { callee := .builtin .append, args := #[s, x], argTypes := #[t, u] })
  (ht : P.underlying t = some (.slice e)) (hu : P.underlying u = some .string) (hinfo : (P.info? e).map (fun i => (i.zero, i.size, i.bytes)) = some (some (.int .u8 0), 1, 1))
  (v : Value) (xs : List Int) (y : ByteArray) (hs : a.eval s = v) (hx : a.eval x = .string y)
  (HO : Kd.R (Kd.int .u8) e W base ok v xs) (hbase : base ≤ W.heap.size) (hl : xs.length + y.size ≤ 140737488355328)
  (h : ∀ v1 w1, Kd.R (Kd.int .u8) e w1 base (fun _ => True) v1 (xs ++ bytesOf y) → W.grownBy w1 v.ownBlock → Kc (a.put o.dst v1) w1) :
  if Region.wanted o (yielded ops a.tmps) = true then Oper.wp P o a W Kc Q else Kc (a.put o.dst undef) W := by
 obtain ⟨i0, hi, hzz⟩ := Option.map_eq_some_iff.1 hinfo
 simp only [Prod.mk.injEq] at hzz
 obtain ⟨hz0, hz1, hz2⟩ := hzz
 obtain ⟨v1, w1, hrun, hown, hg, _⟩ := Lib.run_append_own_string (P := P) W base t u o.type e i0 ht hu hi hz0 hz1 hz2 v xs.length _ (Kd.own_of_R HO) y (by simp only [maxLen]; omega) hl hbase
 rw [if_pos hw]
 unfold Oper.wp execOp
 simp only [ho, resolve, invoke, builtin, Sem.run_bind, Sem.run_pure, Result.andThen_ok, List.map_toArray, List.map_cons, List.map_nil, hs, hx, hrun]
 refine h v1 w1 (Kd.R_of_own (enc := fun n => Value.int .u8 n) (h1 := fun _ => rfl) ?_ (fun _ _ => trivial)) hg
 have hl2 : (xs ++ bytesOf y).length = xs.length + y.size := by rw [List.length_append, bytesOf_length]
 have hc : encs (fun n => Value.int .u8 n) (xs ++ bytesOf y) = encs (fun n => Value.int .u8 n) xs ++ Lib.strCells y := by
  simp [encs, bytesOf, Lib.strCells]
 rw [hl2, hc]
 exact hown
/-- What is told of the own block alone. -/
theorem R_own_ok {e : Nat} {W : World} {base : Nat} {ok ok' : Nat → Prop} {v : Value} {xs : List Int} (h : Kd.R (Kd.int .u8) e W base ok v xs) (hok : ∀ k, v.ownBlock = some k → ok' k) : Kd.R (Kd.int .u8) e W base ok' v xs :=
 Kd.R_of_own (Kd.own_of_R h) hok
end Go.Proofs.YtpoblffgclmmlaaGreatDoor.X
namespace Go.Proofs.YtpoblffgclmmlaaGreatDoor.X
open Go.RowKit Go.Proofs.YtpoblffgclmmlaaGreatDoorW.PrintWords Go.Proofs.YtpoblffgclmmlaaGreatDoorW.PrintLast Go.Proofs.YtpoblffgclmmlaaGreatDoorW.PrintMore Go.Proofs.YtpoblffgclmmlaaGreatDoor.Q

/-- A tape in memory: its four fields, and its bytes in a row that nothing else has. -/
structure TapeAt (W : World) (base t : Nat) (v : Value) (xs : List Int) (sure fuse : Int) (down : Bool) : Prop where
 blk : W.heap[t]? = some (.cells #[v, .int .i64 sure, .int .i64 fuse, .bool down] 119 (0, 0))
 row : RowB W base 5 v xs
 ge : base ≤ t
theorem TapeAt.kept {W W2 : World} {base t : Nat} {v : Value} {xs : List Int} {sure fuse : Int} {down : Bool} {S : Nat → Prop} (h : TapeAt W base t v xs sure fuse down) (hk : Tur W W2 S) (ht : ¬ S t) (hv : ∀ k, v.ownBlock = some k → ¬ S k) : TapeAt W2 base t v xs sure fuse down :=
 ⟨blk_kept h.blk hk.kept ht, h.row.kept hk hv, h.ge⟩
theorem TapeAt.ne {W : World} {base t : Nat} {v : Value} {xs : List Int} {sure fuse : Int} {down : Bool} (h : TapeAt W base t v xs sure fuse down) : ∀ k, v.ownBlock = some k → k ≠ t := fun k hk => by
 obtain ⟨cells, hc⟩ := (h.row.typed k hk).2
 exact blk_ne hc h.blk (by decide)
/-- How many of some bytes are done, and what becomes of the fuse. -/
def burnL (n fuse : Int) (down whole : Bool) : (Int × Bool) × (Int × Bool) :=
 if down = true then ((0, false), (fuse, true))
 else if fuse < 0 ∨ n ≤ fuse then ((n, true), (if 0 ≤ fuse then fuse - n else fuse, false))
 else ((if whole = true then 0 else fuse, false), (0, true))
set_option maxHeartbeats 4000000 in
set_option maxRecDepth 100000 in
theorem burn_says (t : Nat) (v : Value) (sure fuse n : Int) (down whole : Bool) (w : World) (hb : w.heap[t]? = some (.cells #[v, .int .i64 sure, .int .i64 fuse, .bool down] 119 (0, 0))) (hn : 0 ≤ n ∧ n < 4611686018427387904) (hf : -9223372036854775808 ≤ fuse ∧ fuse < 9223372036854775808) :
  Calls Tryz.prog 129 #[.pointer (some ⟨t, 0, none⟩), .int .i64 n, .bool whole] w fun e w' => e = .returned (.tuple #[.int .i64 (burnL n fuse down whole).1.1, .bool (burnL n fuse down whole).1.2]) ∧ w'.heap[t]? = some (.cells #[v, .int .i64 sure, .int .i64 (burnL n fuse down whole).2.1, .bool (burnL n fuse down whole).2.2] 119 (0, 0)) ∧ Tur w w' (fun k => k = t) ∧ w'.heap.size = w.heap.size := by
 have c2 := blk_cell hb 2
 have c3 := blk_cell hb 3
 have f2 := blk_frozen hb 2
 have f3 := blk_frozen hb 3
 go_enter Tryz.func129, Tryz.ntmps129
 cases down with
 | true =>
  go_wp2_with fail
  go_ret2
  exact ⟨rfl, hb, Tur.refl _ _, rfl⟩
 | false =>
  have hk2 : ∀ u, Tur w (w.setCell ⟨t, 2, none⟩ u) (fun k => k = t) := fun u => (Tur.refl w (fun k => k = t)).setCell (p := ⟨t, 2, none⟩) (.inl rfl) u
  have hb2 : ∀ u, (w.setCell ⟨t, 2, none⟩ u).heap[t]? = some (.cells #[v, .int .i64 sure, u, .bool false] 119 (0, 0)) := fun u => blk_put hb 2 u rfl
  by_cases h1 : fuse < 0
  ·
   have d1 : decide (fuse < 0) = true := decide_eq_true h1
   have d2 : decide (fuse ≥ 0) = false := decide_eq_false (by omega)
   have e : burnL n fuse false whole = ((n, true), (fuse, false)) := by
    unfold burnL
    rw [if_neg (by decide), if_pos (.inl h1), if_neg (by omega)]
   rw [e]
   clear e
   go_wp2_with fail
   go_ret2
   exact ⟨rfl, hb, Tur.refl _ _, rfl⟩
  ·
   have d1 : decide (fuse < 0) = false := decide_eq_false h1
   have d2 : decide (fuse ≥ 0) = true := decide_eq_true (by omega)
   by_cases h2 : n ≤ fuse
   ·
    have d3 : decide (fuse ≥ n) = true := decide_eq_true h2
    have e : burnL n fuse false whole = ((n, true), (fuse - n, false)) := by
     unfold burnL
     rw [if_neg (by decide), if_pos (.inr h2), if_pos (by omega)]
    have e2 : IntKind.i64.wrap (fuse - n) = fuse - n := IntWalk.i64_in _ (by omega)
    rw [e]
    clear e
    go_wp2_with fail
    go_ret2
    exact ⟨rfl, hb2 _, hk2 _, by simp⟩
   ·
    have d3 : decide (fuse ≥ n) = false := decide_eq_false (by omega)
    have e : burnL n fuse false whole = ((if whole = true then 0 else fuse, false), (0, true)) := by
     unfold burnL
     rw [if_neg (by decide), if_neg (by omega)]
    have c3' := blk_cell (hb2 (.int .i64 0)) 3
    have f3' := blk_frozen (hb2 (.int .i64 0)) 3
    have hk3 := (hk2 (.int .i64 0)).setCell (p := ⟨t, 3, none⟩) (.inl rfl) (.bool true)
    have hb3 := blk_put (hb2 (.int .i64 0)) 3 (.bool true) rfl
    rw [e]
    clear e
    cases whole with
    | true =>
     go_wp2_with fail
     go_ret2
     exact ⟨rfl, hb3, hk3, by simp⟩
    | false =>
     go_wp2_with fail
     go_ret2
     exact ⟨rfl, hb3, hk3, by simp⟩
set_option maxHeartbeats 4000000 in
set_option maxRecDepth 100000 in
theorem new_says (w : World) : Calls Tryz.prog 17 #[] w fun e w' => ∃ t, e = .returned (.pointer (some ⟨t, 0, none⟩)) ∧ TapeAt w' w.heap.size t (.slice none 0 0) [] 0 (-1) false ∧ Below w.heap.size w w' := by
 go_enter Tryz.func17, Tryz.ntmps17
 go_wp2_with fail
 go_ret
 exact ⟨_, rfl, ⟨heap_alloc_new w _, RowB.nil _ _ _, Nat.le_refl _⟩, (Below.refl _ w).alloc (Nat.le_refl _) _⟩
/-- A literal row without a byte. -/
theorem empty_R (w : World) (e : Nat) : Kd.R (Kd.int .u8) e (w.alloc (.cells #[] e)) w.heap.size (fun _ => True) (.slice (some ⟨w.heap.size, 0, none⟩) 0 0) [] :=
 Kd.R_of_own (enc := fun n => Value.int .u8 n) (h1 := fun _ => rfl) ⟨rfl, .inr ⟨w.heap.size, 0, #[], rfl, Nat.le_refl _, heap_alloc_new w _, Nat.le_refl _, Nat.zero_le _, rfl, rfl⟩⟩ (fun _ _ => trivial)
set_option maxHeartbeats 4000000 in
set_option maxRecDepth 100000 in
theorem bclone_says (A : Option Addr) (c : Nat) (xs : List Int) (w : World) (hC : Kd.C (Kd.int .u8) w A xs.length xs) (hl : xs.length ≤ 70368744177664) :
  Calls Tryz.prog 98 #[.slice A xs.length c] w fun e w' => ∃ v, e = .returned v ∧ Kd.R (Kd.int .u8) 5 w' w.heap.size (fun _ => True) v xs ∧ Below w.heap.size w w' := by
 have q22 := fun (w : World) (a : Option Addr) (n c n' c' : Nat) => Lib.run_eql_slice_nil (P := Tryz.prog) w _ _ a n c n' c' Tryz.underlying40
 go_enter Tryz.func98, Tryz.ntmps98
 cases A with
 | none =>
  have hx : xs = [] := by
   cases xs with
   | nil => rfl
   | cons x r => obtain ⟨ad, e, _⟩ := hC.2.2 (by simp); cases e
  subst hx
  clear hC
  go_wp2_with fail
  go_ret
  exact ⟨_, rfl, Kd.R_nil _ _ _ _ _, Below.refl _ _⟩
 | some ad =>
  have LA := Lib.hid (show (([] : List Int).length + xs.length) * 1 ≤ 140737488355328 by rw [List.length_nil]; omega)
  have hE := empty_R w 5
  have hC1 := Kd.C_alloc hC (.cells #[] 5)
  have hb1 : Below w.heap.size w (w.alloc (.cells #[] 5)) := (Below.refl _ w).alloc (Nat.le_refl _) _
  have hs1 : w.heap.size ≤ (w.alloc (.cells #[] 5)).heap.size := by simp
  clear hl hC
  go_wp2_with ((with_reducible refine gate_builtin (b := .append) (xs := #[.tmp 5, .tmp 6]) rfl ?_); at_builtin; refine Kd.R_append_rows (Kd.int .u8) (w0 := w) w.heap.size rfl (.tmp 5) (.tmp 6) 40 5 (.int .u8 0) 1 rfl Tryz.underlying40 rfl rfl (by decide) (by omega) (.slice (some ⟨w.heap.size, 0, none⟩) 0 0) [] xs _ _ _ (fun _ => True) (fun _ => False) rfl rfl hE hC1 (fun _ _ h => h) (fun _ h => h.elim) (fun _ _ => trivial) hb1 hs1 LA ?_; intro v1 w1 ho1 hb2 hg1 hat1; clear hg1 hat1)
  rw [List.nil_append] at ho1
  go_ret
  exact ⟨_, rfl, ho1, hb2⟩
set_option maxHeartbeats 4000000 in
set_option maxRecDepth 100000 in
theorem bytes_says (base t : Nat) (v : Value) (xs : List Int) (sure fuse : Int) (down : Bool) (w : World) (h : TapeAt w base t v xs sure fuse down) (hl : xs.length ≤ 70368744177664) :
  Calls Tryz.prog 28 #[.pointer (some ⟨t, 0, none⟩)] w fun e w' => ∃ v, e = .returned v ∧ Kd.R (Kd.int .u8) 5 w' w.heap.size (fun _ => True) v xs ∧ Below w.heap.size w w' := by
 have c0 := blk_cell h.blk 0
 obtain ⟨A, c, rfl, hc, hC⟩ := h.row.slice
 go_enter Tryz.func28, Tryz.ntmps28
 go_wp2_with fail
 refine (bclone_says A c xs w hC hl).mono ?_
 rintro e w' ⟨v, rfl, hr, hb⟩
 go_wp2_with fail
 go_ret
 exact ⟨v, rfl, hr, hb⟩
/-- A row of bytes that may be read does not lie in a tape's own block. -/
theorem tape_off {W : World} {t : Nat} {v : Value} {sure fuse : Int} {down : Bool} (hb : W.heap[t]? = some (.cells #[v, .int .i64 sure, .int .i64 fuse, .bool down] 119 (0, 0))) (hv : ∃ a n c, v = .slice a n c) {A : Option Addr} {n : Nat} {xs : List Int} (hC : Kd.C (Kd.int .u8) W A n xs) : ∀ ad, A = some ad → 0 < n → ad.block ≠ t := by
 intro ad hA hn he
 obtain ⟨ad', e, hc⟩ := hC.2.2 hn
 obtain rfl : ad = ad' := Option.some.inj (hA.symm.trans e)
 have hl : 0 < xs.length := by have := hC.1; omega
 obtain ⟨c, hcl, hK, hcell⟩ := hc 0 xs[0] (List.getElem?_eq_getElem hl)
 obtain rfl : c = [.int .u8 xs[0]] := hK
 have h0 := hcell 0 _ rfl
 obtain ⟨a, m, cc, rfl⟩ := hv
 simp only [Nat.zero_mul, Nat.add_zero] at h0
 rw [Addr.add_zero'] at h0
 unfold World.cell? at h0
 rw [he, hb] at h0
 simp only at h0
 match ho : ad.off, h0 with
 | 0, h0 => simp at h0
 | 1, h0 => simp at h0
 | 2, h0 => simp at h0
 | 3, h0 => simp at h0
 | k + 4, h0 => simp at h0
/-- What is read stays, where a tape's own block alone is another one. -/
theorem C_tape {W W2 : World} {t : Nat} {v : Value} {sure fuse : Int} {down : Bool} (hb : W.heap[t]? = some (.cells #[v, .int .i64 sure, .int .i64 fuse, .bool down] 119 (0, 0))) (hv : ∃ a n c, v = .slice a n c) {A : Option Addr} {n : Nat} {xs : List Int} (hC : Kd.C (Kd.int .u8) W A n xs) (hk : Tur W W2 (fun k => k = t)) : Kd.C (Kd.int .u8) W2 A n xs :=
 Kd.C_keep (0 : Int) hC ⟨hk.kept.1, fun i hi hne _ => hk.kept.2 i hi hne⟩ (tape_off hb hv hC)
set_option maxHeartbeats 4000000 in
set_option maxRecDepth 100000 in
/-- Swap: all other bytes, and sure; or nothing. -/
theorem swap_says (base t : Nat) (v : Value) (xs ys : List Int) (sure fuse : Int) (down : Bool) (A : Option Addr) (c : Nat) (w : World) (h : TapeAt w base t v xs sure fuse down) (hC : Kd.C (Kd.int .u8) w A ys.length ys) (hl : ys.length ≤ 1000000000) (hbase : base ≤ w.heap.size) (hf : -9223372036854775808 ≤ fuse ∧ fuse < 9223372036854775808)
  (done fuse1 : Int) (ok down1 : Bool) (hB : burnL ((ys.length : Int) + 1) fuse down true = ((done, ok), (fuse1, down1))) :
  Calls Tryz.prog 83 #[.pointer (some ⟨t, 0, none⟩), .slice A ys.length c] w fun e w' =>
   e = .returned (.int .i64 (if ok = true then 0 else 8)) ∧ Tur w w' (fun k => k = t) ∧
   ∃ v', TapeAt w' base t v' (if ok = true then ys else xs) (if ok = true then (ys.length : Int) else sure) fuse1 down1 ∧ (v' = v ∨ ∀ k, v'.ownBlock = some k → w.heap.size ≤ k) := by
 have hge := h.ge
 obtain ⟨Av, cv, rfl, hcv, hCv⟩ := h.row.slice
 have e1 : IntKind.i64.wrap ((ys.length : Int) + 1) = (ys.length : Int) + 1 := IntWalk.i64_in _ (by omega)
 have hBu := (burn_says t _ sure fuse ((ys.length : Int) + 1) down true w h.blk (by omega) hf)
 rw [hB] at hBu
 cases ok with
 | false =>
  go_enter Tryz.func83, Tryz.ntmps83
  go_wp2_with fail
  refine hBu.mono ?_
  rintro e w1 ⟨rfl, hb1, hk1, hs1⟩
  have hr1 := h.row.kept hk1 h.ne
  go_wp2_with fail
  go_ret
  exact ⟨rfl, hk1, _, ⟨hb1, hr1, hge⟩, .inl rfl⟩
 | true =>
  go_enter Tryz.func83, Tryz.ntmps83
  go_wp2_with fail
  refine hBu.mono ?_
  rintro e w1 ⟨rfl, hb1, hk1, hs1⟩
  have hC1 := C_tape h.blk ⟨_, _, _, rfl⟩ hC hk1
  have c0 := blk_cell hb1 0
  go_wp2_with fail
  refine (bclone_says A c ys w1 hC1 (by omega)).mono ?_
  rintro e w2 ⟨v2, rfl, hr2, hb2⟩
  have hbk2 := blk_below hb1 hb2
  have hk2 := hk1.below hb2
  have c0 := blk_cell hbk2 0
  have f0 := blk_frozen hbk2 0
  have hbk3 := blk_put hbk2 0 v2 rfl
  have hk3 := hk2.setCell (p := ⟨t, 0, none⟩) (.inl rfl) v2
  have c1 := blk_cell hbk3 1
  have f1 := blk_frozen hbk3 1
  have hbk4 := blk_put hbk3 1 (.int .i64 (ys.length : Int)) rfl
  have hk4 := hk3.setCell (p := ⟨t, 1, none⟩) (.inl rfl) (.int .i64 (ys.length : Int))
  have hk24 : Tur w2 ((w2.setCell ⟨t, 0, none⟩ v2).setCell ⟨t, 1, none⟩ (.int .i64 (ys.length : Int))) (fun k => k = t) := ((Tur.refl w2 _).setCell (p := ⟨t, 0, none⟩) (S := fun k => k = t) (.inl rfl) v2).setCell (p := ⟨t, 1, none⟩) (.inl rfl) (.int .i64 (ys.length : Int))
  have hts : t < w1.heap.size := blk_lt hb1
  have hgr : ∀ k, v2.ownBlock = some k → w.heap.size ≤ k := fun k hk => by have := Kd.R_base hr2 k hk; omega
  have hr4 : RowB ((w2.setCell ⟨t, 0, none⟩ v2).setCell ⟨t, 1, none⟩ (.int .i64 (ys.length : Int))) base 5 v2 ys :=
   (RowB.lower (.inl hr2) (by omega)).kept hk24 (fun k hk => by have := Kd.R_base hr2 k hk; omega)
  obtain ⟨A2, c2, ev2⟩ := Kd.R_slice hr2
  subst ev2
  clear hk3 hk2 hk24 hr2 hb2
  go_wp2_with fail
  go_ret
  exact ⟨rfl, hk4, _, ⟨hbk4, hr4, hge⟩, .inr hgr⟩
set_option maxHeartbeats 4000000 in
set_option maxRecDepth 100000 in
/-- Sync: all is sure; or nothing. -/
theorem sync_says (base t : Nat) (v : Value) (xs : List Int) (sure fuse : Int) (down : Bool) (w : World) (h : TapeAt w base t v xs sure fuse down) (hf : -9223372036854775808 ≤ fuse ∧ fuse < 9223372036854775808)
  (done fuse1 : Int) (ok down1 : Bool) (hB : burnL 1 fuse down true = ((done, ok), (fuse1, down1))) :
  Calls Tryz.prog 139 #[.pointer (some ⟨t, 0, none⟩)] w fun e w' =>
   e = .returned (.int .i64 (if ok = true then 0 else 8)) ∧ Tur w w' (fun k => k = t) ∧ TapeAt w' base t v xs (if ok = true then (xs.length : Int) else sure) fuse1 down1 := by
 have hge := h.ge
 obtain ⟨Av, cv, rfl, hcv, hCv⟩ := h.row.slice
 have hBu := (burn_says t _ sure fuse 1 down true w h.blk (by omega) hf)
 rw [hB] at hBu
 cases ok with
 | false =>
  go_enter Tryz.func139, Tryz.ntmps139
  go_wp2_with fail
  refine hBu.mono ?_
  rintro e w1 ⟨rfl, hb1, hk1, hs1⟩
  have hr1 := h.row.kept hk1 h.ne
  go_wp2_with fail
  go_ret
  exact ⟨rfl, hk1, ⟨hb1, hr1, hge⟩⟩
 | true =>
  go_enter Tryz.func139, Tryz.ntmps139
  go_wp2_with fail
  refine hBu.mono ?_
  rintro e w1 ⟨rfl, hb1, hk1, hs1⟩
  have hr1 := h.row.kept hk1 h.ne
  have hne := h.ne
  have c0 := blk_cell hb1 0
  have c1 := blk_cell hb1 1
  have f1 := blk_frozen hb1 1
  have hbk4 := blk_put hb1 1 (.int .i64 (xs.length : Int)) rfl
  have hk4 := hk1.setCell (p := ⟨t, 1, none⟩) (.inl rfl) (.int .i64 (xs.length : Int))
  have hr4 := hr1.kept ((Tur.refl w1 (fun k => k = t)).setCell (p := ⟨t, 1, none⟩) (.inl rfl) (.int .i64 (xs.length : Int))) hne
  go_wp2_with fail
  go_ret
  exact ⟨rfl, hk4, ⟨hbk4, hr4, hge⟩⟩
/-- A cut of a row of bytes up to a place. -/
theorem take_row {w : World} {A : Option Addr} {l : List Int} {c : Nat} (h : Kd.C (Kd.int .u8) w A l.length l) (hc : l.length ≤ c) (n : Nat) (hn : n ≤ l.length) :
  ∃ Ad cd, (∀ W, Sem.run Tryz.prog (Instr.slice 40 (.slice A l.length c) none (some (.int .i64 (n : Int))) none) W = .ok (.slice Ad n cd) W) ∧ Kd.C (Kd.int .u8) w Ad n (l.take n) ∧ n ≤ cd := by
 obtain ⟨i05, hi05, _, hsz5, _⟩ := info_parts (show (Tryz.prog.info? 5).map (fun i => (i.zero, i.size, i.bytes)) = some (some (.int .u8 0), 1, 1) by kernel_rfl)
 have hcut := cut_to (P := Tryz.prog) 40 5 .i64 Tryz.underlying40 hi05 A l.length c (n : Int) (by omega) (by omega) hc
 simp only [Int.toNat_natCast] at hcut
 have hC := Kd.C_take h hn
 rw [show (l.take n).length = n by rw [List.length_take]; omega] at hC
 exact ⟨_, _, hcut, hC, by omega⟩
set_option maxHeartbeats 4000000 in
set_option maxRecDepth 100000 in
/-- Write: bytes come behind, as many as the fuse lets. -/
theorem write_says (base t : Nat) (v : Value) (xs ys : List Int) (sure fuse : Int) (down : Bool) (A : Option Addr) (c : Nat) (w : World) (h : TapeAt w base t v xs sure fuse down) (hC : Kd.C (Kd.int .u8) w A ys.length ys) (hcy : ys.length ≤ c) (hl : xs.length + ys.length ≤ 1000000000) (hbase : base ≤ w.heap.size) (hf : -9223372036854775808 ≤ fuse ∧ fuse < 9223372036854775808)
  (done : Nat) (fuse1 : Int) (ok down1 : Bool) (hB : burnL (ys.length : Int) fuse down false = (((done : Int), ok), (fuse1, down1))) (hd : done ≤ ys.length) :
  Calls Tryz.prog 138 #[.pointer (some ⟨t, 0, none⟩), .slice A ys.length c] w fun e w' =>
   e = .returned (.int .i64 (if ok = true then 0 else 8)) ∧ Tur w w' (fun k => k = t ∨ v.ownBlock = some k) ∧
   ∃ v', TapeAt w' base t v' (xs ++ ys.take done) sure fuse1 down1 ∧ (v'.ownBlock = v.ownBlock ∨ ∀ k, v'.ownBlock = some k → w.heap.size ≤ k) := by
 have hge := h.ge
 obtain ⟨Av, cv, rfl, hcv, hCv⟩ := h.row.slice
 have hBu := (burn_says t _ sure fuse (ys.length : Int) down false w h.blk (by omega) hf)
 rw [hB] at hBu
 cases ok
 all_goals
  go_enter Tryz.func138, Tryz.ntmps138
  go_wp2_with fail
  refine hBu.mono ?_
  rintro e w1 ⟨rfl, hb1, hk1, hs1⟩
  have hr1 := h.row.kept hk1 h.ne
  have hC1 := C_tape h.blk ⟨_, _, _, rfl⟩ hC hk1
  have hne := h.ne
  obtain ⟨Ad, cd, hcut, hCd, hcd⟩ := take_row hC1 hcy done hd
  have hdl : (ys.take done).length = done := by rw [List.length_take]; omega
  obtain ⟨zs, hz⟩ : ∃ zs, zs = ys.take done := ⟨_, rfl⟩
  rw [← hz] at hCd hdl
  have Hz := Lib.hid hz
  clear hz
  subst hdl
  have LL := Lib.hid (show xs.length + zs.length ≤ 140737488355328 by omega)
  have hsz1 : w.heap.size ≤ w1.heap.size := hk1.kept.1
  clear hd hl hcy hcd hC1 hCv hC
  go_wp2_with fail
  have hb1 : w1.drew.heap[t]? = _ := hb1
  have hk1 : Tur w w1.drew (fun k => k = t) := hk1.drew
  have hr1 : RowB w1.drew base 5 (.slice Av xs.length cv) xs := hr1.kept (Tur.drew (Tur.refl w1 (fun _ => False))) (fun _ _ h => h)
  have hCd : Kd.C (Kd.int .u8) w1.drew Ad zs.length zs := Kd.C_drew hCd
  have hsz1 : w.heap.size ≤ w1.drew.heap.size := hsz1
  have LB := Lib.hid (show base ≤ w1.drew.heap.size by omega)
  have c0 := blk_cell hb1 0
  -- [W
  refine start_ (n := 12) (S := fun w' => w'.cell? ⟨t, 0, none⟩ = some (.slice Av xs.length cv)) (ds := [8, 11]) #[false, false, false, false, false, false, false, false, false, false, false, false] (by kernel_rfl) rfl rfl (c0) (fun hHeld => ?_)
  generalize w1.drew = w1 at hb1 hk1 hr1 hCd hsz1 LB hHeld ⊢
  refine pure_ (i := 0) (N := some 16) (v := ?_) (a' := ?_) #[true, false, false, false, false, false, false, false, false, false, false, false] rfl rfl (by kernel_rfl) (fun _ _ _ h => h) (Or.inl ⟨by rfl, ?_⟩) ?_ ?_
  rotate_left
  ·
   intro w'
   go_simp
   with_reducible rfl
  rotate_left
  ·
   simp only [Act.put, List.setIfInBounds_toArray, List.set_cons_zero, List.set_cons_succ, i64_w, i32_w]
   rfl
  refine pure_ (i := 1) (N := some 17) (v := ?_) (a' := ?_) #[true, true, false, false, false, false, false, false, false, false, false, false] rfl rfl (by kernel_rfl) (fun _ _ _ h => h) (Or.inl ⟨by rfl, ?_⟩) ?_ ?_
  rotate_left
  ·
   intro w'
   go_simp
   with_reducible rfl
  rotate_left
  ·
   simp only [Act.put, List.setIfInBounds_toArray, List.set_cons_zero, List.set_cons_succ, i64_w, i32_w]
   rfl
  refine pure_ (i := 2) (N := some 18) (v := ?_) (a' := ?_) #[true, true, true, false, false, false, false, false, false, false, false, false] rfl rfl (by kernel_rfl) (fun _ _ _ h => h) (Or.inl ⟨by rfl, ?_⟩) ?_ ?_
  rotate_left
  ·
   intro w'
   go_simp
   with_reducible rfl
  rotate_left
  ·
   simp only [Act.put, List.setIfInBounds_toArray, List.set_cons_zero, List.set_cons_succ, i64_w, i32_w]
   rfl
  refine pure_ (i := 3) (N := some 19) (v := ?_) (a' := ?_) #[true, true, true, true, false, false, false, false, false, false, false, false] rfl rfl (by kernel_rfl) (fun _ _ _ h => h) (Or.inl ⟨by rfl, ?_⟩) ?_ ?_
  rotate_left
  ·
   intro w'
   go_simp
   with_reducible rfl
  rotate_left
  ·
   simp only [Act.put, List.setIfInBounds_toArray, List.set_cons_zero, List.set_cons_succ, i64_w, i32_w]
   rfl
  refine pure_ (i := 5) (N := some 21) (v := ?_) (a' := ?_) #[true, true, true, true, false, true, false, false, false, false, false, false] rfl rfl (by kernel_rfl) (fun _ _ _ h => h) (Or.inl ⟨by rfl, ?_⟩) ?_ ?_
  rotate_left
  ·
   intro w'
   go_simp
   with_reducible rfl
  rotate_left
  ·
   simp only [Act.put, List.setIfInBounds_toArray, List.set_cons_zero, List.set_cons_succ, i64_w, i32_w]
   rfl
  refine pure_ (i := 6) (N := some 22) (v := ?_) (a' := ?_) #[true, true, true, true, false, true, true, false, false, false, false, false] rfl rfl (by kernel_rfl) (fun _ _ _ h => h) (Or.inl ⟨by rfl, ?_⟩) ?_ ?_
  rotate_left
  ·
   intro w'
   go_simp
   with_reducible rfl
  rotate_left
  ·
   simp only [Act.put, List.setIfInBounds_toArray, List.set_cons_zero, List.set_cons_succ, i64_w, i32_w]
   rfl
  refine pure_ (i := 7) (N := some 23) (v := ?_) (a' := ?_) #[true, true, true, true, false, true, true, true, false, false, false, false] rfl rfl (by kernel_rfl) (fun _ _ _ h => h) (Or.inl ⟨by rfl, ?_⟩) ?_ ?_
  rotate_left
  ·
   intro w'
   go_simp
   with_reducible rfl
  rotate_left
  ·
   simp only [Act.put, List.setIfInBounds_toArray, List.set_cons_zero, List.set_cons_succ, i64_w, i32_w]
   rfl
  refine take_ (i := 4) (N := some 20) (v := ?_) (a' := ?_) #[true, true, true, true, true, true, true, true, false, false, false, false] rfl rfl (by kernel_rfl) (fun _ _ _ h => h) (Or.inl ⟨by rfl, ?_⟩) hHeld ?_ ?_
  rotate_left
  ·
   intro w' s0
   go_simp
   with_reducible rfl
  rotate_left
  ·
   simp only [Act.put, List.setIfInBounds_toArray, List.set_cons_zero, List.set_cons_succ, i64_w, i32_w]
   rfl
  refine last_ (i := 8) (N := some 24) #[true, true, true, true, true, true, true, true, true, false, false, false] rfl rfl (by kernel_rfl) (by decide) (fun K hK => ?_)
  refine append_RB_step (W := w1) base ?hw (.tmp 20) (.tmp 23) 40 5 rfl Tryz.underlying40 (show (Tryz.prog.info? 5).map (fun i => (i.zero, i.size, i.bytes)) = some (some (.int .u8 0), 1, 1) by kernel_rfl) (.slice Av xs.length cv) xs zs Ad cd rfl rfl hr1 hCd LB LL ?_
  (case hw => rfl)
  intro v2 w2 ho2 hg2 hat2
  obtain ⟨A2, c2, ev2, hc2, hC2⟩ := ho2.slice
  subst ev2
  simp only [List.length_append] at ho2 hat2
  clear hc2 hC2
  have hb2 := blk_grown hb1 hg2 (fun e => absurd rfl (hne t e.symm))
  have c0 := blk_cell hb2 0
  have f0 := blk_frozen hb2 0
  refine hK.out _ _ ?_
  clear hK K
  refine norm_ (a' := ?_) ?_ ?_
  rotate_left
  ·
   show Act.put _ (some 24) _ = _
   simp only [Act.put, List.setIfInBounds_toArray, List.set_cons_zero, List.set_cons_succ, i64_w, i32_w]
   rfl
  refine pure_ (i := 9) (N := some 25) (v := ?_) (a' := ?_) #[true, true, true, true, true, true, true, true, true, true, false, false] rfl rfl (by kernel_rfl) (fun _ _ _ h => h) (Or.inl ⟨by rfl, ?_⟩) ?_ ?_
  rotate_left
  ·
   intro w'
   go_simp
   with_reducible rfl
  rotate_left
  ·
   simp only [Act.put, List.setIfInBounds_toArray, List.set_cons_zero, List.set_cons_succ, i64_w, i32_w]
   rfl
  refine pure_ (i := 10) (N := some 26) (v := ?_) (a' := ?_) #[true, true, true, true, true, true, true, true, true, true, true, false] rfl rfl (by kernel_rfl) (fun _ _ _ h => h) (Or.inl ⟨by rfl, ?_⟩) ?_ ?_
  rotate_left
  ·
   intro w'
   go_simp
   with_reducible rfl
  rotate_left
  ·
   simp only [Act.put, List.setIfInBounds_toArray, List.set_cons_zero, List.set_cons_succ, i64_w, i32_w]
   rfl
  refine last_ (i := 11) (N := none) #[true, true, true, true, true, true, true, true, true, true, true, true] rfl rfl (by kernel_rfl) (by decide) (fun K hK => ?_)
  refine skip_ (w1 := ?_) (by rfl) rfl ?_ ?_
  rotate_left
  ·
   go_simp
   rfl
  refine hK.out _ _ ?_
  clear hK K
  refine done_ (by kernel_rfl) ?_
  -- W]
  go_wp2_with fail
  go_ret
  have hk2 : Tur w w2 (fun k => k = t ∨ (Value.slice Av xs.length cv).ownBlock = some k) := Tur.of_grown hg2 (hk1.mono (fun _ h => .inl h)) (fun k hk => .inl (.inr hk))
  have hne2 : ∀ k, (Value.slice A2 (xs.length + zs.length) c2).ownBlock = some k → k ≠ t := fun k hk => by
   obtain ⟨cells, hc⟩ := (ho2.typed k hk).2
   exact blk_ne hc hb2 (by decide)
  have ho3 := ho2.kept ((Tur.refl w2 (fun k => k = t)).setCell (p := ⟨t, 0, none⟩) (.inl rfl) (.slice A2 (xs.length + zs.length) c2)) hne2
  refine ⟨rfl, hk2.setCell (p := ⟨t, 0, none⟩) (.inl (.inl rfl)) _, _, ⟨blk_put hb2 0 _ rfl, ?_, hge⟩, ?_⟩
  ·
   rw [← (show zs = ys.take zs.length from Hz)]; exact ho3
  ·
   rcases hat2 with h | ⟨b, h, hb⟩
   ·
    exact .inl h
   ·
    exact .inr (fun k hk => by rw [h] at hk; cases hk; omega)
end Go.Proofs.YtpoblffgclmmlaaGreatDoor.X
end
section
namespace Go.Proofs.YtpoblffgclmmlaaGreatDoor.Q
open Go.RowKit Go.Proofs.YtpoblffgclmmlaaGreatDoorW.PrintWords Go.Proofs.YtpoblffgclmmlaaGreatDoorW.PrintLast Go.Proofs.YtpoblffgclmmlaaGreatDoorW.PrintMore
attribute [local go_sem] max2_int min2_int max_two min_two max_three min_three max_four min_four   -- for this text's walks alone
open Go.Proofs.YtpoblffgclmmlaaGreatDoor.X
set_option linter.unusedVariables false
set_option linter.unusedSimpArgs false

theorem long_ints (N : Nat) : ((longL N).map fun c => (c.toNat : Int)) = [(N : Int) / 72057594037927936 % 256, (N : Int) / 281474976710656 % 256, (N : Int) / 1099511627776 % 256, (N : Int) / 4294967296 % 256, (N : Int) / 16777216 % 256, (N : Int) / 65536 % 256, (N : Int) / 256 % 256, (N : Int) % 256] := by
 have e (x : Nat) : (((x % 256).toUInt8.toNat : Nat) : Int) = (x : Int) % 256 := by
  rw [UInt8.toNat_ofNat']; omega
 simp only [longL, List.map_cons, List.map_nil, e]
 simp
set_option maxHeartbeats 40000000 in
set_option maxRecDepth 100000 in
theorem exequaturref01_Sum.says (b : ByteArray) (hb : b.size ≤ 1000000000) (w : World) : Calls Tryz.prog 141 #[.string b] w fun e w' => e = .returned (.string (sumS b.data.toList)) ∧ Below w.heap.size w w' := by
 go_enter Tryz.func141, Tryz.ntmps141
 go_upto_region 1 with fail
 apply wp_region_lit
 refine wpList_buildTo rfl 200 _ rfl (some 22) rfl (nums .u32 roundsL).toArray (by kernel_rfl) ?_
 go_upto_region 2 with (refine arr_store (arr_new w 200 (List.replicate 64 0) rfl) roundsL rfl 200 (.tmp 3) (.tmp 22) rfl rfl rfl rfl rfl ?_)
 refine wp_world ?_
 intro w1 hw1
 have hk1 : ArrK .u32 w1 w.heap.size 200 roundsL := by rw [hw1]; exact arr_setRow (arr_new w 200 (List.replicate 64 0) rfl) _
 have hbel1 : Below w.heap.size w w1 := by rw [hw1]; exact below_setRow ((Below.refl _ _).alloc (Nat.le_refl _) _) (Nat.le_refl _) _
 have hs1 : w.heap.size + 1 ≤ w1.heap.size := by rw [hw1]; simp
 clear hw1
 go_upto_region 3 with (refine arr_store (arr_new w1 201 (List.replicate 8 0) rfl) beginL rfl 201 (.tmp 4) (.tmp 23) rfl rfl rfl rfl rfl ?_)
 refine wp_world ?_
 intro w2 hw2
 have hb2 : Below w1.heap.size w1 w2 := by rw [hw2]; exact below_setRow ((Below.refl _ _).alloc (Nat.le_refl _) _) (Nat.le_refl _) _
 have hh2 : ArrK .u32 w2 w1.heap.size 201 beginL := by rw [hw2]; exact arr_setRow (arr_new w1 201 (List.replicate 8 0) rfl) _
 have hs2 : w1.heap.size + 1 ≤ w2.heap.size := by rw [hw2]; simp
 clear hw2
 have hk2 := arr_below hk1 hb2
 have hbel2 := below_then hbel1 (by omega) hb2
 clear hb2 hk1 hbel1
 have kb := fun (s : ByteArray) W => print_bytes (P := Tryz.prog) 9 40 5 Tryz.underlying9 Tryz.underlying40 Tryz.underlying5 s W
 go_upto_region 4 with ((with_reducible refine gate_builtin (b := .append) (xs := #[.tmp 25, .tmp 26]) rfl ?_); at_builtin; refine wpList_append_M (w0 := w2) (base := w2.heap.size) rfl (.tmp 25) (.tmp 26) rfl Tryz.underlying40 rfl rfl rfl rfl _ (bytesOf b) 128 rfl rfl (OwnM.of_bytes w2 _ _ (Nat.le_refl _) b (by simp only [maxLen]; omega)) (bytes_below (Below.refl _ _) (Nat.le_refl _) _ _) (by rw [Lib.bytesWorld_size]; omega) (by rw [bytesOf_length]; omega) ?_; intro v5 w3 hm hb3 hs3)
 clear kb
 go_loopw [5] (fun v5 wr => ∃ (j : Nat) (xs : List Int), j ≤ padFill b.size ∧ xs = bytesOf b ++ [128] ++ List.replicate j 0 ∧ OwnM wr w2.heap.size 5 v5 xs ∧ Below w2.heap.size w2 wr ∧ w2.heap.size ≤ wr.heap.size) (fun v5 _ => match v5 with | .slice _ n _ => b.size + 100 - n | _ => 0)
 case atStart => exact ⟨0, _, Nat.zero_le _, by simp, hm, hb3, hs3⟩
 case round =>
  clear hm hb3 hs3
  obtain ⟨j, xs, hj, hxs, hm, hbel, hs⟩ := hrel
  have hlen : xs.length = b.size + 1 + j := by rw [hxs]; simp [bytesOf_length]; omega
  have hp : padFill b.size < 64 := by unfold padFill; omega
  have Hxs := Lib.hid hxs
  clear hxs
  obtain ⟨g, cap, hv, -⟩ := hm.cell
  subst hv
  by_cases hlt : j < padFill b.size
  ·
   as_aux_lemma =>
   have hc : ((xs.length : Int) % 64 != 56) = true := by
    simp only [bne_iff_ne, ne_eq]
    unfold padFill at hlt hp; omega
   have hl1 : xs.length + 1 ≤ 140737488355328 := by omega
   have Hlen := Lib.hid hlen
   clear hlen
   go_wp2_with ((with_reducible refine gate_builtin (b := .append) (xs := #[.tmp 32, .tmp 33]) rfl ?_); at_builtin; refine wpList_append_M (w0 := w2) (base := w2.heap.size) rfl (.tmp 32) (.tmp 33) rfl Tryz.underlying40 rfl rfl rfl rfl _ xs 0 rfl rfl hm hbel hs hl1 ?_; intro v6 w6 hm6 hb6 hs6)
   obtain ⟨g6, cap6, hv6, -⟩ := hm6.cell
   subst hv6
   have Hlen2 : xs.length = b.size + 1 + j := Hlen
   exact ⟨⟨j + 1, _, by omega, by rw [show xs = bytesOf b ++ [128] ++ List.replicate j 0 from Hxs, List.replicate_succ']; simp, hm6, hb6, hs6⟩, by show b.size + 100 - (xs ++ [0]).length < b.size + 100 - xs.length; rw [List.length_append]; simp; omega⟩
  ·
   have hc : ((xs.length : Int) % 64 != 56) = false := by
    simp only [bne_eq_false_iff_eq]
    obtain rfl : j = padFill b.size := by omega
    rw [hlen]; unfold padFill; omega
   obtain rfl : j = padFill b.size := by omega
   have Hlen := Lib.hid hlen
   clear hlen
   clear hj hlt
   go_upto_region 8 with fail
   clear hc
   obtain ⟨N, hN⟩ : ∃ N : Nat, (8 : Int) * (b.size : Int) = (N : Int) := ⟨8 * b.size, by omega⟩
   rw [hN]
   have HN := Lib.hid hN
   have HL := Lib.hid (long_ints N)
   clear hN hp
   go_loopw [5, 7] (fun v5 v7 wr => ∃ (t : Nat), t ≤ 8 ∧ v7 = .int .i64 (7 - (t : Int)) ∧ OwnM wr w2.heap.size 5 v5 (xs ++ ((longL N).map fun c => (c.toNat : Int)).take t) ∧ Below w2.heap.size w2 wr ∧ w2.heap.size ≤ wr.heap.size) (fun _ v7 _ => (intOf v7 + 1).toNat)
   case atStart => exact ⟨0, by omega, rfl, by simpa using hm, hbel, hs⟩
   case round =>
    clear hm hbel hs
    obtain ⟨t, ht, rfl, hm, hbel, hs⟩ := hrel
    obtain ⟨g2, cap2, hv, -⟩ := hm.cell
    subst hv
    by_cases hlt : t < 8
    ·
     as_aux_lemma =>
     have hl1 : (xs ++ ((longL N).map fun c => (c.toNat : Int)).take t).length + 1 ≤ 140737488355328 := by
      have : xs.length = b.size + 1 + padFill b.size := Hlen
      have hp : padFill b.size < 64 := by unfold padFill; omega
      simp [longL]; omega
     have ht8 : t = 0 ∨ t = 1 ∨ t = 2 ∨ t = 3 ∨ t = 4 ∨ t = 5 ∨ t = 6 ∨ t = 7 := by omega
     rcases ht8 with rfl | rfl | rfl | rfl | rfl | rfl | rfl | rfl
     all_goals
      go_wp2_with ((with_reducible refine gate_builtin (b := .append) (xs := #[.tmp 43, .tmp 50]) rfl ?_); at_builtin; refine wpList_append_M (w0 := w2) (base := w2.heap.size) rfl (.tmp 43) (.tmp 50) rfl Tryz.underlying40 rfl rfl rfl rfl _ _ _ rfl rfl hm hbel hs hl1 ?_; intro v6 w6 hm6 hb6 hs6)
      rw [show ((longL N).map fun c => (c.toNat : Int)) = [(N : Int) / 72057594037927936 % 256, (N : Int) / 281474976710656 % 256, (N : Int) / 1099511627776 % 256, (N : Int) / 4294967296 % 256, (N : Int) / 16777216 % 256, (N : Int) / 65536 % 256, (N : Int) / 256 % 256, (N : Int) % 256] from HL] at hm6 ⊢
      first
      | exact ⟨⟨1, by omega, by go_num, by simpa using hm6, hb6, hs6⟩, by simp [intOf]⟩
      | exact ⟨⟨2, by omega, by go_num, by simpa using hm6, hb6, hs6⟩, by simp [intOf]⟩
      | exact ⟨⟨3, by omega, by go_num, by simpa using hm6, hb6, hs6⟩, by simp [intOf]⟩
      | exact ⟨⟨4, by omega, by go_num, by simpa using hm6, hb6, hs6⟩, by simp [intOf]⟩
      | exact ⟨⟨5, by omega, by go_num, by simpa using hm6, hb6, hs6⟩, by simp [intOf]⟩
      | exact ⟨⟨6, by omega, by go_num, by simpa using hm6, hb6, hs6⟩, by simp [intOf]⟩
      | exact ⟨⟨7, by omega, by go_num, by simpa using hm6, hb6, hs6⟩, by simp [intOf]⟩
      | exact ⟨⟨8, by omega, by go_num, by simpa using hm6, hb6, hs6⟩, by simp [intOf]⟩
      | trace_state
    ·
     obtain rfl : t = 8 := by omega
     have hP : xs ++ ((longL N).map fun c => (c.toNat : Int)).take 8 = (padL b.data.toList).map fun c => (c.toNat : Int) := by
      rw [List.take_of_length_le (by simp [longL])]
      have hN2 : N = 8 * b.size := by have := (show (8 : Int) * (b.size : Int) = (N : Int) from HN); omega
      rw [show xs = bytesOf b ++ [128] ++ List.replicate (padFill b.size) 0 from Hxs, hN2]
      unfold padL
      simp only [List.map_append, List.map_cons, List.map_nil, List.map_replicate]
      rw [data_length b]
      rfl
     rw [hP] at hm ⊢
     clear hP HN Hxs Hlen
     have hk3 : ArrK .u32 wr w.heap.size 200 roundsL := (hbel.block _ (by omega)).trans hk2
     have hh3 : ArrK .u32 wr w1.heap.size 201 beginL := (hbel.block _ (by omega)).trans hh2
     have hbel3 : Below w.heap.size w wr := below_then hbel2 (by omega) hbel
     have lP := padL_mod b.data.toList
     have lQ : ((padL b.data.toList).map fun c => (c.toNat : Int)).length = (padL b.data.toList).length := List.length_map _
     have hMs : (padL b.data.toList).length ≤ 1000000200 := by
      rw [padL_length, data_length]; unfold padFill; omega
     obtain ⟨P, hP⟩ : ∃ P, P = padL b.data.toList := ⟨_, rfl⟩
     rw [← hP] at lP lQ hm hMs ⊢
     have HP := Lib.hid hP
     obtain ⟨M, hM⟩ : ∃ M : List Int, M = P.map fun c => (c.toNat : Int) := ⟨_, rfl⟩
     rw [← hM] at lQ hm ⊢
     have HM := Lib.hid hM
     clear hP hM hk2 hh2 hbel2 hbel
     have LQ := Lib.hid lQ
     rw [lQ] at hm ⊢
     clear lQ
     go_upto_region 12 with fail
     go_loopw [8] (fun v8 wr => ∃ k : Nat, 64 * k ≤ P.length ∧ v8 = .int .i64 (64 * (k : Int)) ∧ OwnM wr w2.heap.size 5 (.slice (some ⟨g2, 0, none⟩) P.length cap2) M ∧ ArrK .u32 wr w.heap.size 200 roundsL ∧ ArrK .u32 wr w1.heap.size 201 (statesTo P k) ∧ Below w.heap.size w wr ∧ w2.heap.size ≤ wr.heap.size) (fun v8 _ => P.length + 64 - (intOf v8).toNat)
     case atStart => exact ⟨0, by omega, rfl, hm, hk3, hh3, hbel3, hs⟩
     case round =>
      clear hm hk3 hh3 hbel3 hs
      obtain ⟨k, hk, rfl, hm, hk3, hh3, hbel, hs⟩ := hrel
      by_cases hlt : 64 * k < P.length
      ·
       have hc : decide ((64 : Int) * (k : Int) < (P.length : Int)) = true := by simp; omega
       have hc2 : ((64 : Int) * (k : Int) < (P.length : Int)) = True := by simp; omega
       go_upto_region 16 with fail
       refine wp_world ?_
       intro w7 hw7
       have hW7 : ArrK .u32 w7 wr.heap.size 200 (List.replicate 64 0) := by rw [hw7]; exact arr_new wr 200 (List.replicate 64 0) rfl
       have hb7 : Below wr.heap.size wr w7 := by rw [hw7]; exact (Below.refl _ _).alloc (Nat.le_refl _) _
       have hs7 : wr.heap.size + 1 ≤ w7.heap.size := by rw [hw7]; simp
       clear hw7
       obtain ⟨wo, rfl⟩ : ∃ wo : World, wo = wr := ⟨_, rfl⟩
       go_loopw [10] (fun v10 wr => ∃ i : Nat, i ≤ 64 ∧ v10 = .int .i64 i ∧ ArrK .u32 wr wo.heap.size 200 (sprTo (blockOf P k) i) ∧ Below wo.heap.size wo wr ∧ wo.heap.size + 1 ≤ wr.heap.size) (fun v10 _ => 64 - (intOf v10).toNat)
       case atStart => exact ⟨0, by omega, rfl, hW7, hb7, hs7⟩
       case round =>
        clear hW7 hb7 hs7
        obtain ⟨i, hi, rfl, hW, hb8, hs8⟩ := hrel
        have hm8 : OwnM _ w2.heap.size 5 (.slice (some ⟨g2, 0, none⟩) P.length cap2) M := hm.kept (fun k hk => hb8.block k (hm.lt k hk).2)
        by_cases hlt : i < 64
        ·
         have hdec : decide ((i : Int) < 64) = true := by simp; omega
         by_cases h16 : i < 16
         ·
          as_aux_lemma =>
          have hd16 : decide ((i : Int) < 16) = true := by simp; omega
          go_upto_region 20 with fail
          obtain ⟨g3, cap3, hv3, hg3, hcl⟩ := hm8.cell
          obtain rfl : g2 = g3 := by simp at hv3; exact hv3.1
          obtain ⟨q, hq⟩ : ∃ q : Nat, q = 64 * k + 4 * i := ⟨_, rfl⟩
          have hqe : (64 : Int) * (k : Int) + 4 * (i : Int) = (q : Int) := by omega
          have hql : q + 3 < P.length := by omega
          rw [show M.length = P.length from LQ] at hcl
          have m0 := hcl q (by omega)
          have m1 := hcl (q + 1) (by omega)
          have m2 := hcl (q + 2) (by omega)
          have m3 := hcl (q + 3) (by omega)
          have hWc := arr_cell hW i (by rw [sprTo_length]; omega)
          have hWf := arr_frozen hW i
          have e1 : IntKind.i64.wrap ((q : Int) + 1) = (q : Int) + 1 := IntWalk.i64_in _ (by omega)
          have e2 : IntKind.i64.wrap ((q : Int) + 2) = (q : Int) + 2 := IntWalk.i64_in _ (by omega)
          have e3 : IntKind.i64.wrap ((q : Int) + 3) = (q : Int) + 3 := IntWalk.i64_in _ (by omega)
          have t1 : ((q : Int) + 1).toNat = q + 1 := by omega
          have t2 : ((q : Int) + 2).toNat = q + 2 := by omega
          have t3 : ((q : Int) + 3).toNat = q + 3 := by omega
          have b0 : ((q : Int) < (P.length : Int)) = True := by simp; omega
          have b1 : (0 ≤ (q : Int) + 1 ∧ (q : Int) + 1 < (P.length : Int)) = True := by simp; omega
          have b2 : (0 ≤ (q : Int) + 2 ∧ (q : Int) + 2 < (P.length : Int)) = True := by simp; omega
          have b3 : (0 ≤ (q : Int) + 3 ∧ (q : Int) + 3 < (P.length : Int)) = True := by simp; omega
          have bi : ((i : Int) < 64) = True := by simp; omega
          rw [hqe]
          have Hq := Lib.hid hq
          clear hq hqe hql hv3 hg3 hcl hc hc2 hdec hd16
          go_still_tail 31, (by kernel_rfl)
          change wpList _ _ _ _ _ wr.drew
          have hW9 : ArrK .u32 wr.drew wo.heap.size 200 (sprTo (blockOf P k) i) := hW
          have hb9 : Below wo.heap.size wo wr.drew := below_drew hb8
          have hs9 : wo.heap.size + 1 ≤ wr.drew.heap.size := hs8
          clear m0 m1 m2 m3 hWc hWf hm8 hW hb8 hs8
          generalize wr.drew = w9 at hW9 hb9 hs9 ⊢
          have hWc := arr_cell hW9 i (by rw [sprTo_length]; omega)
          have hWf := arr_frozen hW9 i
          go_wp2_with fail
          have hPk : 64 * k + 64 ≤ P.length := by omega
          have Hq2 : q = 64 * k + 4 * i := Hq
          have hspr := sprGet_at P k i q h16 hPk Hq2
          have r0 := rd_nat_lt P q (by omega)
          have r1 := rd_nat_lt P (q + 1) (by omega)
          have r2 := rd_nat_lt P (q + 2) (by omega)
          have r3 := rd_nat_lt P (q + 3) (by omega)
          rw [← (show M = P.map fun c => (c.toNat : Int) from HM)] at hspr r0 r1 r2 r3
          rw [show ((q + 1 : Nat) : Int) = (q : Int) + 1 by omega, show ((q + 2 : Nat) : Int) = (q : Int) + 2 by omega, show ((q + 3 : Nat) : Int) = (q : Int) + 3 by omega] at hspr
          rw [show ((q + 1 : Nat) : Int) = (q : Int) + 1 by omega] at r1
          rw [show ((q + 2 : Nat) : Int) = (q : Int) + 2 by omega] at r2
          rw [show ((q + 3 : Nat) : Int) = (q : Int) + 3 by omega] at r3
          have key : ∀ V, V = sprGet (blockOf P k) i → ArrK .u32 (w9.setCell ⟨wo.heap.size, i, none⟩ (.int .u32 V)) wo.heap.size 200 (sprTo (blockOf P k) (i + 1)) := by
           intro V hV
           rw [hV, sprTo_get _ _ h16]
           exact arr_set hW9 i _
          refine ⟨?_, ?measure⟩
          apply Exists.intro
          (repeat apply Exists.intro)
          refine ⟨?rel, rfl⟩
          case measure => simp [intOf]; omega
          case rel =>
           refine ⟨i + 1, by omega, by go_num, key _ ?_, hb9.setCell (p := ⟨wo.heap.size, i, none⟩) (Nat.le_refl _) _, by simpa using hs9⟩
           rw [hspr]
           omega
         ·
          as_aux_lemma =>
          have hd16 : decide ((i : Int) < 16) = false := by simp; omega
          obtain ⟨j, rfl⟩ : ∃ j, i = j + 16 := ⟨i - 16, by omega⟩
          have l0 := sprTo_length (blockOf P k) (j + 16)
          obtain ⟨xw, hxw⟩ : ∃ xw, xw = sprTo (blockOf P k) (j + 16) := ⟨_, rfl⟩
          rw [← hxw] at l0 hW
          have Hxw := Lib.hid hxw
          clear hxw hc hc2 hm8
          have c15 := arr_cell hW (j + 1) (by omega)
          have e15 : IntKind.i64.wrap ((j : Int) + 16 - 15) = (j : Int) + 1 := (IntWalk.i64_in _ (by omega)).trans (by omega)
          have e15b : IntKind.i64.wrap ((j : Int) + 1) = (j : Int) + 1 := IntWalk.i64_in _ (by omega)
          have t15 : ((j : Int) + 1).toNat = j + 1 := by omega
          have b15 : (0 ≤ (j : Int) + 1 ∧ (j : Int) + 1 < 64) = True := by simp; omega
          go_upto_region 21 with fail
          refine wp_region_still_lit (by kernel_rfl) (by kernel_rfl) ?_
          repeat still_step
          still_call (turn_7 _ _)
          repeat still_step
          still_call (turn_18 _ _)
          repeat still_step
          refine wpStill_nil ?_
          change Exit.then _ _ _ _ wr.drew
          have hW2 : ArrK .u32 wr.drew wo.heap.size 200 xw := hW
          have hb9 : Below wo.heap.size wo wr.drew := below_drew hb8
          have hs9 : wo.heap.size + 1 ≤ wr.drew.heap.size := hs8
          clear c15 e15 e15b t15 b15 hW hb8 hs8
          generalize wr.drew = w9 at hW2 hb9 hs9 ⊢
          have c14 := arr_cell hW2 (j + 14) (by omega)
          have e14 : IntKind.i64.wrap ((j : Int) + 16 - 2) = (j : Int) + 14 := (IntWalk.i64_in _ (by omega)).trans (by omega)
          have e14b : IntKind.i64.wrap ((j : Int) + 14) = (j : Int) + 14 := IntWalk.i64_in _ (by omega)
          have t14 : ((j : Int) + 14).toNat = j + 14 := by omega
          have b14 : (0 ≤ (j : Int) + 14 ∧ (j : Int) + 14 < 64) = True := by simp; omega
          go_upto_region 22 with fail
          refine wp_region_still_lit (by kernel_rfl) (by kernel_rfl) ?_
          repeat still_step
          still_call (turn_17 _ _)
          repeat still_step
          still_call (turn_19 _ _)
          repeat still_step
          refine wpStill_nil ?_
          change Exit.then _ _ _ _ w9.drew
          have hW3 : ArrK .u32 w9.drew wo.heap.size 200 xw := hW2
          have hb10 : Below wo.heap.size wo w9.drew := below_drew hb9
          have hs10 : wo.heap.size + 1 ≤ w9.drew.heap.size := hs9
          clear c14 e14 e14b t14 b14 hW2 hb9 hs9
          generalize w9.drew = w10 at hW3 hb10 hs10 ⊢
          go_upto_region 23 with fail
          obtain ⟨x, hx⟩ : ∃ x, x = lowW (rd xw ((j : Int) + 1)) := ⟨_, rfl⟩
          obtain ⟨y, hy⟩ : ∃ y, y = highW (rd xw ((j : Int) + 14)) := ⟨_, rfl⟩
          rw [show bits BinOp.xor IntKind.u32 (bits BinOp.xor IntKind.u32 (rr (rd xw ((j : Int) + 1)) 7) (rr (rd xw ((j : Int) + 1)) 18)) (rd xw ((j : Int) + 1) / 8) = x from hx.symm]
          rw [show bits BinOp.xor IntKind.u32 (bits BinOp.xor IntKind.u32 (rr (rd xw ((j : Int) + 14)) 17) (rr (rd xw ((j : Int) + 14)) 19)) (rd xw ((j : Int) + 14) / 1024) = y from hy.symm]
          have Hx := Lib.hid hx
          have Hy := Lib.hid hy
          clear hx hy
          have e16 : IntKind.i64.wrap (j : Int) = (j : Int) := IntWalk.i64_in _ (by omega)
          have e7 : IntKind.i64.wrap ((j : Int) + 16 - 7) = (j : Int) + 9 := (IntWalk.i64_in _ (by omega)).trans (by omega)
          have e7b : IntKind.i64.wrap ((j : Int) + 9) = (j : Int) + 9 := IntWalk.i64_in _ (by omega)
          have t7 : ((j : Int) + 9).toNat = j + 9 := by omega
          have e0 : ((j : Int) + 16).toNat = j + 16 := by omega
          have b16 : ((j : Int) < 64) = True := by simp; omega
          have b7 : (0 ≤ (j : Int) + 9 ∧ (j : Int) + 9 < 64) = True := by simp; omega
          have b0 : (0 ≤ (j : Int) + 16 ∧ (j : Int) + 16 < 64) = True := by simp; omega
          have b0b : (0 ≤ (j : Int) + 16) = True := by simp; omega
          have c16 := arr_cell hW3 j (by omega)
          have c7 := arr_cell hW3 (j + 9) (by omega)
          have c0 := arr_cell hW3 (j + 16) (by omega)
          have hf := arr_frozen hW3 (j + 16)
          clear l0
          go_still_tail 15, (by kernel_rfl)
          change wpList _ _ _ _ _ w10.drew
          have hW4 : ArrK .u32 w10.drew wo.heap.size 200 xw := hW3
          have hb11 : Below wo.heap.size wo w10.drew := below_drew hb10
          have hs11 : wo.heap.size + 1 ≤ w10.drew.heap.size := hs10
          clear c16 c7 c0 hf hW3 hb10 hs10
          generalize w10.drew = w11 at hW4 hb11 hs11 ⊢
          have l0 : xw.length = 64 := by rw [show xw = sprTo (blockOf P k) (j + 16) from Hxw]; exact sprTo_length _ _
          have hf := arr_frozen hW4 (j + 16)
          have c0 := arr_cell hW4 (j + 16) (by omega)
          clear l0
          go_wp2_with fail
          have key : ∀ V, V = sprNew xw (j + 16) → ArrK .u32 (w11.setCell ⟨wo.heap.size, j + 16, none⟩ (.int .u32 V)) wo.heap.size 200 (sprTo (blockOf P k) (j + 16 + 1)) := by
           intro V hV
           rw [hV, sprTo_new _ _ (by omega), ← (show xw = sprTo (blockOf P k) (j + 16) from Hxw)]
           exact arr_set hW4 (j + 16) _
          refine ⟨?_, ?measure⟩
          apply Exists.intro
          (repeat apply Exists.intro)
          refine ⟨?rel, rfl⟩
          case measure => simp [intOf]; omega
          case rel =>
           refine ⟨j + 16 + 1, by omega, by go_num, key _ ?_, hb11.setCell (p := ⟨wo.heap.size, j + 16, none⟩) (Nat.le_refl _) _, by simpa using hs11⟩
           rw [show x = lowW (rd xw ((j : Int) + 1)) from Hx, show y = highW (rd xw ((j : Int) + 14)) from Hy]
           unfold sprNew
           rw [show ((j + 16 : Nat) : Int) - 16 = (j : Int) by omega, show ((j + 16 : Nat) : Int) - 15 = (j : Int) + 1 by omega, show ((j + 16 : Nat) : Int) - 7 = (j : Int) + 9 by omega, show ((j + 16 : Nat) : Int) - 2 = (j : Int) + 14 by omega]
        ·
         obtain rfl : i = 64 := by omega
         have hm9 : OwnM _ w2.heap.size 5 (.slice (some ⟨g2, 0, none⟩) P.length cap2) M := hm8
         have hk9 := arr_below hk3 hb8
         have hh9 := arr_below hh3 hb8
         have hbel9 := below_then hbel (by omega) hb8
         have hsz9 : w2.heap.size + 1 ≤ wr.heap.size := by omega
         clear hm hm8 hk3 hh3 hbel hb8 hc hc2 hi hlt
         have lh := statesTo_length P k
         obtain ⟨hs, hhs⟩ : ∃ hs, hs = statesTo P k := ⟨_, rfl⟩
         rw [← hhs] at lh hh9
         have Hhs := Lib.hid hhs
         clear hhs
         have lX := sprTo_length (blockOf P k) 64
         obtain ⟨xw, hxw⟩ : ∃ xw, xw = sprTo (blockOf P k) 64 := ⟨_, rfl⟩
         rw [← hxw] at lX hW
         have Hxw := Lib.hid hxw
         clear hxw
         go_upto_region 26 with (first | refine arr_load hh9 201 (.tmp 4) rfl rfl rfl rfl (by rw [lh]; rfl) ?_ | refine arr_store (arr_new wr 201 (List.replicate 8 0) rfl) hs (by rw [lh]; rfl) 201 (.tmp 14) (.tmp 148) rfl rfl rfl rfl (by rw [lh]; rfl) ?_)
         refine wp_world ?_
         intro w3 hw3
         have hS3 : ArrK .u32 w3 wr.heap.size 201 hs := by rw [hw3]; exact arr_setRow (arr_new wr 201 (List.replicate 8 0) rfl) _
         have hb3 : Below wr.heap.size wr w3 := by rw [hw3]; exact below_setRow ((Below.refl _ _).alloc (Nat.le_refl _) _) (Nat.le_refl _) _
         have hs3 : wr.heap.size + 1 ≤ w3.heap.size := by rw [hw3]; simp
         clear hw3
         obtain ⟨wt, rfl⟩ : ∃ wt : World, wt = wr := ⟨_, rfl⟩
         go_loopw [15] (fun v15 wr => ∃ i : Nat, i ≤ 64 ∧ v15 = .int .i64 i ∧ ArrK .u32 wr wt.heap.size 201 (mixTo xw hs i) ∧ Below wt.heap.size wt wr ∧ wt.heap.size + 1 ≤ wr.heap.size) (fun v15 _ => 64 - (intOf v15).toNat)
         case atStart => exact ⟨0, by omega, rfl, hS3, hb3, hs3⟩
         case round =>
          clear hS3 hb3 hs3
          obtain ⟨i, hi, rfl, hS, hb, hsz⟩ := hrel
          by_cases hlt : i < 64
          ·
           as_aux_lemma =>
           have hdec : decide ((i : Int) < 64) = true := by simp; omega
           have lS := mixTo_length xw hs lh i
           obtain ⟨ss, hss⟩ : ∃ ss, ss = mixTo xw hs i := ⟨_, rfl⟩
           rw [← hss] at lS hS
           have Hss := Lib.hid hss
           clear hss
           have s4 := arr_cell hS 4 (by omega)
           have s5 := arr_cell hS 5 (by omega)
           have s6 := arr_cell hS 6 (by omega)
           have s7 := arr_cell hS 7 (by omega)
           have x0 := arr_cell (arr_below hW hb) i (by omega)
           have k0 := arr_cell (arr_below hk9 hb) i hlt
           have b0 : ((i : Int) < 64) = True := by simp; omega
           go_upto_region 28 with fail
           refine wp_region_still_lit (by kernel_rfl) (by kernel_rfl) ?_
           repeat still_step
           still_call (turn_6 _ _)
           repeat still_step
           still_call (turn_11 _ _)
           repeat still_step
           still_call (turn_25 _ _)
           repeat still_step
           refine wpStill_nil ?_
           change Exit.then _ _ _ _ wr.drew
           rw [show (if IntKind.u32.signed = true then (-1 : Int) else IntKind.u32.max) = 4294967295 from rfl]
           obtain ⟨one, hone⟩ : ∃ one, one = mixOne xw ss i := ⟨_, rfl⟩
           rw [show IntKind.u32.wrap (IntKind.u32.wrap (IntKind.u32.wrap (IntKind.u32.wrap (rd ss 7 + bits BinOp.xor IntKind.u32 (bits BinOp.xor IntKind.u32 (rr (rd ss 4) 6) (rr (rd ss 4) 11)) (rr (rd ss 4) 25)) + bits BinOp.xor IntKind.u32 (bits BinOp.and IntKind.u32 (rd ss 4) (rd ss 5)) (bits BinOp.and IntKind.u32 (bits BinOp.xor IntKind.u32 4294967295 (rd ss 4)) (rd ss 6))) + rd roundsL i) + rd xw i) = one from hone.symm]
           have Hone := Lib.hid hone
           have hS2 : ArrK .u32 wr.drew wt.heap.size 201 ss := hS
           have hb9 : Below wt.heap.size wt wr.drew := below_drew hb
           have hs9 : wt.heap.size + 1 ≤ wr.drew.heap.size := hsz
           clear hone hS hb hsz s4 s5 s6 s7 x0 k0 b0
           generalize wr.drew = w9 at hS2 hb9 hs9 ⊢
           have s0 := arr_cell hS2 0 (by omega)
           have s1 := arr_cell hS2 1 (by omega)
           have s2 := arr_cell hS2 2 (by omega)
           go_upto_region 29 with fail
           refine wp_region_still_lit (by kernel_rfl) (by kernel_rfl) ?_
           repeat still_step
           still_call (turn_2 _ _)
           repeat still_step
           still_call (turn_13 _ _)
           repeat still_step
           still_call (turn_22 _ _)
           repeat still_step
           refine wpStill_nil ?_
           change Exit.then _ _ _ _ w9.drew
           obtain ⟨two, htwo⟩ : ∃ two, two = mixTwo ss := ⟨_, rfl⟩
           rw [show IntKind.u32.wrap (bits BinOp.xor IntKind.u32 (bits BinOp.xor IntKind.u32 (rr (rd ss 0) 2) (rr (rd ss 0) 13)) (rr (rd ss 0) 22) + bits BinOp.xor IntKind.u32 (bits BinOp.xor IntKind.u32 (bits BinOp.and IntKind.u32 (rd ss 0) (rd ss 1)) (bits BinOp.and IntKind.u32 (rd ss 0) (rd ss 2))) (bits BinOp.and IntKind.u32 (rd ss 1) (rd ss 2))) = two from htwo.symm]
           have Htwo := Lib.hid htwo
           have hS3 : ArrK .u32 w9.drew wt.heap.size 201 ss := hS2
           have hb10 : Below wt.heap.size wt w9.drew := below_drew hb9
           have hs10 : wt.heap.size + 1 ≤ w9.drew.heap.size := hs9
           clear htwo hS2 hb9 hs9 s0 s1 s2
           generalize w9.drew = w10 at hS3 hb10 hs10 ⊢
           have LS := Lib.hid lS
           have lsh := (shiftTo_length ss 7).trans lS
           clear lS hdec
           go_upto_region 31 with fail
           go_loopw [18] (fun v18 wr => ∃ j : Nat, j ≤ 7 ∧ v18 = .int .i64 j ∧ ArrK .u32 wr wt.heap.size 201 (shiftTo ss (7 - j)) ∧ Below wt.heap.size wt wr ∧ wt.heap.size + 1 ≤ wr.heap.size) (fun v18 _ => (intOf v18).toNat)
           case atStart => exact ⟨7, by omega, rfl, hS3, hb10, hs10⟩
           case round =>
            clear hS3 hb10 hs10
            obtain ⟨j, hj, rfl, hS, hb, hsz⟩ := hrel
            by_cases hpos : 0 < j
            ·
             obtain ⟨q, rfl⟩ : ∃ q, j = q + 1 := ⟨j - 1, by omega⟩
             have lT : (shiftTo ss (7 - (q + 1))).length = 8 := (shiftTo_length ss _).trans LS
             obtain ⟨sh, hsh⟩ : ∃ sh, sh = shiftTo ss (7 - (q + 1)) := ⟨_, rfl⟩
             rw [← hsh] at lT hS
             have Hsh := Lib.hid hsh
             clear hsh
             have hdec : decide ((0 : Int) < ((q + 1 : Nat) : Int)) = true := by simp
             have g0 : ((0 : Int) < (q : Int) + 1) = True := eq_true (by omega)
             have g1 : (0 ≤ (q : Int) + 1) = True := by simp; omega
             have g2 : ((q : Int) + 1 < 8) = True := by simp; omega
             have g3 : ((q : Int) < 8) = True := by simp; omega
             have g4 : ((q : Int) + 1).toNat = q + 1 := by omega
             have g5 : IntKind.i64.wrap (q : Int) = (q : Int) := IntWalk.i64_in _ (by omega)
             have g6 : IntKind.i64.wrap ((q : Int) + 1 - 1) = (q : Int) := (IntWalk.i64_in _ (by omega)).trans (by omega)
             have c0 := arr_cell hS q (by omega)
             have c1 := arr_cell hS (q + 1) (by omega)
             have f1 := arr_frozen hS (q + 1)
             have LT := Lib.hid lT
             clear lT
             go_upto_region 33 with fail
             go_wp2_with fail
             have hrow : ArrK .u32 (wr.setCell ⟨wt.heap.size, q + 1, none⟩ (.int .u32 (rd sh (q : Int)))) wt.heap.size 201 (shiftTo ss (7 - q)) := by
              rw [show 7 - q = (7 - (q + 1)) + 1 by omega, shiftTo_succ, ← (show sh = shiftTo ss (7 - (q + 1)) from Hsh), show 7 - (7 - (q + 1)) = q + 1 by omega, show 6 - (7 - (q + 1)) = q by omega]
              exact arr_set hS (q + 1) _
             exact ⟨⟨q, by omega, by go_num, hrow, hb.setCell (p := ⟨wt.heap.size, q + 1, none⟩) (Nat.le_refl _) _, by simpa using hsz⟩, by simp [intOf]⟩
            ·
             obtain rfl : j = 0 := by omega
             clear hpos hj
             rw [show 7 - 0 = 7 from rfl] at hS
             obtain ⟨sh, hsh⟩ : ∃ sh, sh = shiftTo ss 7 := ⟨_, rfl⟩
             rw [← hsh] at lsh hS
             have Hsh := Lib.hid hsh
             clear hsh
             have c4 := arr_cell hS 4 (by omega)
             have f4 := arr_frozen hS 4
             go_upto_region 35 with fail
             refine wp_world ?_
             intro w11 hw11
             have hS5 : ArrK .u32 w11 wt.heap.size 201 (sh.set 4 (w32 (rd sh 4 + one))) := by
              rw [hw11]; (first | exact arr_set hS 4 _ | (unfold w32; rw [IntKind.wrap_u32]; exact arr_set hS 4 _))
             have hb11 : Below wt.heap.size wt w11 := by rw [hw11]; exact hb.setCell (p := ⟨wt.heap.size, 4, none⟩) (Nat.le_refl _) _
             have hs11 : wt.heap.size + 1 ≤ w11.heap.size := by rw [hw11]; simpa using hsz
             clear hw11 c4 f4 hS hb hsz
             have lsh2 : (sh.set 4 (w32 (rd sh 4 + one))).length = 8 := by rw [List.length_set]; exact lsh
             have c0 := arr_cell hS5 0 (by omega)
             have f0 := arr_frozen hS5 0
             clear lsh2 lsh
             go_upto_region 27 with fail
             refine wp_world ?_
             intro w12 hw12
             have hS6 : ArrK .u32 w12 wt.heap.size 201 (mixTo xw hs (i + 1)) := by
              rw [hw12, mixTo_succ, ← (show ss = mixTo xw hs i from Hss), ← shift_is xw ss LS i one two Hone Htwo, ← (show sh = shiftTo ss 7 from Hsh)]
              (first | exact arr_set hS5 0 _ | (unfold w32; simp only [IntKind.wrap_u32]; exact arr_set hS5 0 _))
             have hb12 : Below wt.heap.size wt w12 := by rw [hw12]; exact hb11.setCell (p := ⟨wt.heap.size, 0, none⟩) (Nat.le_refl _) _
             have hs12 : wt.heap.size + 1 ≤ w12.heap.size := by rw [hw12]; simpa using hs11
             clear hw12 c0 f0 hS5 hb11 hs11
             go_wp2_with fail
             exact ⟨⟨i + 1, by omega, by go_num, hS6, hb12, hs12⟩, by simp [intOf]; omega⟩
          ·
           as_aux_lemma =>
           obtain rfl : i = 64 := by omega
           clear hlt hi
           have lS := mixTo_length xw hs lh 64
           obtain ⟨SS, hSS⟩ : ∃ SS, SS = mixTo xw hs 64 := ⟨_, rfl⟩
           rw [← hSS] at hS lS
           have HSS := Lib.hid hSS
           clear hSS
           have hk3 := arr_below hk9 hb
           have hh3 := arr_below hh9 hb
           have hbel3 := below_then hbel9 (by omega) hb
           have hm3 : OwnM wr w2.heap.size 5 (.slice (some ⟨g2, 0, none⟩) P.length cap2) M := hm9.kept (fun k hk => hb.block k (hm9.lt k hk).2)
           have hlow : w2.heap.size + 1 ≤ wr.heap.size := by omega
           have hsz3 : wt.heap.size + 1 ≤ wr.heap.size := hsz
           clear hk9 hh9 hbel9 hm9 hb hsz hW lX
           go_upto_region 37 with fail
           go_loopw [19] (fun v19 wr => ∃ j : Nat, j ≤ 8 ∧ v19 = .int .i64 j ∧ OwnM wr w2.heap.size 5 (.slice (some ⟨g2, 0, none⟩) P.length cap2) M ∧ ArrK .u32 wr w.heap.size 200 roundsL ∧ ArrK .u32 wr w1.heap.size 201 (addTo SS hs j) ∧ ArrK .u32 wr wt.heap.size 201 SS ∧ Below w.heap.size w wr ∧ w2.heap.size + 1 ≤ wr.heap.size) (fun v19 _ => 8 - (intOf v19).toNat)
           case atStart => exact ⟨0, by omega, rfl, hm3, hk3, hh3, hS, hbel3, hlow⟩
           case round =>
            clear hm3 hk3 hh3 hS hbel3 hlow hsz3
            obtain ⟨j, hj, rfl, hm3, hk3, hh3, hS, hbel3, hlow⟩ := hrel
            by_cases hlt : j < 8
            ·
             have hdec : decide ((j : Int) < 8) = true := by simp; omega
             have b0 : ((j : Int) < 8) = True := by simp; omega
             have la := (addTo_length SS hs j).trans lh
             obtain ⟨hj2, hhj⟩ : ∃ xs, xs = addTo SS hs j := ⟨_, rfl⟩
             rw [← hhj] at hh3 la
             have Hhj := Lib.hid hhj
             clear hhj
             have c0 := arr_cell hh3 j (by omega)
             have d0 := arr_cell hS j (by omega)
             have f0 := arr_frozen hh3 j
             have LA := Lib.hid la
             clear la
             go_upto_region 39 with fail
             go_still_tail 9, (by kernel_rfl)
             change wpList _ _ _ _ _ wr.drew
             have hbel4 : Below w.heap.size w wr.drew := below_drew hbel3
             have hm4 : OwnM wr.drew w2.heap.size 5 (.slice (some ⟨g2, 0, none⟩) P.length cap2) M := hm3
             have hk4 : ArrK .u32 wr.drew w.heap.size 200 roundsL := hk3
             have hh4 : ArrK .u32 wr.drew w1.heap.size 201 hj2 := hh3
             have hS4 : ArrK .u32 wr.drew wt.heap.size 201 SS := hS
             have hlow4 : w2.heap.size + 1 ≤ wr.drew.heap.size := hlow
             clear hbel3 hm3 hk3 hh3 hS hlow c0 d0 f0
             generalize wr.drew = w6 at hbel4 hm4 hk4 hh4 hS4 hlow4 ⊢
             have la : hj2.length = 8 := LA
             have f0 := arr_frozen hh4 j
             have c0 := arr_cell hh4 j (by omega)
             clear la
             go_wp2_with fail
             refine ⟨?_, ?measure⟩
             apply Exists.intro
             (repeat apply Exists.intro)
             refine ⟨?rel, rfl⟩
             case measure => simp [intOf]; omega
             case rel =>
              have hlt1 : w1.heap.size ≠ wt.heap.size := by omega
              refine ⟨j + 1, by omega, by go_num, hm4.kept (fun k hk => Below.heap_setCell _ _ _ _ (by show k ≠ w1.heap.size; have := (hm4.lt k hk).1; omega)), arr_far hk4 (by show w.heap.size ≠ w1.heap.size; omega) _, ?_, arr_far hS4 (by show wt.heap.size ≠ w1.heap.size; omega) _, hbel4.setCell (p := ⟨w1.heap.size, j, none⟩) (by show w.heap.size ≤ w1.heap.size; omega) _, by simpa using hlow4⟩
              rw [addTo_succ, ← (show hj2 = addTo SS hs j from Hhj)]
              exact arr_set hh4 j _
            ·
             obtain rfl : j = 8 := by omega
             clear hlt hj
             have hst : statesTo P (k + 1) = addTo SS hs 8 := by
              rw [statesTo_succ, show SS = mixTo xw hs 64 from HSS, show xw = sprTo (blockOf P k) 64 from Hxw, ← (show hs = statesTo P k from Hhs)]
              rfl
             have hlk : 64 * (k + 1) ≤ P.length := by omega
             rw [← hst] at hh3
             clear hst
             go_wp2_with fail
             refine ⟨?_, ?measure⟩
             apply Exists.intro
             (repeat apply Exists.intro)
             refine ⟨?rel, rfl⟩
             case measure => simp [intOf]; omega
             case rel => exact ⟨k + 1, hlk, by go_num, hm3, hk3, hh3, hbel3, by omega⟩
      ·
       as_aux_lemma =>
       have hc : decide ((64 : Int) * (k : Int) < (P.length : Int)) = false := by simp; omega
       have hkP : k = P.length / 64 := by omega
       clear hm hk3 hk lP hMs LQ
       have lh := statesTo_length P k
       obtain ⟨hs', hhs⟩ : ∃ hs, hs = statesTo P k := ⟨_, rfl⟩
       rw [← hhs] at lh hh3
       have Hhs := Lib.hid (hhs.trans (by rw [hkP, show P = padL b.data.toList from HP]) : hs' = statesTo (padL b.data.toList) ((padL b.data.toList).length / 64))
       clear hhs hkP hlt HP HM HL
       have lH := Lib.hid lh
       clear lh
       go_upto_region 42 with fail
       obtain ⟨we, rfl⟩ : ∃ we : World, we = wr := ⟨_, rfl⟩
       go_loopw [20, 21] (fun v20 v21 wr => ∃ j : Nat, j ≤ 8 ∧ v21 = .int .i64 j ∧ Kd.R (Kd.int .u8) 5 wr we.heap.size (fun _ => True) v20 (fourTo hs' j) ∧ Below we.heap.size we wr ∧ we.heap.size ≤ wr.heap.size) (fun _ v21 _ => 8 - (intOf v21).toNat)
       case atStart => exact ⟨0, by omega, rfl, Kd.R_nil _ _ _ _ _, Below.refl _ _, Nat.le_refl _⟩
       case round =>
        obtain ⟨j, hj, rfl, hr, hbw, hsw⟩ := hrel
        by_cases hlt : j < 8
        ·
         have hdec : decide ((j : Int) < 8) = true := by simp; omega
         have b0 : ((j : Int) < 8) = True := by simp; omega
         have lh : hs'.length = 8 := lH
         have c0 := arr_cell (arr_below hh3 hbw) j (by omega)
         have hjl : j < hs'.length := by omega
         clear lh
         go_upto_region 44 with fail
         have hbw6 : Below we.heap.size we wr.drew := below_drew hbw
         have hr6 : Kd.R (Kd.int .u8) 5 wr.drew we.heap.size (fun _ => True) u20 (fourTo hs' j) := Kd.R_drew hr
         have hsw6 : we.heap.size ≤ wr.drew.heap.size := hsw
         clear hbw hr hsw
         -- [44
         refine start_ (n := 23) (S := fun w' => w'.cell? ⟨w1.heap.size, j, none⟩ = some (.int .u32 (rd hs' (j : Int)))) (ds := []) #[false, false, false, false, false, false, false, false, false, false, false, false, false, false, false, false, false, false, false, false, false, false, false] (by kernel_rfl) rfl rfl (c0) (fun hHeld => ?_)
         generalize wr.drew = w6 at hbw6 hr6 hsw6 hHeld ⊢
         refine pure_ (i := 0) (N := some 253) (v := ?_) (a' := ?_) #[true, false, false, false, false, false, false, false, false, false, false, false, false, false, false, false, false, false, false, false, false, false, false] rfl rfl (by kernel_rfl) (fun _ _ _ h => h) (Or.inl ⟨by rfl, ?_⟩) ?_ ?_
         rotate_left
         ·
          intro w'
          go_simp
          with_reducible rfl
         rotate_left
         ·
          simp only [Act.put, List.setIfInBounds_toArray, List.set_cons_zero, List.set_cons_succ, i64_w, i32_w]
          rfl
         refine pure_ (i := 1) (N := some 254) (v := ?_) (a' := ?_) #[true, true, false, false, false, false, false, false, false, false, false, false, false, false, false, false, false, false, false, false, false, false, false] rfl rfl (by kernel_rfl) (fun _ _ _ h => h) (Or.inl ⟨by rfl, ?_⟩) ?_ ?_
         rotate_left
         ·
          intro w'
          go_simp
          with_reducible rfl
         rotate_left
         ·
          simp only [Act.put, List.setIfInBounds_toArray, List.set_cons_zero, List.set_cons_succ, i64_w, i32_w]
          rfl
         refine pure_ (i := 2) (N := some 255) (v := ?_) (a' := ?_) #[true, true, true, false, false, false, false, false, false, false, false, false, false, false, false, false, false, false, false, false, false, false, false] rfl rfl (by kernel_rfl) (fun _ _ _ h => h) (Or.inl ⟨by rfl, ?_⟩) ?_ ?_
         rotate_left
         ·
          intro w'
          go_simp
          with_reducible rfl
         rotate_left
         ·
          simp only [Act.put, List.setIfInBounds_toArray, List.set_cons_zero, List.set_cons_succ, i64_w, i32_w]
          rfl
         refine pure_ (i := 6) (N := some 259) (v := ?_) (a' := ?_) #[true, true, true, false, false, false, true, false, false, false, false, false, false, false, false, false, false, false, false, false, false, false, false] rfl rfl (by kernel_rfl) (fun _ _ _ h => h) (Or.inl ⟨by rfl, ?_⟩) ?_ ?_
         rotate_left
         ·
          intro w'
          go_simp
          with_reducible rfl
         rotate_left
         ·
          simp only [Act.put, List.setIfInBounds_toArray, List.set_cons_zero, List.set_cons_succ, i64_w, i32_w]
          rfl
         refine pure_ (i := 7) (N := some 260) (v := ?_) (a' := ?_) #[true, true, true, false, false, false, true, true, false, false, false, false, false, false, false, false, false, false, false, false, false, false, false] rfl rfl (by kernel_rfl) (fun _ _ _ h => h) (Or.inl ⟨by rfl, ?_⟩) ?_ ?_
         rotate_left
         ·
          intro w'
          go_simp
          with_reducible rfl
         rotate_left
         ·
          simp only [Act.put, List.setIfInBounds_toArray, List.set_cons_zero, List.set_cons_succ, i64_w, i32_w]
          rfl
         refine pure_ (i := 11) (N := some 264) (v := ?_) (a' := ?_) #[true, true, true, false, false, false, true, true, false, false, false, true, false, false, false, false, false, false, false, false, false, false, false] rfl rfl (by kernel_rfl) (fun _ _ _ h => h) (Or.inl ⟨by rfl, ?_⟩) ?_ ?_
         rotate_left
         ·
          intro w'
          go_simp
          with_reducible rfl
         rotate_left
         ·
          simp only [Act.put, List.setIfInBounds_toArray, List.set_cons_zero, List.set_cons_succ, i64_w, i32_w]
          rfl
         refine pure_ (i := 12) (N := some 265) (v := ?_) (a' := ?_) #[true, true, true, false, false, false, true, true, false, false, false, true, true, false, false, false, false, false, false, false, false, false, false] rfl rfl (by kernel_rfl) (fun _ _ _ h => h) (Or.inl ⟨by rfl, ?_⟩) ?_ ?_
         rotate_left
         ·
          intro w'
          go_simp
          with_reducible rfl
         rotate_left
         ·
          simp only [Act.put, List.setIfInBounds_toArray, List.set_cons_zero, List.set_cons_succ, i64_w, i32_w]
          rfl
         refine pure_ (i := 16) (N := some 269) (v := ?_) (a' := ?_) #[true, true, true, false, false, false, true, true, false, false, false, true, true, false, false, false, true, false, false, false, false, false, false] rfl rfl (by kernel_rfl) (fun _ _ _ h => h) (Or.inl ⟨by rfl, ?_⟩) ?_ ?_
         rotate_left
         ·
          intro w'
          go_simp
          with_reducible rfl
         rotate_left
         ·
          simp only [Act.put, List.setIfInBounds_toArray, List.set_cons_zero, List.set_cons_succ, i64_w, i32_w]
          rfl
         refine pure_ (i := 17) (N := some 270) (v := ?_) (a' := ?_) #[true, true, true, false, false, false, true, true, false, false, false, true, true, false, false, false, true, true, false, false, false, false, false] rfl rfl (by kernel_rfl) (fun _ _ _ h => h) (Or.inl ⟨by rfl, ?_⟩) ?_ ?_
         rotate_left
         ·
          intro w'
          go_simp
          with_reducible rfl
         rotate_left
         ·
          simp only [Act.put, List.setIfInBounds_toArray, List.set_cons_zero, List.set_cons_succ, i64_w, i32_w]
          rfl
         refine take_ (i := 3) (N := some 256) (v := ?_) (a' := ?_) #[true, true, true, true, false, false, true, true, false, false, false, true, true, false, false, false, true, true, false, false, false, false, false] rfl rfl (by kernel_rfl) (fun _ _ _ h => h) (Or.inl ⟨by rfl, ?_⟩) hHeld ?_ ?_
         rotate_left
         ·
          intro w' s0
          go_simp
          with_reducible rfl
         rotate_left
         ·
          simp only [Act.put, List.setIfInBounds_toArray, List.set_cons_zero, List.set_cons_succ, i64_w, i32_w]
          rfl
         refine pure_ (i := 4) (N := some 257) (v := ?_) (a' := ?_) #[true, true, true, true, true, false, true, true, false, false, false, true, true, false, false, false, true, true, false, false, false, false, false] rfl rfl (by kernel_rfl) (fun _ _ _ h => h) (Or.inl ⟨by rfl, ?_⟩) ?_ ?_
         rotate_left
         ·
          intro w'
          go_simp
          with_reducible rfl
         rotate_left
         ·
          simp only [Act.put, List.setIfInBounds_toArray, List.set_cons_zero, List.set_cons_succ, i64_w, i32_w]
          rfl
         refine pure_ (i := 5) (N := some 258) (v := ?_) (a' := ?_) #[true, true, true, true, true, true, true, true, false, false, false, true, true, false, false, false, true, true, false, false, false, false, false] rfl rfl (by kernel_rfl) (fun _ _ _ h => h) (Or.inl ⟨by rfl, ?_⟩) ?_ ?_
         rotate_left
         ·
          intro w'
          go_simp
          with_reducible rfl
         rotate_left
         ·
          simp only [Act.put, List.setIfInBounds_toArray, List.set_cons_zero, List.set_cons_succ, i64_w, i32_w]
          rfl
         refine take_ (i := 8) (N := some 261) (v := ?_) (a' := ?_) #[true, true, true, true, true, true, true, true, true, false, false, true, true, false, false, false, true, true, false, false, false, false, false] rfl rfl (by kernel_rfl) (fun _ _ _ h => h) (Or.inl ⟨by rfl, ?_⟩) hHeld ?_ ?_
         rotate_left
         ·
          intro w' s0
          go_simp
          with_reducible rfl
         rotate_left
         ·
          simp only [Act.put, List.setIfInBounds_toArray, List.set_cons_zero, List.set_cons_succ, i64_w, i32_w]
          rfl
         refine pure_ (i := 9) (N := some 262) (v := ?_) (a' := ?_) #[true, true, true, true, true, true, true, true, true, true, false, true, true, false, false, false, true, true, false, false, false, false, false] rfl rfl (by kernel_rfl) (fun _ _ _ h => h) (Or.inl ⟨by rfl, ?_⟩) ?_ ?_
         rotate_left
         ·
          intro w'
          go_simp
          with_reducible rfl
         rotate_left
         ·
          simp only [Act.put, List.setIfInBounds_toArray, List.set_cons_zero, List.set_cons_succ, i64_w, i32_w]
          rfl
         refine pure_ (i := 10) (N := some 263) (v := ?_) (a' := ?_) #[true, true, true, true, true, true, true, true, true, true, true, true, true, false, false, false, true, true, false, false, false, false, false] rfl rfl (by kernel_rfl) (fun _ _ _ h => h) (Or.inl ⟨by rfl, ?_⟩) ?_ ?_
         rotate_left
         ·
          intro w'
          go_simp
          with_reducible rfl
         rotate_left
         ·
          simp only [Act.put, List.setIfInBounds_toArray, List.set_cons_zero, List.set_cons_succ, i64_w, i32_w]
          rfl
         refine take_ (i := 13) (N := some 266) (v := ?_) (a' := ?_) #[true, true, true, true, true, true, true, true, true, true, true, true, true, true, false, false, true, true, false, false, false, false, false] rfl rfl (by kernel_rfl) (fun _ _ _ h => h) (Or.inl ⟨by rfl, ?_⟩) hHeld ?_ ?_
         rotate_left
         ·
          intro w' s0
          go_simp
          with_reducible rfl
         rotate_left
         ·
          simp only [Act.put, List.setIfInBounds_toArray, List.set_cons_zero, List.set_cons_succ, i64_w, i32_w]
          rfl
         refine pure_ (i := 14) (N := some 267) (v := ?_) (a' := ?_) #[true, true, true, true, true, true, true, true, true, true, true, true, true, true, true, false, true, true, false, false, false, false, false] rfl rfl (by kernel_rfl) (fun _ _ _ h => h) (Or.inl ⟨by rfl, ?_⟩) ?_ ?_
         rotate_left
         ·
          intro w'
          go_simp
          with_reducible rfl
         rotate_left
         ·
          simp only [Act.put, List.setIfInBounds_toArray, List.set_cons_zero, List.set_cons_succ, i64_w, i32_w]
          rfl
         refine pure_ (i := 15) (N := some 268) (v := ?_) (a' := ?_) #[true, true, true, true, true, true, true, true, true, true, true, true, true, true, true, true, true, true, false, false, false, false, false] rfl rfl (by kernel_rfl) (fun _ _ _ h => h) (Or.inl ⟨by rfl, ?_⟩) ?_ ?_
         rotate_left
         ·
          intro w'
          go_simp
          with_reducible rfl
         rotate_left
         ·
          simp only [Act.put, List.setIfInBounds_toArray, List.set_cons_zero, List.set_cons_succ, i64_w, i32_w]
          rfl
         refine take_ (i := 18) (N := some 271) (v := ?_) (a' := ?_) #[true, true, true, true, true, true, true, true, true, true, true, true, true, true, true, true, true, true, true, false, false, false, false] rfl rfl (by kernel_rfl) (fun _ _ _ h => h) (Or.inl ⟨by rfl, ?_⟩) hHeld ?_ ?_
         rotate_left
         ·
          intro w' s0
          go_simp
          with_reducible rfl
         rotate_left
         ·
          simp only [Act.put, List.setIfInBounds_toArray, List.set_cons_zero, List.set_cons_succ, i64_w, i32_w]
          rfl
         refine pure_ (i := 19) (N := some 272) (v := ?_) (a' := ?_) #[true, true, true, true, true, true, true, true, true, true, true, true, true, true, true, true, true, true, true, true, false, false, false] rfl rfl (by kernel_rfl) (fun _ _ _ h => h) (Or.inl ⟨by rfl, ?_⟩) ?_ ?_
         rotate_left
         ·
          intro w'
          go_simp
          with_reducible rfl
         rotate_left
         ·
          simp only [Act.put, List.setIfInBounds_toArray, List.set_cons_zero, List.set_cons_succ, i64_w, i32_w]
          rfl
         refine one_ (i := 20) (N := some 273) #[true, true, true, true, true, true, true, true, true, true, true, true, true, true, true, true, true, true, true, true, true, false, false] rfl rfl (by kernel_rfl) (by decide) (fun K hK => ?_)
         refine Kd.R_lit_step (Kd.int .u8) _ 5 (by rfl) (N := 273) rfl (xs := four (rd hs' (j : Int))) (inner := [.int .u8 (rd hs' (j : Int) / 16777216 % 256), .int .u8 (rd hs' (j : Int) / 65536 % 256), .int .u8 (rd hs' (j : Int) / 256 % 256), .int .u8 (rd hs' (j : Int) % 256)]) (ok := fun _ => True) (okp := fun _ => True) ?hr ?hp (fun _ hk => hk) trivial (Below.refl _ _) (Nat.le_refl _) (by simp [four]) ?_
         case hr => go_simp; simp only [IntKind.wrap_u8]; exact ⟨rfl, trivial⟩
         case hp => exact (Reps.one (show Kd.M (Kd.int .u8) _ _ _ (rd hs' (j : Int) / 16777216 % 256) [.int .u8 (rd hs' (j : Int) / 16777216 % 256)] from rfl) (Reps.one (show Kd.M (Kd.int .u8) _ _ _ (rd hs' (j : Int) / 65536 % 256) [.int .u8 (rd hs' (j : Int) / 65536 % 256)] from rfl) (Reps.one (show Kd.M (Kd.int .u8) _ _ _ (rd hs' (j : Int) / 256 % 256) [.int .u8 (rd hs' (j : Int) / 256 % 256)] from rfl) (Reps.one (show Kd.M (Kd.int .u8) _ _ _ (rd hs' (j : Int) % 256) [.int .u8 (rd hs' (j : Int) % 256)] from rfl) (Reps.none _ _)))))
         intro v273 w7 ho5 hb7 hg7 hnew7
         clear hg7 hnew7
         have hr7 := Kd.R_elder' hr6 (Kd.R_base ho5) hb7
         obtain ⟨Ao, co, eo⟩ := Kd.R_slice ho5
         subst eo
         have hbw7 := below_then hbw6 hsw6 hb7
         have hsw7 : we.heap.size ≤ w7.heap.size := hbw7.size
         clear hr6 hbw6 hsw6 hb7
         refine hK.out _ _ (arr_cell (arr_below hh3 hbw7) j hjl) (fun hHeld => ?_)
         clear hK K
         refine norm_ (a' := ?_) ?_ ?_
         rotate_left
         ·
          show Act.put _ (some 273) _ = _
          simp only [Act.put, List.setIfInBounds_toArray, List.set_cons_zero, List.set_cons_succ, i64_w, i32_w]
          rfl
         refine one_ (i := 21) (N := some 274) #[true, true, true, true, true, true, true, true, true, true, true, true, true, true, true, true, true, true, true, true, true, true, false] rfl rfl (by kernel_rfl) (by decide) (fun K hK => ?_)
         refine Kd.R_append_rows_step (Kd.int .u8) (w0 := we) we.heap.size (by rfl) (.tmp 253) (.tmp 273) 40 5 (.int .u8 0) 1 rfl Tryz.underlying40 rfl rfl (by decide) (by omega) u20 (fourTo hs' j) (four (rd hs' (j : Int))) _ _ _ (fun k_ => True ∧ some k_ ≠ (.slice Ao (four (rd hs' (j : Int))).length co : Value).ownBlock) (fun _ => False) rfl rfl ?aO ?aR (fun _ _ h => h) (fun _ h => h.elim) ?aF ?aB ?aS ?aL ?_
         case aR => exact (Kd.R_reads' ho5).2.2
         case aB => exact hbw7
         case aF => exact fun k_ hk => ⟨trivial, Kd.fresh' (Kd.R_lt ho5) k_ hk⟩
         case aO => exact hr7
         case aS => exact hsw7
         case aL => rw [fourTo_length]; simp [four]; omega
         intro v274 w8 ho8 hb8 hg8 hat8
         clear hg8 hat8
         rw [← fourTo_succ] at ho8
         have hr8 := Kd.R_mono (ok' := fun _ => True) ho8 (fun _ _ => trivial)
         clear ho8 ho5 hr7 hbw7 hsw7
         refine hK.out _ _ (arr_cell (arr_below hh3 hb8) j hjl) (fun hHeld => ?_)
         clear hK K
         refine norm_ (a' := ?_) ?_ ?_
         rotate_left
         ·
          show Act.put _ (some 274) _ = _
          simp only [Act.put, List.setIfInBounds_toArray, List.set_cons_zero, List.set_cons_succ, i64_w, i32_w]
          rfl
         refine pure_ (i := 22) (N := some 20) (v := ?_) (a' := ?_) #[true, true, true, true, true, true, true, true, true, true, true, true, true, true, true, true, true, true, true, true, true, true, true] rfl rfl (by kernel_rfl) (fun _ _ _ h => h) (Or.inl ⟨by rfl, ?_⟩) ?_ ?_
         rotate_left
         ·
          intro w'
          go_simp
          with_reducible rfl
         rotate_left
         ·
          simp only [Act.put, List.setIfInBounds_toArray, List.set_cons_zero, List.set_cons_succ, i64_w, i32_w]
          rfl
         refine done_ (by kernel_rfl) ?_
         -- 44]
         go_wp2_with fail
         exact ⟨⟨j + 1, by omega, by go_num, hr8, hb8, hb8.size⟩, by simp [intOf]; omega⟩
        ·
         obtain rfl : j = 8 := by omega
         have hcv := own_string (P := Tryz.prog) Tryz.underlying40 Tryz.underlying5 Tryz.underlying9 (Kd.own_of_R hr)
         have hbelF := below_then hbel (by omega) hbw
         go_wp2_with fail
         go_ret
         exact ⟨by rw [sumS, ← (show hs' = statesTo (padL b.data.toList) ((padL b.data.toList).length / 64) from Hhs)]; rfl, hbelF⟩
def exequaturref01_Sum.f (a0 : ByteArray) : Option (ByteArray) := if a0.size ≤ 1000000000 then some (sumS a0.data.toList) else none
theorem exequaturref01_Sum.calls (a0 : ByteArray) (r : ByteArray) (w : World) (h : exequaturref01_Sum.f a0 = some r) :
  Calls Tryz.prog 141 #[.string a0] w fun e w' => e = .returned (.string r) ∧ Below w.heap.size w w' := by
 unfold exequaturref01_Sum.f at h
 split at h
 case isTrue hs =>
  obtain rfl := Option.some.inj h
  exact exequaturref01_Sum.says a0 hs w
 case isFalse hs => exact absurd h (by simp)

end Go.Proofs.YtpoblffgclmmlaaGreatDoor.Q
end
