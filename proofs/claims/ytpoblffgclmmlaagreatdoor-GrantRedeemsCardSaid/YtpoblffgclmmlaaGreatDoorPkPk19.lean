/- A part of the proof of a card: what some functions of the program come to, each under the conditions that its theorem names. -/
import Derived.Deep.QuietTactic
import Derived.BigQuiet
import Derived.Test.YtpoblffgclmmlaaGreatDoorPkPk12
import Derived.Test.YtpoblffgclmmlaaGreatDoorPkPk13
import Derived.Test.YtpoblffgclmmlaaGreatDoorPkPk18
section
set_option linter.unusedVariables false
set_option linter.unusedSimpArgs false
namespace Go.Proofs.YtpoblffgclmmlaaGreatDoor.X
open Go.RowKit Go.WideMaps Go.Maps Go.Proofs.YtpoblffgclmmlaaGreatDoorW.PrintWords Go.Proofs.YtpoblffgclmmlaaGreatDoorW.PrintLast Go.Proofs.YtpoblffgclmmlaaGreatDoorW.PrintMore Go.Proofs.YtpoblffgclmmlaaGreatDoor.Q

set_option maxHeartbeats 8000000 in
set_option maxRecDepth 100000 in
theorem stored20_says (w : World) (A : Option Addr) (c : Nat) (l : List S69) (hC : Kd.C k69 w A l.length l) (hc : l.length ≤ c) (hl : l.length ≤ 4000000000000) (hx : ∀ x ∈ l, x.f0.size ≤ 140737488351232 ∧ x.f1.size ≤ 140737488351232) (hGL : GL w) :
  Calls Tryz.prog 55 #[.slice A l.length c] w fun e w' => Below w.heap.size w w' ∧
   ((storedB l = false ∧ e = .returned (.tuple #[.pointer none, .slice none 0 0, .bool false])) ∨
   (storedB l = true ∧ ∃ s v, e = .returned (.tuple #[.pointer (some ⟨s, 0, none⟩), v, .bool true]) ∧ StW w.heap.size w' s (turnR [] l) 3300000000200 ∧ RowsAt w.heap.size w' v (turnR [] l))) := by
 go_enter Tryz.func55, Tryz.ntmps55
 go_wp2
 go_loopw [5, 6] (fun v5 v6 wr => ∃ i : Nat, i ≤ l.length ∧ v5 = .int .i64 ((l.length + wgtS (l.take i) : Nat) : Int) ∧ v6 = .int .i64 i ∧ (i = 0 ∨ l.length + wgtS (l.take (i - 1)) < 20000) ∧ Below w.heap.size w wr ∧ RowKit.Hid (wr.heap.size = w.heap.size)) (fun _ v6 _ => l.length - (intOf v6).toNat)
 case atStart => exact ⟨0, Nat.zero_le _, by simp [wgtS], rfl, .inl rfl, Below.refl _ _, Lib.hid rfl⟩
 case round =>
  obtain ⟨i, hi, rfl, rfl, hprev, hb, Hz⟩ := hrel
  have htk := wgtS_take_le l i
  obtain ⟨n, hn⟩ : ∃ n, n = l.length + wgtS (l.take i) := ⟨_, rfl⟩
  rw [← hn]
  by_cases hlt : i < l.length
  ·
   by_cases hn2 : n < 20000
   ·
    have d1 : decide ((i : Int) < (l.length : Int)) = true := decide_eq_true (by omega)
    have d2 : decide ((n : Int) < 20000) = true := decide_eq_true (by omega)
    have hCr := Kd.C_below hC hb
    obtain ⟨ad, rfl, hz0, hz1, hz2⟩ := at_T69 hCr (i : Int) (by omega) (by omega)
    have hrd : rd_T69 l (i : Int) = l.getD i z69 := by unfold rd_T69; rw [Int.toNat_natCast]
    rw [hrd] at hz0 hz1 hz2
    simp only [Int.toNat_natCast] at hz0 hz1 hz2
    have hstep := wgtS_take l i hlt
    have hxx := hx (l.getD i z69) (by simp [List.getD_eq_getElem?_getD, List.getElem?_eq_getElem hlt])
    obtain ⟨x, hx2⟩ : ∃ x, x = l.getD i z69 := ⟨_, rfl⟩
    rw [← hx2] at hz0 hz1 hz2 hstep hxx
    clear hx2 hrd
    have i3 : ((i : Int) < (l.length : Int)) = True := eq_true (by omega)
    have i0 : (0 ≤ (i : Int)) = True := eq_true (by omega)
    have e1 : IntKind.i64.wrap ((i : Int) + 1) = (i : Int) + 1 := IntWalk.i64_in _ (by omega)
    have e2 : IntKind.i64.wrap ((n : Int) + (x.f0.size : Int)) = ((n + x.f0.size : Nat) : Int) := by rw [IntWalk.i64_in _ (by omega)]; rfl
    have e3 : IntKind.i64.wrap (((n + x.f0.size : Nat) : Int) + (x.f1.size : Int)) = ((n + x.f0.size + x.f1.size : Nat) : Int) := by rw [IntWalk.i64_in _ (by omega)]; rfl
    have Hn := Lib.hid hn
    have Hst := Lib.hid hstep
    have Hxx := Lib.hid hxx
    clear hn hstep hxx htk hprev
    have Hi := Lib.hid (show i + 1 ≤ l.length by omega)
    have Hn2 := Lib.hid hn2
    have Hm := Lib.hid (show l.length - (i + 1) < l.length - i by omega)
    clear hlt hn2 hi hl hc
    go_wp2_with fail
    go_quiet (fail)
    go_wp2_with fail
    refine ⟨⟨i + 1, Hi.out, ?_, by go_num, .inr ?_, pw_below_drewN hb _, Lib.hid Hz.out⟩, ?_⟩
    ·
     have e4 : n + x.f0.size + x.f1.size = l.length + wgtS (l.take (i + 1)) := by have h1 := Hst.out; have h2 := Hn.out; omega
     have h1 := Hxx.out; have h2 := Hn2.out
     rw [← e4, w64 (by omega) (by omega)]; rfl
    ·
     have h1 := Hn.out; have h2 := Hn2.out; rw [Nat.add_sub_cancel]; omega
    ·
     have := Hm.out; simp only [intOf]; omega
   ·
    have d1 : decide ((i : Int) < (l.length : Int)) = true := decide_eq_true (by omega)
    have d2 : decide ((n : Int) < 20000) = false := decide_eq_false (by omega)
    have d3 : decide (20000 ≤ (n : Int)) = true := decide_eq_true (by omega)
    have hsb : storedB l = false := decide_eq_false (fun h => by omega)
    clear hn htk
    go_wp2_with fail
    go_ret3
    exact ⟨hb, .inl ⟨hsb, rfl⟩⟩
  ·
   have hil : i = l.length := by omega
   subst hil
   have d1 : decide ((l.length : Int) < (l.length : Int)) = false := decide_eq_false (by omega)
   by_cases hn2 : n < 20000
   ·
    have d3 : decide (20000 ≤ (n : Int)) = false := decide_eq_false (by omega)
    by_cases hl2 : l.length ≤ 200
    ·
     have d4 : decide (200 < (l.length : Int)) = false := decide_eq_false (by omega)
     rw [List.take_length] at hn
     have hsb : storedB l = true := decide_eq_true (by omega)
     have hwc := wgtC_small l
     have hrl := recL_small l
     have hwt := wgt_turn (r := []) List.Pairwise.nil l
     have hw0 : wgt [] = 0 := rfl
     have Hsb := Lib.hid hsb
     have hm1 : (recL l).length ≤ 32768 := by omega
     have hm2 : 4 + wgt (turnR [] l) ≤ 32768 := by omega
     have hm3 : 4 + wgt [] + wgtC l ≤ 80000000 := by omega
     have hm4 : 3300000000000 + l.length ≤ 3400000000000 := by omega
     have Hm1 := Lib.hid hm1
     have Hm2 := Lib.hid hm2
     have Hm3 := Lib.hid hm3
     have Hm4 := Lib.hid hm4
     clear hn htk hsb hwc hrl hwt hw0 hprev hm1 hm2 hm3 hm4
     go_wp2_with fail
     refine (tnew_says wr).mono ?_
     rintro e w1 ⟨t, rfl, hT1, hb1⟩
     have hT1 : TpAt w1 w.heap.size t (.slice none 0 0) TapeS.new := by rw [← Hz.out]; exact hT1
     have hB1 := below_then hb hb.size hb1
     go_wp2_with fail
     refine (wnew_says w w1 hGL hB1 t _ hT1).mono ?_
     rintro e w2 ⟨hB2, s, rfl, hS2⟩
     have hC2 := Kd.C_below hC hB2
     have hdo := wdo_says s 3300000000000 [] A c l w w2 hGL hB2 hS2 hC2 hc Hm4.out Hm1.out Hm2.out Hm3.out (fun x h => by have := hx x h; unfold maxLen; omega)
     go_wp2_with fail
     refine hdo.mono ?_
     rintro e w3 ⟨rfl, ht3, hS3⟩
     have hB3 : Below w.heap.size w w3 := hB2.trans (ht3.below hB2.size)
     have hC3 := Kd.C_below hC hB3
     have hturn := rturn_says w.heap.size (.slice none 0 0) [] A c l w3 hB3.size (RowsAt.nil _ _) hC3 hc (by simp; omega) List.Pairwise.nil
     go_wp2_with fail
     refine hturn.mono ?_
     rintro e w4 ⟨v4, rfl, hR4, hb4⟩
     have hS4 := hS3.below hb4
     have hB4 := below_then hB3 hB3.size hb4
     go_wp2_with fail
     go_ret3
     exact ⟨hB4, .inr ⟨Hsb.out, s, v4, rfl, hS4.mono (by omega), hR4⟩⟩
    ·
     have d4 : decide (200 < (l.length : Int)) = true := decide_eq_true (by omega)
     have hsb : storedB l = false := decide_eq_false (fun h => by omega)
     clear hn htk
     go_wp2_with fail
     go_ret3
     exact ⟨hb, .inl ⟨hsb, rfl⟩⟩
   ·
    have d3 : decide (20000 ≤ (n : Int)) = true := decide_eq_true (by omega)
    rw [List.take_length] at hn
    have hsb : storedB l = false := decide_eq_false (fun h => by omega)
    clear hn htk
    go_wp2_with fail
    go_ret3
    exact ⟨hb, .inl ⟨hsb, rfl⟩⟩
end Go.Proofs.YtpoblffgclmmlaaGreatDoor.X
end
section
set_option linter.unusedVariables false
set_option linter.unusedSimpArgs false
namespace Go.Proofs.YtpoblffgclmmlaaGreatDoor.X
open Go.RowKit Go.WideMaps Go.Maps Go.Proofs.YtpoblffgclmmlaaGreatDoorW.PrintWords Go.Proofs.YtpoblffgclmmlaaGreatDoorW.PrintLast Go.Proofs.YtpoblffgclmmlaaGreatDoorW.PrintMore Go.Proofs.YtpoblffgclmmlaaGreatDoor.Q

theorem storedB_one (K V : ByteArray) (h : K.size + V.size ≤ 19000) (g : Bool) : storedB [(⟨K, V, g⟩ : S69)] = true := by
 unfold storedB
 refine decide_eq_true ?_
 simp [wgtS]; omega
end Go.Proofs.YtpoblffgclmmlaaGreatDoor.X
end
section
set_option linter.unusedVariables false
set_option linter.unusedSimpArgs false
namespace Go.Proofs.YtpoblffgclmmlaaGreatDoor.X
open Go.RowKit Go.WideMaps Go.Maps Go.Proofs.YtpoblffgclmmlaaGreatDoorW.PrintWords Go.Proofs.YtpoblffgclmmlaaGreatDoorW.PrintLast Go.Proofs.YtpoblffgclmmlaaGreatDoorW.PrintMore Go.Proofs.YtpoblffgclmmlaaGreatDoor.Q

/-- The family of the answers. -/
def famA : Fam := ⟨⟨#[105]⟩, ⟨#[]⟩, ⟨#[]⟩, ⟨#[]⟩, ⟨#[]⟩, ⟨#[]⟩, ⟨#[]⟩, ⟨#[]⟩, ⟨#[114]⟩, ⟨#[]⟩, [], false⟩
theorem famT_size (x : Fam) : (famT x).size = (txs (famL x)).length := by unfold famT; exact mkB_size _
theorem famA_len : (txs (famL famA)).length ≤ 300 := by
 have := txsLen (famL famA) (by
  intro y hy
  simp only [famL, hdL, famA, flB, List.cons_append, List.nil_append, List.mem_cons, List.not_mem_nil, or_false] at hy
  rcases hy with e | e | e | e | e | e | e | e | e | e | e <;> subst e <;> decide)
 exact Nat.le_trans this (by decide)
theorem keys_onef (k v : ByteArray) (hp : preB k ⟨#[102]⟩ = true) : (([(⟨k, v⟩ : S82)].map fun x => x.f0).filter fun k => preB k ⟨#[102]⟩) = [k] := by
 simp [hp]
theorem pre_fkey (c : ByteArray) : preB (fkey c) ⟨#[102]⟩ = true := by
 rw [preB_iff, Bool.and_eq_true]
 refine ⟨decide_eq_true ?_, decide_eq_true ?_⟩
 ·
  rw [fkey_size]; show 1 ≤ _; omega
 ·
  show ((fkey c).extract 0 1).toList = _
  rw [ByteArray.toList_eq, ByteArray.toList_eq]
  unfold fkey
  simp
theorem tl_fkey (c : ByteArray) : tlB (fkey c) = c := by
 apply ByteArray.ext
 apply Array.toList_inj.1
 unfold tlB fkey
 simp [ByteArray.data_append]
 rw [List.take_of_length_le]
 have : (⟨#[102]⟩ : ByteArray).size = 1 := rfl
 simp [this]
theorem fam_one (x : Fam) : famOfR [⟨fkey x.id, famT x⟩] x.id = some x := by
 unfold famOfR
 rw [show getR [(⟨fkey x.id, famT x⟩ : S82)] (fkey x.id) = some (famT x) by simp [getR], Option.bind_some, readF_of x]
theorem all_one (x : Fam) : allF (famOfR [⟨fkey x.id, famT x⟩]) [fkey x.id] = [x] := by
 unfold allF
 rw [List.filterMap_cons, tl_fkey, fam_one]
 rfl
-- [AW
set_option maxHeartbeats 8000000 in
set_option maxRecDepth 100000 in
theorem answers20_says (w : World) (hGL : GL w) (hGP : GP w) (hGE : GE w) : Calls Tryz.prog 58 #[] w fun e w' => e = .returned (.bool true) ∧ Below w.heap.size w w' := by
 have hf8 : ∀ (A' : Option Addr) (c' : Nat) (w : World), (Instr.field 93 (.agg #[.string ⟨#[105]⟩, .string ⟨#[]⟩, .string ⟨#[]⟩, .string ⟨#[]⟩, .string ⟨#[]⟩, .string ⟨#[]⟩, .string ⟨#[]⟩, .string ⟨#[]⟩, .string ⟨#[]⟩, .string ⟨#[]⟩, .slice A' 1 c', .bool false]) 8).run Tryz.prog w = .ok (.string ⟨#[]⟩) w := fun _ _ _ => by kernel_rfl
 have hf10 : ∀ (A' : Option Addr) (c' : Nat) (w : World), (Instr.field 93 (.agg #[.string ⟨#[105]⟩, .string ⟨#[]⟩, .string ⟨#[]⟩, .string ⟨#[]⟩, .string ⟨#[]⟩, .string ⟨#[]⟩, .string ⟨#[]⟩, .string ⟨#[]⟩, .string ⟨#[]⟩, .string ⟨#[]⟩, .slice A' 1 c', .bool false]) 10).run Tryz.prog w = .ok (.slice A' 1 c') w := fun _ _ _ => by kernel_rfl
 have hln := famA_len
 have hVs := famT_size famA
 have hks := fkey_size famA.id
 have hcs : famA.id.size = 1 := rfl
 have hsv : ∀ w1, GP w1 → Calls Tryz.prog 56 #[.agg #[.string ⟨#[105]⟩, .string ⟨#[]⟩, .string ⟨#[]⟩, .string ⟨#[]⟩, .string ⟨#[]⟩, .string ⟨#[]⟩, .string ⟨#[]⟩, .string ⟨#[]⟩, .string ⟨#[114]⟩, .string ⟨#[]⟩, .slice none 0 0, .bool false]] w1 fun e w' => e = .returned (.agg #[.string (fkey famA.id), .string (famT famA), .bool false]) ∧ Below w1.heap.size w1 w' := fun w1 h => savfam_says famA none 0 w1 (Kd.C_nil _ _) (Nat.le_refl _) (by decide) (by omega) (by decide) h
 have hsp : ∀ w1, Calls Tryz.prog 54 #[.agg #[.string ⟨#[105]⟩, .string ⟨#[]⟩, .string ⟨#[]⟩, .string ⟨#[]⟩, .string ⟨#[]⟩, .string ⟨#[]⟩, .string ⟨#[]⟩, .string ⟨#[]⟩, .string ⟨#[114]⟩, .string ⟨#[]⟩, .slice none 0 0, .bool false]] w1 fun e w' => ∃ A' c', e = .returned (.agg #[.string ⟨#[105]⟩, .string ⟨#[]⟩, .string ⟨#[]⟩, .string ⟨#[]⟩, .string ⟨#[]⟩, .string ⟨#[]⟩, .string ⟨#[]⟩, .string ⟨#[]⟩, .string ⟨#[]⟩, .string ⟨#[]⟩, .slice A' 1 c', .bool false]) ∧ Below w1.heap.size w1 w' := fun w1 => (spend_says famA none 0 w1 (Kd.C_nil _ _) (Nat.le_refl _) (by decide)).mono (by
  rintro e w' ⟨A', c', he, _, hb⟩
  exact ⟨A', c', he, hb⟩)
 have hsb := storedB_one (fkey famA.id) (famT famA) (by omega) false
 have hto : turnR [] [⟨fkey famA.id, famT famA, false⟩] = [⟨fkey famA.id, famT famA⟩] := rfl
 have hpk := pre_fkey famA.id
 have hal := all_one famA
 have how : ∀ B s N w1, StW B w1 s [⟨fkey famA.id, famT famA⟩] N → N ≤ 3400000000000 → GP w1 → GE w1 → Calls Tryz.prog 57 #[.pointer (some ⟨s, 0, none⟩), .string ⟨#[114]⟩] w1 fun e w' => ∃ A c, e = .returned (.tuple #[.agg #[.string ⟨#[105]⟩, .string ⟨#[]⟩, .string ⟨#[]⟩, .string ⟨#[]⟩, .string ⟨#[]⟩, .string ⟨#[]⟩, .string ⟨#[]⟩, .string ⟨#[]⟩, .string ⟨#[114]⟩, .string ⟨#[]⟩, .slice A 0 c, .bool false], .bool true, .bool true]) ∧ Below w1.heap.size w1 w' := fun B s N w1 hS hN h1 h2 => by
  have h := owner_core B s N [⟨fkey famA.id, famT famA⟩] [fkey famA.id] (keys_onef _ _ hpk) (by intro k hk; rw [List.mem_singleton.1 hk]; exact hpk) (by intro k hk; rw [List.mem_singleton.1 hk]; omega) (by decide) (by simp only [wgt, List.map_cons, List.map_nil, List.sum_cons, List.sum_nil]; omega) w1 hS hN h1 h2 ⟨#[114]⟩ (by decide) (by rw [hal]; intro y hy; rw [List.mem_singleton.1 hy]; decide)
  rw [hal, show ownA [famA] ⟨#[114]⟩ = (famA, true, true) by simp [ownA, ownF, ownB, famA]] at h
  refine h.mono ?_
  rintro e w' ⟨A, c, he, _, hb⟩
  exact ⟨A, c, he, hb⟩
 have hst := fun w1 (hb : Below w.heap.size w w1) A c hC hc => stored20_says w1 A c [⟨fkey famA.id, famT famA, false⟩] hC hc (by simp) (by intro x hx; simp only [List.mem_singleton] at hx; subst hx; simp only; omega) (hGL.below hb)
 simp only [hsb, hto] at hst
 generalize fkey famA.id = K at *
 generalize famT famA = V at *
 clear hal hpk hsb hto hln hVs hks hcs
 have hz := heap_alloc_new w (.cells #[.string ⟨#[105]⟩, .string ⟨#[]⟩, .string ⟨#[]⟩, .string ⟨#[]⟩, .string ⟨#[]⟩, .string ⟨#[]⟩, .string ⟨#[]⟩, .string ⟨#[]⟩, .string ⟨#[114]⟩, .string ⟨#[]⟩, .slice none 0 0, .bool false] 93)
 have hB0 : Below w.heap.size w (w.alloc (.cells #[.string ⟨#[105]⟩, .string ⟨#[]⟩, .string ⟨#[]⟩, .string ⟨#[]⟩, .string ⟨#[]⟩, .string ⟨#[]⟩, .string ⟨#[]⟩, .string ⟨#[]⟩, .string ⟨#[114]⟩, .string ⟨#[]⟩, .slice none 0 0, .bool false] 93)) := (Below.refl _ w).alloc (Nat.le_refl _) _
 go_enter Tryz.func58, Tryz.ntmps58
 go_upto_region 2 with (fail)
 generalize w.alloc (.cells #[.string ⟨#[105]⟩, .string ⟨#[]⟩, .string ⟨#[]⟩, .string ⟨#[]⟩, .string ⟨#[]⟩, .string ⟨#[]⟩, .string ⟨#[]⟩, .string ⟨#[]⟩, .string ⟨#[114]⟩, .string ⟨#[]⟩, .slice none 0 0, .bool false] 93) = w0 at hz hB0 ⊢
 have z0 : w0.cell? ⟨w.heap.size, 0, none⟩ = some (.string ⟨#[105]⟩) := (blk_cell hz 0).trans rfl
 have z1 : w0.cell? ⟨w.heap.size, 1, none⟩ = some (.string ⟨#[]⟩) := (blk_cell hz 1).trans rfl
 have z2 : w0.cell? ⟨w.heap.size, 2, none⟩ = some (.string ⟨#[]⟩) := (blk_cell hz 2).trans rfl
 have z3 : w0.cell? ⟨w.heap.size, 3, none⟩ = some (.string ⟨#[]⟩) := (blk_cell hz 3).trans rfl
 have z4 : w0.cell? ⟨w.heap.size, 4, none⟩ = some (.string ⟨#[]⟩) := (blk_cell hz 4).trans rfl
 have z5 : w0.cell? ⟨w.heap.size, 5, none⟩ = some (.string ⟨#[]⟩) := (blk_cell hz 5).trans rfl
 have z6 : w0.cell? ⟨w.heap.size, 6, none⟩ = some (.string ⟨#[]⟩) := (blk_cell hz 6).trans rfl
 have z7 : w0.cell? ⟨w.heap.size, 7, none⟩ = some (.string ⟨#[]⟩) := (blk_cell hz 7).trans rfl
 have z8 : w0.cell? ⟨w.heap.size, 8, none⟩ = some (.string ⟨#[114]⟩) := (blk_cell hz 8).trans rfl
 have z9 : w0.cell? ⟨w.heap.size, 9, none⟩ = some (.string ⟨#[]⟩) := (blk_cell hz 9).trans rfl
 have z10 : w0.cell? ⟨w.heap.size, 10, none⟩ = some (.slice none 0 0) := (blk_cell hz 10).trans rfl
 have z11 : w0.cell? ⟨w.heap.size, 11, none⟩ = some (.bool false) := (blk_cell hz 11).trans rfl
 have hsv := hsv w0 (hGP.below hB0)
 go_wp2_with fail
 refine hsv.mono ?_
 rintro e w1 ⟨rfl, hb1⟩
 have hz1 := blk_below hz hb1
 have hb1 := below_then hB0 hB0.size hb1
 clear hsv z0 z1 z2 z3 z4 z5 z6 z7 z8 z9 z10 z11
 have hB2 := below_alloc hb1 (.cells #[.string K, .string V, .bool false] 69)
 have hz2 := blk_below hz1 (below_alloc (Below.refl _ w1) (.cells #[.string K, .string V, .bool false] 69))
 have hM := C_made (d := k69) (e := 69) w1 [(⟨K, V, false⟩ : S69)] [.string K, .string V, .bool false] (show (1 : Nat) ≤ maxLen by decide) (Reps.c3 (k69_mkM _ _ _ (⟨K, V, false⟩ : S69)) (Reps.none _ _))
 have hMr := Kd.R_reads' hM
 go_wp2_with fail
 refine (hst _ hB2 _ 1 hMr.2.2 (Nat.le_refl _)).mono ?_
 clear hM hMr hst
 generalize w1.alloc (.cells #[.string K, .string V, .bool false] 69) = w2 at hB2 hz2 ⊢
 rintro e w3 ⟨hb3, ⟨hsb, _⟩ | ⟨hsb, s, v, rfl, hS, hR⟩⟩
 ·
  cases hsb
 ·
  obtain ⟨Av, cv, rfl, _⟩ := hR.slice
  have hB3 := below_then hB2 hB2.size hb3
  have hz3 := blk_below hz2 hb3
  go_wp2_with fail
  refine (how _ s _ w3 hS (by decide) (hGP.below hB3) (hGE.below hB3)).mono ?_
  rintro e w4 ⟨A, c, rfl, hb4⟩
  have hB4 := below_then hB3 hB3.size hb4
  have hz4 := blk_below hz3 hb4
  go_upto_region 4 with (fail)
  have hx5 := heap_alloc_new w4 (.cells #[.string ⟨#[105]⟩, .string ⟨#[]⟩, .string ⟨#[]⟩, .string ⟨#[]⟩, .string ⟨#[]⟩, .string ⟨#[]⟩, .string ⟨#[]⟩, .string ⟨#[]⟩, .string ⟨#[114]⟩, .string ⟨#[]⟩, .slice A 0 c, .bool false] 93)
  have hb5 : Below w4.heap.size w4 (w4.alloc (.cells #[.string ⟨#[105]⟩, .string ⟨#[]⟩, .string ⟨#[]⟩, .string ⟨#[]⟩, .string ⟨#[]⟩, .string ⟨#[]⟩, .string ⟨#[]⟩, .string ⟨#[]⟩, .string ⟨#[114]⟩, .string ⟨#[]⟩, .slice A 0 c, .bool false] 93)) := (Below.refl _ w4).alloc (Nat.le_refl _) _
  generalize w4.alloc (.cells #[.string ⟨#[105]⟩, .string ⟨#[]⟩, .string ⟨#[]⟩, .string ⟨#[]⟩, .string ⟨#[]⟩, .string ⟨#[]⟩, .string ⟨#[]⟩, .string ⟨#[]⟩, .string ⟨#[114]⟩, .string ⟨#[]⟩, .slice A 0 c, .bool false] 93) = w5 at hx5 hb5 ⊢
  have hB5 := below_then hB4 hB4.size hb5
  have hz5 := blk_below hz4 hb5
  have g0 : w5.cell? ⟨w4.heap.size, 0, none⟩ = some (.string ⟨#[105]⟩) := (blk_cell hx5 0).trans rfl
  have z0 : w5.cell? ⟨w.heap.size, 0, none⟩ = some (.string ⟨#[105]⟩) := (blk_cell hz5 0).trans rfl
  have z1 : w5.cell? ⟨w.heap.size, 1, none⟩ = some (.string ⟨#[]⟩) := (blk_cell hz5 1).trans rfl
  have z2 : w5.cell? ⟨w.heap.size, 2, none⟩ = some (.string ⟨#[]⟩) := (blk_cell hz5 2).trans rfl
  have z3 : w5.cell? ⟨w.heap.size, 3, none⟩ = some (.string ⟨#[]⟩) := (blk_cell hz5 3).trans rfl
  have z4 : w5.cell? ⟨w.heap.size, 4, none⟩ = some (.string ⟨#[]⟩) := (blk_cell hz5 4).trans rfl
  have z5 : w5.cell? ⟨w.heap.size, 5, none⟩ = some (.string ⟨#[]⟩) := (blk_cell hz5 5).trans rfl
  have z6 : w5.cell? ⟨w.heap.size, 6, none⟩ = some (.string ⟨#[]⟩) := (blk_cell hz5 6).trans rfl
  have z7 : w5.cell? ⟨w.heap.size, 7, none⟩ = some (.string ⟨#[]⟩) := (blk_cell hz5 7).trans rfl
  have z8 : w5.cell? ⟨w.heap.size, 8, none⟩ = some (.string ⟨#[114]⟩) := (blk_cell hz5 8).trans rfl
  have z9 : w5.cell? ⟨w.heap.size, 9, none⟩ = some (.string ⟨#[]⟩) := (blk_cell hz5 9).trans rfl
  have z10 : w5.cell? ⟨w.heap.size, 10, none⟩ = some (.slice none 0 0) := (blk_cell hz5 10).trans rfl
  have z11 : w5.cell? ⟨w.heap.size, 11, none⟩ = some (.bool false) := (blk_cell hz5 11).trans rfl
  clear how hS hR hx5
  go_wp2_with fail
  refine (hsp w5).mono ?_
  rintro e w6 ⟨A', c', rfl, hb6⟩
  have hB6 := below_then hB5 hB5.size hb6
  have hz6 := blk_below hz5 hb6
  clear g0 z0 z1 z2 z3 z4 z5 z6 z7 z8 z9 z10 z11
  have z0 : w6.cell? ⟨w.heap.size, 0, none⟩ = some (.string ⟨#[105]⟩) := (blk_cell hz6 0).trans rfl
  have z1 : w6.cell? ⟨w.heap.size, 1, none⟩ = some (.string ⟨#[]⟩) := (blk_cell hz6 1).trans rfl
  have z2 : w6.cell? ⟨w.heap.size, 2, none⟩ = some (.string ⟨#[]⟩) := (blk_cell hz6 2).trans rfl
  have z3 : w6.cell? ⟨w.heap.size, 3, none⟩ = some (.string ⟨#[]⟩) := (blk_cell hz6 3).trans rfl
  have z4 : w6.cell? ⟨w.heap.size, 4, none⟩ = some (.string ⟨#[]⟩) := (blk_cell hz6 4).trans rfl
  have z5 : w6.cell? ⟨w.heap.size, 5, none⟩ = some (.string ⟨#[]⟩) := (blk_cell hz6 5).trans rfl
  have z6 : w6.cell? ⟨w.heap.size, 6, none⟩ = some (.string ⟨#[]⟩) := (blk_cell hz6 6).trans rfl
  have z7 : w6.cell? ⟨w.heap.size, 7, none⟩ = some (.string ⟨#[]⟩) := (blk_cell hz6 7).trans rfl
  have z8 : w6.cell? ⟨w.heap.size, 8, none⟩ = some (.string ⟨#[114]⟩) := (blk_cell hz6 8).trans rfl
  have z9 : w6.cell? ⟨w.heap.size, 9, none⟩ = some (.string ⟨#[]⟩) := (blk_cell hz6 9).trans rfl
  have z10 : w6.cell? ⟨w.heap.size, 10, none⟩ = some (.slice none 0 0) := (blk_cell hz6 10).trans rfl
  have z11 : w6.cell? ⟨w.heap.size, 11, none⟩ = some (.bool false) := (blk_cell hz6 11).trans rfl
  go_wp2_with fail
  refine (hsp w6).mono ?_
  rintro e w7 ⟨A2, c2, rfl, hb7⟩
  go_wp2_with fail
  go_ret
  exact ⟨rfl, below_then hB6 hB6.size hb7⟩
-- AW]
end Go.Proofs.YtpoblffgclmmlaaGreatDoor.X
end
