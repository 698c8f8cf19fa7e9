/- A part of the proof of a card: what some functions of the program come to, each under the conditions that its theorem names. -/
import Derived.Lib.SmallJoins
import Derived.Deep.Fields
import Derived.ChangeSame
import Derived.OpenShut
import Derived.Test.YtpoblffgclmmlaaGreatDoorPkPk13
import Derived.Test.YtpoblffgclmmlaaGreatDoorPkPk18
import Derived.Test.YtpoblffgclmmlaaGreatDoorPkPk19
section
set_option linter.unusedVariables false
set_option linter.unusedSimpArgs false
namespace Go.Proofs.YtpoblffgclmmlaaGreatDoor.X
open Go.Joins Go.ChangeShapes Go.WideShapes Go.RowKit

theorem i64_lit {n : Int} (h : (Lit.int .i64 n).wf = true) : I64 n := by
 simp [Lit.wf, IntKind.min, IntKind.max, IntKind.bits, IntKind.signed] at h
 unfold I64
 omega
end Go.Proofs.YtpoblffgclmmlaaGreatDoor.X
end
section
set_option linter.unusedVariables false
set_option linter.unusedSimpArgs false
namespace Go.Proofs.YtpoblffgclmmlaaGreatDoor.X
open Go.Joins Go.ChangeShapes Go.WideShapes Go.RowKit

def CodSmall (x : Cod) : Prop := x.code.size ≤ 140737488351232 ∧ x.client.size ≤ 140737488351232 ∧ x.redirect.size ≤ 140737488351232 ∧ x.challenge.size ≤ 140737488351232 ∧ x.nonce.size ≤ 140737488351232 ∧ x.scope.size ≤ 140737488351232 ∧ x.user.size ≤ 140737488351232 ∧ x.conn.size ≤ 140737488351232 ∧ x.sub.size ≤ 140737488351232 ∧ x.claims.size ≤ 140737488351232 ∧ x.refresh.size ≤ 140737488351232 ∧ x.family.size ≤ 140737488351232
def CodIn (v : Value) : Prop := ∃ x : Cod, v = codV x ∧ I64 x.ends ∧ CodSmall x
theorem cod_open {H : Type} {enc : TypeId × Value → H} {P : Program} {w : World} {base b0 : Nat} {held : Bool} {r : Reach} {t : TypeId} {f0 f1 f2 f3 f4 f5 f6 f7 f8 f9 f10 f11 f12 : Field} {v : Value} {d : DataW H} {p : List MemPlace}
  (hs : P.underlying t = some (.struct #[f0, f1, f2, f3, f4, f5, f6, f7, f8, f9, f10, f11, f12])) (hone : Deep.oneCellFields P #[f0, f1, f2, f3, f4, f5, f6, f7, f8, f9, f10, f11, f12] = true) (hC : P.cellsOf t = 13) (u0 : P.underlying f0.type = some (.string)) (u1 : P.underlying f1.type = some (.string)) (u2 : P.underlying f2.type = some (.string)) (u3 : P.underlying f3.type = some (.string)) (u4 : P.underlying f4.type = some (.string)) (u5 : P.underlying f5.type = some (.string)) (u6 : P.underlying f6.type = some (.string)) (u7 : P.underlying f7.type = some (.string)) (u8 : P.underlying f8.type = some (.string)) (u9 : P.underlying f9.type = some (.string)) (u10 : P.underlying f10.type = some (.string)) (u11 : P.underlying f11.type = some (.int .i64)) (u12 : P.underlying f12.type = some (.string))
  (hv : Value.okWide P w r b0 t v) (h : DataW.Trod enc P w base (fun _ => true) held t v d p) (hw : ∀ n ∈ d.weights P t, n ≤ reachBytes) : CodIn v := by
 obtain ⟨cs, rfl, hsz⟩ := okWide_struct hs hv
 obtain ⟨l⟩ := cs
 have hl := hsz.trans hC
 obtain ⟨fuel, hf⟩ := h
 obtain ⟨xs, n, _, hx, _, hlen, hg⟩ := DataW.trod_struct hs hf
 simp only [Prod.mk.injEq] at hx
 have hd := hx.1
 match l, hl with
 | [c0, c1, c2, c3, c4, c5, c6, c7, c8, c9, c10, c11, c12], _ =>
  match xs, hlen, hd with
  | [y0, y1, y2, y3, y4, y5, y6, y7, y8, y9, y10, y11, y12], _, hd =>
   have g0 := hg 0 f0 rfl
   obtain ⟨o0, k0⟩ := Deep.hone_of hone 0 f0 rfl
   rw [o0, k0] at g0
   have g1 := hg 1 f1 rfl
   obtain ⟨o1, k1⟩ := Deep.hone_of hone 1 f1 rfl
   rw [o1, k1] at g1
   have g2 := hg 2 f2 rfl
   obtain ⟨o2, k2⟩ := Deep.hone_of hone 2 f2 rfl
   rw [o2, k2] at g2
   have g3 := hg 3 f3 rfl
   obtain ⟨o3, k3⟩ := Deep.hone_of hone 3 f3 rfl
   rw [o3, k3] at g3
   have g4 := hg 4 f4 rfl
   obtain ⟨o4, k4⟩ := Deep.hone_of hone 4 f4 rfl
   rw [o4, k4] at g4
   have g5 := hg 5 f5 rfl
   obtain ⟨o5, k5⟩ := Deep.hone_of hone 5 f5 rfl
   rw [o5, k5] at g5
   have g6 := hg 6 f6 rfl
   obtain ⟨o6, k6⟩ := Deep.hone_of hone 6 f6 rfl
   rw [o6, k6] at g6
   have g7 := hg 7 f7 rfl
   obtain ⟨o7, k7⟩ := Deep.hone_of hone 7 f7 rfl
   rw [o7, k7] at g7
   have g8 := hg 8 f8 rfl
   obtain ⟨o8, k8⟩ := Deep.hone_of hone 8 f8 rfl
   rw [o8, k8] at g8
   have g9 := hg 9 f9 rfl
   obtain ⟨o9, k9⟩ := Deep.hone_of hone 9 f9 rfl
   rw [o9, k9] at g9
   have g10 := hg 10 f10 rfl
   obtain ⟨o10, k10⟩ := Deep.hone_of hone 10 f10 rfl
   rw [o10, k10] at g10
   have g11 := hg 11 f11 rfl
   obtain ⟨o11, k11⟩ := Deep.hone_of hone 11 f11 rfl
   rw [o11, k11] at g11
   have g12 := hg 12 f12 rfl
   obtain ⟨o12, k12⟩ := Deep.hone_of hone 12 f12 rfl
   rw [o12, k12] at g12
   obtain ⟨s0, e0, z0, _⟩ := DataW.trod_string u0 g0
   obtain ⟨s1, e1, z1, _⟩ := DataW.trod_string u1 g1
   obtain ⟨s2, e2, z2, _⟩ := DataW.trod_string u2 g2
   obtain ⟨s3, e3, z3, _⟩ := DataW.trod_string u3 g3
   obtain ⟨s4, e4, z4, _⟩ := DataW.trod_string u4 g4
   obtain ⟨s5, e5, z5, _⟩ := DataW.trod_string u5 g5
   obtain ⟨s6, e6, z6, _⟩ := DataW.trod_string u6 g6
   obtain ⟨s7, e7, z7, _⟩ := DataW.trod_string u7 g7
   obtain ⟨s8, e8, z8, _⟩ := DataW.trod_string u8 g8
   obtain ⟨s9, e9, z9, _⟩ := DataW.trod_string u9 g9
   obtain ⟨s10, e10, z10, _⟩ := DataW.trod_string u10 g10
   obtain ⟨s11, e11, z11, wf11⟩ := DataW.trod_int u11 g11
   obtain ⟨s12, e12, z12, _⟩ := DataW.trod_string u12 g12
   simp only [List.drop_zero, List.drop_succ_cons, List.take_succ_cons, List.take_zero, List.cons.injEq, and_true, Value.cells] at e0 e1 e2 e3 e4 e5 e6 e7 e8 e9 e10 e11 e12
   subst e0
   subst z0
   subst e1
   subst z1
   subst e2
   subst z2
   subst e3
   subst z3
   subst e4
   subst z4
   subst e5
   subst z5
   subst e6
   subst z6
   subst e7
   subst z7
   subst e8
   subst z8
   subst e9
   subst z9
   subst e10
   subst z10
   subst e11
   subst z11
   subst e12
   subst z12
   rw [hd, DataW.weights, hs] at hw
   have a0 := hw s0.data.toList.length (by simp [DataW.weightsEach, DataW.weights])
   have a1 := hw s1.data.toList.length (by simp [DataW.weightsEach, DataW.weights])
   have a2 := hw s2.data.toList.length (by simp [DataW.weightsEach, DataW.weights])
   have a3 := hw s3.data.toList.length (by simp [DataW.weightsEach, DataW.weights])
   have a4 := hw s4.data.toList.length (by simp [DataW.weightsEach, DataW.weights])
   have a5 := hw s5.data.toList.length (by simp [DataW.weightsEach, DataW.weights])
   have a6 := hw s6.data.toList.length (by simp [DataW.weightsEach, DataW.weights])
   have a7 := hw s7.data.toList.length (by simp [DataW.weightsEach, DataW.weights])
   have a8 := hw s8.data.toList.length (by simp [DataW.weightsEach, DataW.weights])
   have a9 := hw s9.data.toList.length (by simp [DataW.weightsEach, DataW.weights])
   have a10 := hw s10.data.toList.length (by simp [DataW.weightsEach, DataW.weights])
   have a12 := hw s12.data.toList.length (by simp [DataW.weightsEach, DataW.weights])
   simp only [Array.length_toList, reachBytes] at a0 a1 a2 a3 a4 a5 a6 a7 a8 a9 a10 a12
   exact ⟨⟨s0, s1, s2, s3, s4, s5, s6, s7, s8, s9, s10, s11, s12⟩, rfl, i64_lit wf11, a0, a1, a2, a3, a4, a5, a6, a7, a8, a9, a10, a12⟩
end Go.Proofs.YtpoblffgclmmlaaGreatDoor.X
end
section
set_option linter.unusedVariables false
set_option linter.unusedSimpArgs false
namespace Go.Proofs.YtpoblffgclmmlaaGreatDoor.X
open Go.RowKit Go.WideMaps Go.Maps Go.Proofs.YtpoblffgclmmlaaGreatDoorW.PrintWords Go.Proofs.YtpoblffgclmmlaaGreatDoorW.PrintLast Go.Proofs.YtpoblffgclmmlaaGreatDoorW.PrintMore Go.Proofs.YtpoblffgclmmlaaGreatDoor.Q

/-- May a code be redeemed so? -/
def redS (x : Cod) (cl rd vf : ByteArray) (now : Int) : Bool := if x.family.toList = ([] : List UInt8) then (if x.ends > now then (if x.client.toList = cl.toList then (if x.redirect.toList = rd.toList then rightS x.challenge vf else false) else false) else false) else false
theorem red_is (x : Cod) (cl rd vf : ByteArray) (now : Int) (h1 : x.challenge.size ≤ 1000) (h2 : vf.size ≤ 1000) : ∃ k, grant_Redeem.f k x.code x.client x.redirect x.challenge x.nonce x.scope x.user x.conn x.sub x.claims x.refresh x.ends x.family cl rd vf now = some (redS x cl rd vf now) := by
 obtain ⟨k, hk⟩ := right_is x.challenge vf (by omega) (by omega)
 refine ⟨k, ?_⟩
 have hk := hk k (Nat.le_refl _)
 unfold grant_Redeem.f redS
 rw [show pkce_Right.f k x.challenge vf = _ from hk]
 by_cases h1 : x.family.toList = ([] : List UInt8)
 ·
  by_cases h2 : x.ends > now
  ·
   by_cases h3 : x.client.toList = cl.toList
   ·
    by_cases h4 : x.redirect.toList = rd.toList
    ·
     rw [if_pos h1, if_pos h2, if_pos h3, if_pos h4, if_pos h1, if_pos h2, if_pos h3, if_pos h4]; rfl
    ·
     rw [if_pos h1, if_pos h2, if_pos h3, if_neg h4, if_pos h1, if_pos h2, if_pos h3, if_neg h4]
   ·
    rw [if_pos h1, if_pos h2, if_neg h3, if_pos h1, if_pos h2, if_neg h3]
  ·
   rw [if_pos h1, if_neg h2, if_pos h1, if_neg h2]
 ·
  rw [if_neg h1, if_neg h1]
theorem rred_is (x : Cod) (cl rd vf : ByteArray) (now : Int) (h1 : x.challenge.size ≤ 1000) (h2 : vf.size ≤ 1000) : ∃ k, exequaturref13_Redeem.f k x.code x.client x.redirect x.challenge x.nonce x.scope x.user x.conn x.sub x.claims x.refresh x.ends x.family cl rd vf now = some (redS x cl rd vf now) := by
 obtain ⟨k, hk⟩ := rright_is x.challenge vf (by omega)
 refine ⟨k, ?_⟩
 have hk := hk k (Nat.le_refl _)
 unfold exequaturref13_Redeem.f redS
 rw [show exequaturref01_Right.f k x.challenge vf = _ from hk]
 by_cases h1 : x.family.toList = ([] : List UInt8)
 ·
  by_cases h2 : x.ends > now
  ·
   by_cases h3 : x.client.toList = cl.toList
   ·
    by_cases h4 : x.redirect.toList = rd.toList
    ·
     rw [if_pos h1, if_pos h2, if_pos h3, if_pos h4, if_pos h1, if_pos h2, if_pos h3, if_pos h4]; rfl
    ·
     rw [if_pos h1, if_pos h2, if_pos h3, if_neg h4, if_pos h1, if_pos h2, if_pos h3, if_neg h4]
   ·
    rw [if_pos h1, if_pos h2, if_neg h3, if_pos h1, if_pos h2, if_neg h3]
  ·
   rw [if_pos h1, if_neg h2, if_pos h1, if_neg h2]
 ·
  rw [if_neg h1, if_neg h1]
set_option maxHeartbeats 8000000 in
set_option maxRecDepth 100000 in
theorem GrantRedeems_walk (w : World) (x : Cod) (cl rd vf : ByteArray) (now : Int) (hGL : GL w) (hGP : GP w) (hGE : GE w) :
  Calls Tryz.prog 15 #[codV x, .string cl, .string rd, .string vf, .int .i64 now] w fun e w' => e = .returned (.bool true) ∧ Below w.heap.size w w' := by
 have hB0 : Below w.heap.size w (w.alloc (.cells #[.string x.code, .string x.client, .string x.redirect, .string x.challenge, .string x.nonce, .string x.scope, .string x.user, .string x.conn, .string x.sub, .string x.claims, .string x.refresh, .int .i64 x.ends, .string x.family] 104)) := (Below.refl _ w).alloc (Nat.le_refl _) _
 have hz := heap_alloc_new w (.cells #[.string x.code, .string x.client, .string x.redirect, .string x.challenge, .string x.nonce, .string x.scope, .string x.user, .string x.conn, .string x.sub, .string x.claims, .string x.refresh, .int .i64 x.ends, .string x.family] 104)
 have c3 : (w.alloc (.cells #[.string x.code, .string x.client, .string x.redirect, .string x.challenge, .string x.nonce, .string x.scope, .string x.user, .string x.conn, .string x.sub, .string x.claims, .string x.refresh, .int .i64 x.ends, .string x.family] 104)).cell? ⟨w.heap.size, 3, none⟩ = some (.string x.challenge) := (blk_cell hz 3).trans rfl
 unfold codV
 by_cases hv : 1000 < vf.size
 ·
  have d1 : decide ((1000 : Int) < (vf.size : Int)) = true := decide_eq_true (by omega)
  have d1' : decide (1000 < vf.size) = true := decide_eq_true hv
  have hans := answers20_says (w.alloc (.cells #[.string x.code, .string x.client, .string x.redirect, .string x.challenge, .string x.nonce, .string x.scope, .string x.user, .string x.conn, .string x.sub, .string x.claims, .string x.refresh, .int .i64 x.ends, .string x.family] 104)) (hGL.below hB0) (hGP.below hB0) (hGE.below hB0)
  clear hv
  go_enter Tryz.func15, Tryz.ntmps15
  go_wp2_with fail
  refine hans.mono ?_
  rintro e w2 ⟨rfl, hb2⟩
  go_wp2_with fail
  go_ret
  exact ⟨rfl, below_then hB0 hB0.size hb2⟩
 have d1 : decide ((1000 : Int) < (vf.size : Int)) = false := decide_eq_false (by omega)
 have d1' : decide (1000 < vf.size) = false := decide_eq_false hv
 by_cases hc : 1000 < x.challenge.size
 ·
  have d2 : decide ((1000 : Int) < (x.challenge.size : Int)) = true := decide_eq_true (by omega)
  have d2' : decide (1000 < x.challenge.size) = true := decide_eq_true hc
  have hans := answers20_says (w.alloc (.cells #[.string x.code, .string x.client, .string x.redirect, .string x.challenge, .string x.nonce, .string x.scope, .string x.user, .string x.conn, .string x.sub, .string x.claims, .string x.refresh, .int .i64 x.ends, .string x.family] 104)) (hGL.below hB0) (hGP.below hB0) (hGE.below hB0)
  clear hv hc
  go_enter Tryz.func15, Tryz.ntmps15
  go_wp2_with fail
  refine hans.mono ?_
  rintro e w2 ⟨rfl, hb2⟩
  go_wp2_with fail
  go_ret
  exact ⟨rfl, below_then hB0 hB0.size hb2⟩
 ·
  have d2 : decide ((1000 : Int) < (x.challenge.size : Int)) = false := decide_eq_false (by omega)
  have d2' : decide (1000 < x.challenge.size) = false := decide_eq_false hc
  obtain ⟨k1, hk1⟩ := red_is x cl rd vf now (by omega) (by omega)
  obtain ⟨k2, hk2⟩ := rred_is x cl rd vf now (by omega) (by omega)
  have hredw := fun w3 (hG : GL w3) => grant_Redeem.calls k1 x.code x.client x.redirect x.challenge x.nonce x.scope x.user x.conn x.sub x.claims x.refresh x.ends x.family cl rd vf now _ w3 hk1 hG
  have hrred := fun w4 => exequaturref13_Redeem.calls k2 x.code x.client x.redirect x.challenge x.nonce x.scope x.user x.conn x.sub x.claims x.refresh x.ends x.family cl rd vf now _ w4 hk2
  generalize redS x cl rd vf now = R at hredw hrred
  clear hk1 hk2 hv hc
  go_enter Tryz.func15, Tryz.ntmps15
  go_upto_region 3 with (fail)
  have hB1 := below_drew hB0
  have hz1 := blk_drew hz
  have c0 : (w.alloc (.cells #[.string x.code, .string x.client, .string x.redirect, .string x.challenge, .string x.nonce, .string x.scope, .string x.user, .string x.conn, .string x.sub, .string x.claims, .string x.refresh, .int .i64 x.ends, .string x.family] 104)).drew.cell? ⟨w.heap.size, 0, none⟩ = some (.string x.code) := (blk_cell hz1 0).trans rfl
  have c1 : (w.alloc (.cells #[.string x.code, .string x.client, .string x.redirect, .string x.challenge, .string x.nonce, .string x.scope, .string x.user, .string x.conn, .string x.sub, .string x.claims, .string x.refresh, .int .i64 x.ends, .string x.family] 104)).drew.cell? ⟨w.heap.size, 1, none⟩ = some (.string x.client) := (blk_cell hz1 1).trans rfl
  have c2 : (w.alloc (.cells #[.string x.code, .string x.client, .string x.redirect, .string x.challenge, .string x.nonce, .string x.scope, .string x.user, .string x.conn, .string x.sub, .string x.claims, .string x.refresh, .int .i64 x.ends, .string x.family] 104)).drew.cell? ⟨w.heap.size, 2, none⟩ = some (.string x.redirect) := (blk_cell hz1 2).trans rfl
  have c3 : (w.alloc (.cells #[.string x.code, .string x.client, .string x.redirect, .string x.challenge, .string x.nonce, .string x.scope, .string x.user, .string x.conn, .string x.sub, .string x.claims, .string x.refresh, .int .i64 x.ends, .string x.family] 104)).drew.cell? ⟨w.heap.size, 3, none⟩ = some (.string x.challenge) := (blk_cell hz1 3).trans rfl
  have c4 : (w.alloc (.cells #[.string x.code, .string x.client, .string x.redirect, .string x.challenge, .string x.nonce, .string x.scope, .string x.user, .string x.conn, .string x.sub, .string x.claims, .string x.refresh, .int .i64 x.ends, .string x.family] 104)).drew.cell? ⟨w.heap.size, 4, none⟩ = some (.string x.nonce) := (blk_cell hz1 4).trans rfl
  have c5 : (w.alloc (.cells #[.string x.code, .string x.client, .string x.redirect, .string x.challenge, .string x.nonce, .string x.scope, .string x.user, .string x.conn, .string x.sub, .string x.claims, .string x.refresh, .int .i64 x.ends, .string x.family] 104)).drew.cell? ⟨w.heap.size, 5, none⟩ = some (.string x.scope) := (blk_cell hz1 5).trans rfl
  have c6 : (w.alloc (.cells #[.string x.code, .string x.client, .string x.redirect, .string x.challenge, .string x.nonce, .string x.scope, .string x.user, .string x.conn, .string x.sub, .string x.claims, .string x.refresh, .int .i64 x.ends, .string x.family] 104)).drew.cell? ⟨w.heap.size, 6, none⟩ = some (.string x.user) := (blk_cell hz1 6).trans rfl
  have c7 : (w.alloc (.cells #[.string x.code, .string x.client, .string x.redirect, .string x.challenge, .string x.nonce, .string x.scope, .string x.user, .string x.conn, .string x.sub, .string x.claims, .string x.refresh, .int .i64 x.ends, .string x.family] 104)).drew.cell? ⟨w.heap.size, 7, none⟩ = some (.string x.conn) := (blk_cell hz1 7).trans rfl
  have c8 : (w.alloc (.cells #[.string x.code, .string x.client, .string x.redirect, .string x.challenge, .string x.nonce, .string x.scope, .string x.user, .string x.conn, .string x.sub, .string x.claims, .string x.refresh, .int .i64 x.ends, .string x.family] 104)).drew.cell? ⟨w.heap.size, 8, none⟩ = some (.string x.sub) := (blk_cell hz1 8).trans rfl
  have c9 : (w.alloc (.cells #[.string x.code, .string x.client, .string x.redirect, .string x.challenge, .string x.nonce, .string x.scope, .string x.user, .string x.conn, .string x.sub, .string x.claims, .string x.refresh, .int .i64 x.ends, .string x.family] 104)).drew.cell? ⟨w.heap.size, 9, none⟩ = some (.string x.claims) := (blk_cell hz1 9).trans rfl
  have c10 : (w.alloc (.cells #[.string x.code, .string x.client, .string x.redirect, .string x.challenge, .string x.nonce, .string x.scope, .string x.user, .string x.conn, .string x.sub, .string x.claims, .string x.refresh, .int .i64 x.ends, .string x.family] 104)).drew.cell? ⟨w.heap.size, 10, none⟩ = some (.string x.refresh) := (blk_cell hz1 10).trans rfl
  have c11 : (w.alloc (.cells #[.string x.code, .string x.client, .string x.redirect, .string x.challenge, .string x.nonce, .string x.scope, .string x.user, .string x.conn, .string x.sub, .string x.claims, .string x.refresh, .int .i64 x.ends, .string x.family] 104)).drew.cell? ⟨w.heap.size, 11, none⟩ = some (.int .i64 x.ends) := (blk_cell hz1 11).trans rfl
  have c12 : (w.alloc (.cells #[.string x.code, .string x.client, .string x.redirect, .string x.challenge, .string x.nonce, .string x.scope, .string x.user, .string x.conn, .string x.sub, .string x.claims, .string x.refresh, .int .i64 x.ends, .string x.family] 104)).drew.cell? ⟨w.heap.size, 12, none⟩ = some (.string x.family) := (blk_cell hz1 12).trans rfl
  refine start_ (n := 17) (S := fun w' => w'.cell? ⟨w.heap.size, 0, none⟩ = some (.string x.code) ∧ w'.cell? ⟨w.heap.size, 1, none⟩ = some (.string x.client) ∧ w'.cell? ⟨w.heap.size, 2, none⟩ = some (.string x.redirect) ∧ w'.cell? ⟨w.heap.size, 3, none⟩ = some (.string x.challenge) ∧ w'.cell? ⟨w.heap.size, 4, none⟩ = some (.string x.nonce) ∧ w'.cell? ⟨w.heap.size, 5, none⟩ = some (.string x.scope) ∧ w'.cell? ⟨w.heap.size, 6, none⟩ = some (.string x.user) ∧ w'.cell? ⟨w.heap.size, 7, none⟩ = some (.string x.conn) ∧ w'.cell? ⟨w.heap.size, 8, none⟩ = some (.string x.sub) ∧ w'.cell? ⟨w.heap.size, 9, none⟩ = some (.string x.claims) ∧ w'.cell? ⟨w.heap.size, 10, none⟩ = some (.string x.refresh) ∧ w'.cell? ⟨w.heap.size, 11, none⟩ = some (.int .i64 x.ends) ∧ w'.cell? ⟨w.heap.size, 12, none⟩ = some (.string x.family)) (ds := []) #[false, false, false, false, false, false, false, false, false, false, false, false, false, false, false, false, false] (by kernel_rfl) rfl rfl ⟨c0, c1, c2, c3, c4, c5, c6, c7, c8, c9, c10, c11, c12⟩ (fun hHeld => ?_)
  generalize (w.alloc (.cells #[.string x.code, .string x.client, .string x.redirect, .string x.challenge, .string x.nonce, .string x.scope, .string x.user, .string x.conn, .string x.sub, .string x.claims, .string x.refresh, .int .i64 x.ends, .string x.family] 104)).drew = w2 at hB1 hz1 hHeld c0 c1 c2 c3 c4 c5 c6 c7 c8 c9 c10 c11 c12 ⊢
  have hans := fun w3 (hb : Below w2.heap.size w2 w3) => answers20_says w3 (hGL.below (below_then hB1 hB1.size hb)) (hGP.below (below_then hB1 hB1.size hb)) (hGE.below (below_then hB1 hB1.size hb))
  have hred := fun w3 (hb : Below w2.heap.size w2 w3) => hredw w3 (hGL.below (below_then hB1 hB1.size hb))
  have q1 : (R == R) = true := by simp
  have q2 : decide (R = R) = true := by simp
  clear hredw hz hz1
  refine one_ (i := 0) (N := some 21) #[true, false, false, false, false, false, false, false, false, false, false, false, false, false, false, false, false] rfl rfl (by kernel_rfl) (by decide) (fun K hK => ?_)
  refine goes_ Tryz.func58 (by kernel_rfl) rfl #[] (by rfl) rfl rfl (by first | (simp only [List.map_toArray, List.map_cons, List.map_nil]; done) | (simp only [List.map_toArray, List.map_cons, List.map_nil]; rfl)) ?_
  refine (hans w2 (Below.refl _ w2)).mono ?_
  rintro e w3 ⟨rfl, hb3⟩
  refine ⟨_, rfl, ?_⟩
  refine hK.out _ _ ⟨cellL hb3 c0, cellL hb3 c1, cellL hb3 c2, cellL hb3 c3, cellL hb3 c4, cellL hb3 c5, cellL hb3 c6, cellL hb3 c7, cellL hb3 c8, cellL hb3 c9, cellL hb3 c10, cellL hb3 c11, cellL hb3 c12⟩ (fun hHeld => ?_)
  clear hK K
  refine norm_ (a' := ?_) ?_ ?_
  rotate_left
  ·
   show Act.put _ (some 21) _ = _
   simp only [Act.put, List.setIfInBounds_toArray, List.set_cons_zero, List.set_cons_succ, i64_w, i32_w]
   rfl
  refine pure_ (i := 1) (N := some 22) (v := ?_) (a' := ?_) #[true, true, false, false, false, false, false, false, false, false, false, false, false, false, false, false, false] rfl rfl (by kernel_rfl) (fun _ _ _ h => h) (Or.inl ⟨by rfl, ?_⟩) ?_ ?_
  rotate_left
  ·
   intro w'
   go_simp
   with_reducible rfl
  rotate_left
  ·
   simp only [Act.put, List.setIfInBounds_toArray, List.set_cons_zero, List.set_cons_succ, i64_w, i32_w]
   rfl
  refine pure_ (i := 3) (N := some 24) (v := ?_) (a' := ?_) #[true, true, false, true, false, false, false, false, false, false, false, false, false, false, false, false, false] rfl rfl (by kernel_rfl) (fun _ _ _ h => h) (Or.inl ⟨by rfl, ?_⟩) ?_ ?_
  rotate_left
  ·
   intro w'
   go_simp
   with_reducible rfl
  rotate_left
  ·
   simp only [Act.put, List.setIfInBounds_toArray, List.set_cons_zero, List.set_cons_succ, i64_w, i32_w]
   rfl
  refine pure_ (i := 4) (N := some 25) (v := ?_) (a' := ?_) #[true, true, false, true, true, false, false, false, false, false, false, false, false, false, false, false, false] rfl rfl (by kernel_rfl) (fun _ _ _ h => h) (Or.inl ⟨by rfl, ?_⟩) ?_ ?_
  rotate_left
  ·
   intro w'
   go_simp
   with_reducible rfl
  rotate_left
  ·
   simp only [Act.put, List.setIfInBounds_toArray, List.set_cons_zero, List.set_cons_succ, i64_w, i32_w]
   rfl
  refine pure_ (i := 5) (N := some 26) (v := ?_) (a' := ?_) #[true, true, false, true, true, true, false, false, false, false, false, false, false, false, false, false, false] rfl rfl (by kernel_rfl) (fun _ _ _ h => h) (Or.inl ⟨by rfl, ?_⟩) ?_ ?_
  rotate_left
  ·
   intro w'
   go_simp
   with_reducible rfl
  rotate_left
  ·
   simp only [Act.put, List.setIfInBounds_toArray, List.set_cons_zero, List.set_cons_succ, i64_w, i32_w]
   rfl
  refine pure_ (i := 6) (N := some 27) (v := ?_) (a' := ?_) #[true, true, false, true, true, true, true, false, false, false, false, false, false, false, false, false, false] rfl rfl (by kernel_rfl) (fun _ _ _ h => h) (Or.inl ⟨by rfl, ?_⟩) ?_ ?_
  rotate_left
  ·
   intro w'
   go_simp
   with_reducible rfl
  rotate_left
  ·
   simp only [Act.put, List.setIfInBounds_toArray, List.set_cons_zero, List.set_cons_succ, i64_w, i32_w]
   rfl
  refine pure_ (i := 9) (N := some 30) (v := ?_) (a' := ?_) #[true, true, false, true, true, true, true, false, false, true, false, false, false, false, false, false, false] rfl rfl (by kernel_rfl) (fun _ _ _ h => h) (Or.inl ⟨by rfl, ?_⟩) ?_ ?_
  rotate_left
  ·
   intro w'
   go_simp
   with_reducible rfl
  rotate_left
  ·
   simp only [Act.put, List.setIfInBounds_toArray, List.set_cons_zero, List.set_cons_succ, i64_w, i32_w]
   rfl
  refine pure_ (i := 10) (N := some 31) (v := ?_) (a' := ?_) #[true, true, false, true, true, true, true, false, false, true, true, false, false, false, false, false, false] rfl rfl (by kernel_rfl) (fun _ _ _ h => h) (Or.inl ⟨by rfl, ?_⟩) ?_ ?_
  rotate_left
  ·
   intro w'
   go_simp
   with_reducible rfl
  rotate_left
  ·
   simp only [Act.put, List.setIfInBounds_toArray, List.set_cons_zero, List.set_cons_succ, i64_w, i32_w]
   rfl
  refine pure_ (i := 11) (N := some 32) (v := ?_) (a' := ?_) #[true, true, false, true, true, true, true, false, false, true, true, true, false, false, false, false, false] rfl rfl (by kernel_rfl) (fun _ _ _ h => h) (Or.inl ⟨by rfl, ?_⟩) ?_ ?_
  rotate_left
  ·
   intro w'
   go_simp
   with_reducible rfl
  rotate_left
  ·
   simp only [Act.put, List.setIfInBounds_toArray, List.set_cons_zero, List.set_cons_succ, i64_w, i32_w]
   rfl
  refine pure_ (i := 12) (N := some 33) (v := ?_) (a' := ?_) #[true, true, false, true, true, true, true, false, false, true, true, true, true, false, false, false, false] rfl rfl (by kernel_rfl) (fun _ _ _ h => h) (Or.inl ⟨by rfl, ?_⟩) ?_ ?_
  rotate_left
  ·
   intro w'
   go_simp
   with_reducible rfl
  rotate_left
  ·
   simp only [Act.put, List.setIfInBounds_toArray, List.set_cons_zero, List.set_cons_succ, i64_w, i32_w]
   rfl
  refine take_ (i := 2) (N := some 23) (v := ?_) (a' := ?_) #[true, true, true, true, true, true, true, false, false, true, true, true, true, false, false, false, false] rfl rfl (by kernel_rfl) (fun _ _ _ h => h) (Or.inl ⟨by rfl, ?_⟩) hHeld ?_ ?_
  rotate_left
  ·
   rintro w' ⟨s0, s1, s2, s3, s4, s5, s6, s7, s8, s9, s10, s11, s12⟩
   go_simp
   with_reducible rfl
  rotate_left
  ·
   simp only [Act.put, List.setIfInBounds_toArray, List.set_cons_zero, List.set_cons_succ, i64_w, i32_w]
   rfl
  refine take_ (i := 8) (N := some 29) (v := ?_) (a' := ?_) #[true, true, true, true, true, true, true, false, true, true, true, true, true, false, false, false, false] rfl rfl (by kernel_rfl) (fun _ _ _ h => h) (Or.inl ⟨by rfl, ?_⟩) hHeld ?_ ?_
  rotate_left
  ·
   rintro w' ⟨s0, s1, s2, s3, s4, s5, s6, s7, s8, s9, s10, s11, s12⟩
   go_simp
   with_reducible rfl
  rotate_left
  ·
   simp only [Act.put, List.setIfInBounds_toArray, List.set_cons_zero, List.set_cons_succ, i64_w, i32_w]
   rfl
  refine one_ (i := 7) (N := some 28) #[true, true, true, true, true, true, true, true, true, true, true, true, true, false, false, false, false] rfl rfl (by kernel_rfl) (by decide) (fun K hK => ?_)
  refine goes_ Tryz.func77 (by kernel_rfl) rfl #[.agg #[.string x.code, .string x.client, .string x.redirect, .string x.challenge, .string x.nonce, .string x.scope, .string x.user, .string x.conn, .string x.sub, .string x.claims, .string x.refresh, .int .i64 x.ends, .string x.family], .string cl, .string rd, .string vf, .int .i64 now] (by rfl) rfl rfl (by first | (simp only [List.map_toArray, List.map_cons, List.map_nil]; done) | (simp only [List.map_toArray, List.map_cons, List.map_nil]; rfl)) ?_
  refine (hred w3 hb3).mono ?_
  rintro e w4 ⟨rfl, hb4⟩
  have hb34 := below_then hb3 hb3.size hb4
  refine ⟨_, rfl, ?_⟩
  refine hK.out _ _ ⟨cellL hb34 c0, cellL hb34 c1, cellL hb34 c2, cellL hb34 c3, cellL hb34 c4, cellL hb34 c5, cellL hb34 c6, cellL hb34 c7, cellL hb34 c8, cellL hb34 c9, cellL hb34 c10, cellL hb34 c11, cellL hb34 c12⟩ (fun hHeld => ?_)
  clear hK K
  refine norm_ (a' := ?_) ?_ ?_
  rotate_left
  ·
   show Act.put _ (some 28) _ = _
   simp only [Act.put, List.setIfInBounds_toArray, List.set_cons_zero, List.set_cons_succ, i64_w, i32_w]
   rfl
  refine one_ (i := 13) (N := some 34) #[true, true, true, true, true, true, true, true, true, true, true, true, true, true, false, false, false] rfl rfl (by kernel_rfl) (by decide) (fun K hK => ?_)
  refine goes_ Tryz.func78 (by kernel_rfl) rfl #[.agg #[.string x.code, .string x.client, .string x.redirect, .string x.challenge, .string x.nonce, .string x.scope, .string x.user, .string x.conn, .string x.sub, .string x.claims, .string x.refresh, .int .i64 x.ends, .string x.family], .string cl, .string rd, .string vf, .int .i64 now] (by rfl) rfl rfl (by first | (simp only [List.map_toArray, List.map_cons, List.map_nil]; done) | (simp only [List.map_toArray, List.map_cons, List.map_nil]; rfl)) ?_
  refine (hrred w4).mono ?_
  rintro e w5 ⟨rfl, hb5⟩
  have hb35 := below_then hb34 hb34.size hb5
  refine ⟨_, rfl, ?_⟩
  refine hK.out _ _ ⟨cellL hb35 c0, cellL hb35 c1, cellL hb35 c2, cellL hb35 c3, cellL hb35 c4, cellL hb35 c5, cellL hb35 c6, cellL hb35 c7, cellL hb35 c8, cellL hb35 c9, cellL hb35 c10, cellL hb35 c11, cellL hb35 c12⟩ (fun hHeld => ?_)
  clear hK K
  refine norm_ (a' := ?_) ?_ ?_
  rotate_left
  ·
   show Act.put _ (some 34) _ = _
   simp only [Act.put, List.setIfInBounds_toArray, List.set_cons_zero, List.set_cons_succ, i64_w, i32_w]
   rfl
  refine pure_ (i := 14) (N := some 35) (v := ?_) (a' := ?_) #[true, true, true, true, true, true, true, true, true, true, true, true, true, true, true, false, false] rfl rfl (by kernel_rfl) (fun _ _ _ h => h) (Or.inl ⟨by rfl, ?_⟩) ?_ ?_
  rotate_left
  ·
   intro w'
   go_simp
   with_reducible rfl
  rotate_left
  ·
   simp only [Act.put, List.setIfInBounds_toArray, List.set_cons_zero, List.set_cons_succ, i64_w, i32_w]
   rfl
  refine pure_ (i := 15) (N := some 36) (v := ?_) (a' := ?_) #[true, true, true, true, true, true, true, true, true, true, true, true, true, true, true, true, false] rfl rfl (by kernel_rfl) (fun _ _ _ h => h) (Or.inl ⟨by rfl, ?_⟩) ?_ ?_
  rotate_left
  ·
   intro w'
   go_simp
   with_reducible rfl
  rotate_left
  ·
   simp only [Act.put, List.setIfInBounds_toArray, List.set_cons_zero, List.set_cons_succ, i64_w, i32_w]
   rfl
  refine pure_ (i := 16) (N := some 10) (v := ?_) (a' := ?_) #[true, true, true, true, true, true, true, true, true, true, true, true, true, true, true, true, true] rfl rfl (by kernel_rfl) (fun _ _ _ h => h) (Or.inl ⟨by rfl, ?_⟩) ?_ ?_
  rotate_left
  ·
   intro w'
   go_simp
   with_reducible rfl
  rotate_left
  ·
   simp only [Act.put, List.setIfInBounds_toArray, List.set_cons_zero, List.set_cons_succ, i64_w, i32_w]
   rfl
  refine done_ (by kernel_rfl) ?_
  go_wp2_with fail
  go_ret
  exact ⟨rfl, below_then hB1 hB1.size hb35⟩
theorem GrantRedeems_in (w : World) (v : Value) (h : CodIn v) (cl : ByteArray) (h1 : cl.size ≤ 140737488351232) (rd : ByteArray) (h2 : rd.size ≤ 140737488351232) (vf : ByteArray) (h3 : vf.size ≤ 140737488351232) (now : Int) (hn : (Lit.int .i64 now).wf = true) (hGL : GL w) (hGP : GP w) (hGE : GE w) :
  Calls Tryz.prog 15 #[v, .string cl, .string rd, .string vf, .int .i64 now] w fun e w' => e = .returned (.bool true) ∧ Below w.heap.size w w' := by
 obtain ⟨x, rfl, _, _⟩ := h
 exact GrantRedeems_walk w x cl rd vf now hGL hGP hGE
end Go.Proofs.YtpoblffgclmmlaaGreatDoor.X
end
