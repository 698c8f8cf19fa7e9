/- A part of the proof of a card: what some functions of the program come to, each under the conditions that its theorem names. -/
import Derived.Lib.SmallJoins
import Derived.Deep.Fields
import Derived.ChangeSame
import Derived.OpenShut
import Derived.Test.YtpoblffgclmmlaaGreatDoorPkPk19
section
set_option linter.unusedVariables false
set_option linter.unusedSimpArgs false
namespace Go.Proofs.YtpoblffgclmmlaaGreatDoor.X
open Go.Joins Go.ChangeShapes Go.WideShapes Go.RowKit

def SesSmall (x : Ses) : Prop := x.cookie.size ≤ 140737488351232 ∧ x.client.size ≤ 140737488351232 ∧ x.redirect.size ≤ 140737488351232 ∧ x.state.size ≤ 140737488351232 ∧ x.nonce.size ≤ 140737488351232 ∧ x.scope.size ≤ 140737488351232 ∧ x.challenge.size ≤ 140737488351232 ∧ x.conn.size ≤ 140737488351232 ∧ x.upState.size ≤ 140737488351232 ∧ x.upNonce.size ≤ 140737488351232
def SesIn (v : Value) : Prop := ∃ x : Ses, v = sesV x ∧ I64 x.stage ∧ I64 x.ends ∧ SesSmall x
theorem sesL_big (x : Ses) (h1 : I64 x.stage) (h2 : I64 x.ends) (h : SesSmall x) : (txs (sesL x)).length ≤ 9000000000000000000 := by
 obtain ⟨a0, a1, a2, a3, a4, a5, a6, a8, a9, a10⟩ := h
 have i1 := itB_size h1
 have i2 := itB_size h2
 have hl := txsLen (sesL x) (by
  intro y hy
  simp only [sesL, List.mem_cons, List.not_mem_nil, or_false] at hy
  rcases hy with e | e | e | e | e | e | e | e | e | e | e | e <;> subst e <;> omega)
 simp only [sesL, List.length_cons, List.length_nil, List.map_cons, List.map_nil, List.sum_cons, List.sum_nil] at hl
 simp only [sesL]
 omega
theorem i64_lit {n : Int} (h : (Lit.int .i64 n).wf = true) : I64 n := by
 simp [Lit.wf, IntKind.min, IntKind.max, IntKind.bits, IntKind.signed] at h
 unfold I64
 omega
theorem ses_open {H : Type} {enc : TypeId × Value → H} {P : Program} {w : World} {base b0 : Nat} {held : Bool} {r : Reach} {t : TypeId} {f0 f1 f2 f3 f4 f5 f6 f7 f8 f9 f10 f11 : Field} {v : Value} {d : DataW H} {p : List MemPlace}
  (hs : P.underlying t = some (.struct #[f0, f1, f2, f3, f4, f5, f6, f7, f8, f9, f10, f11])) (hone : Deep.oneCellFields P #[f0, f1, f2, f3, f4, f5, f6, f7, f8, f9, f10, f11] = true) (hC : P.cellsOf t = 12) (u0 : P.underlying f0.type = some (.string)) (u1 : P.underlying f1.type = some (.string)) (u2 : P.underlying f2.type = some (.string)) (u3 : P.underlying f3.type = some (.string)) (u4 : P.underlying f4.type = some (.string)) (u5 : P.underlying f5.type = some (.string)) (u6 : P.underlying f6.type = some (.string)) (u7 : P.underlying f7.type = some (.int .i64)) (u8 : P.underlying f8.type = some (.string)) (u9 : P.underlying f9.type = some (.string)) (u10 : P.underlying f10.type = some (.string)) (u11 : P.underlying f11.type = some (.int .i64))
  (hv : Value.okWide P w r b0 t v) (h : DataW.Trod enc P w base (fun _ => true) held t v d p) (hw : ∀ n ∈ d.weights P t, n ≤ reachBytes) : SesIn v := by
 obtain ⟨cs, rfl, hsz⟩ := okWide_struct hs hv
 obtain ⟨l⟩ := cs
 have hl := hsz.trans hC
 obtain ⟨fuel, hf⟩ := h
 obtain ⟨xs, n, _, hx, _, hlen, hg⟩ := DataW.trod_struct hs hf
 simp only [Prod.mk.injEq] at hx
 have hd := hx.1
 match l, hl with
 | [c0, c1, c2, c3, c4, c5, c6, c7, c8, c9, c10, c11], _ =>
  match xs, hlen, hd with
  | [y0, y1, y2, y3, y4, y5, y6, y7, y8, y9, y10, y11], _, hd =>
   have g0 := hg 0 f0 rfl
   obtain ⟨o0, k0⟩ := Deep.hone_of hone 0 f0 rfl
   rw [o0, k0] at g0
   have g1 := hg 1 f1 rfl
   obtain ⟨o1, k1⟩ := Deep.hone_of hone 1 f1 rfl
   rw [o1, k1] at g1
   have g2 := hg 2 f2 rfl
   obtain ⟨o2, k2⟩ := Deep.hone_of hone 2 f2 rfl
   rw [o2, k2] at g2
   have g3 := hg 3 f3 rfl
   obtain ⟨o3, k3⟩ := Deep.hone_of hone 3 f3 rfl
   rw [o3, k3] at g3
   have g4 := hg 4 f4 rfl
   obtain ⟨o4, k4⟩ := Deep.hone_of hone 4 f4 rfl
   rw [o4, k4] at g4
   have g5 := hg 5 f5 rfl
   obtain ⟨o5, k5⟩ := Deep.hone_of hone 5 f5 rfl
   rw [o5, k5] at g5
   have g6 := hg 6 f6 rfl
   obtain ⟨o6, k6⟩ := Deep.hone_of hone 6 f6 rfl
   rw [o6, k6] at g6
   have g7 := hg 7 f7 rfl
   obtain ⟨o7, k7⟩ := Deep.hone_of hone 7 f7 rfl
   rw [o7, k7] at g7
   have g8 := hg 8 f8 rfl
   obtain ⟨o8, k8⟩ := Deep.hone_of hone 8 f8 rfl
   rw [o8, k8] at g8
   have g9 := hg 9 f9 rfl
   obtain ⟨o9, k9⟩ := Deep.hone_of hone 9 f9 rfl
   rw [o9, k9] at g9
   have g10 := hg 10 f10 rfl
   obtain ⟨o10, k10⟩ := Deep.hone_of hone 10 f10 rfl
   rw [o10, k10] at g10
   have g11 := hg 11 f11 rfl
   obtain ⟨o11, k11⟩ := Deep.hone_of hone 11 f11 rfl
   rw [o11, k11] at g11
   obtain ⟨s0, e0, z0, _⟩ := DataW.trod_string u0 g0
   obtain ⟨s1, e1, z1, _⟩ := DataW.trod_string u1 g1
   obtain ⟨s2, e2, z2, _⟩ := DataW.trod_string u2 g2
   obtain ⟨s3, e3, z3, _⟩ := DataW.trod_string u3 g3
   obtain ⟨s4, e4, z4, _⟩ := DataW.trod_string u4 g4
   obtain ⟨s5, e5, z5, _⟩ := DataW.trod_string u5 g5
   obtain ⟨s6, e6, z6, _⟩ := DataW.trod_string u6 g6
   obtain ⟨s7, e7, z7, wf7⟩ := DataW.trod_int u7 g7
   obtain ⟨s8, e8, z8, _⟩ := DataW.trod_string u8 g8
   obtain ⟨s9, e9, z9, _⟩ := DataW.trod_string u9 g9
   obtain ⟨s10, e10, z10, _⟩ := DataW.trod_string u10 g10
   obtain ⟨s11, e11, z11, wf11⟩ := DataW.trod_int u11 g11
   simp only [List.drop_zero, List.drop_succ_cons, List.take_succ_cons, List.take_zero, List.cons.injEq, and_true, Value.cells] at e0 e1 e2 e3 e4 e5 e6 e7 e8 e9 e10 e11
   subst e0
   subst z0
   subst e1
   subst z1
   subst e2
   subst z2
   subst e3
   subst z3
   subst e4
   subst z4
   subst e5
   subst z5
   subst e6
   subst z6
   subst e7
   subst z7
   subst e8
   subst z8
   subst e9
   subst z9
   subst e10
   subst z10
   subst e11
   subst z11
   rw [hd, DataW.weights, hs] at hw
   have a0 := hw s0.data.toList.length (by simp [DataW.weightsEach, DataW.weights])
   have a1 := hw s1.data.toList.length (by simp [DataW.weightsEach, DataW.weights])
   have a2 := hw s2.data.toList.length (by simp [DataW.weightsEach, DataW.weights])
   have a3 := hw s3.data.toList.length (by simp [DataW.weightsEach, DataW.weights])
   have a4 := hw s4.data.toList.length (by simp [DataW.weightsEach, DataW.weights])
   have a5 := hw s5.data.toList.length (by simp [DataW.weightsEach, DataW.weights])
   have a6 := hw s6.data.toList.length (by simp [DataW.weightsEach, DataW.weights])
   have a8 := hw s8.data.toList.length (by simp [DataW.weightsEach, DataW.weights])
   have a9 := hw s9.data.toList.length (by simp [DataW.weightsEach, DataW.weights])
   have a10 := hw s10.data.toList.length (by simp [DataW.weightsEach, DataW.weights])
   simp only [Array.length_toList, reachBytes] at a0 a1 a2 a3 a4 a5 a6 a8 a9 a10
   exact ⟨⟨s0, s1, s2, s3, s4, s5, s6, s7, s8, s9, s10, s11⟩, rfl, i64_lit wf7, i64_lit wf11, a0, a1, a2, a3, a4, a5, a6, a8, a9, a10⟩
end Go.Proofs.YtpoblffgclmmlaaGreatDoor.X
end
section
set_option linter.unusedVariables false
set_option linter.unusedSimpArgs false
namespace Go.Proofs.YtpoblffgclmmlaaGreatDoor.X
open Go.RowKit Go.WideMaps Go.Maps Go.Proofs.YtpoblffgclmmlaaGreatDoorW.PrintWords Go.Proofs.YtpoblffgclmmlaaGreatDoorW.PrintLast Go.Proofs.YtpoblffgclmmlaaGreatDoorW.PrintMore Go.Proofs.YtpoblffgclmmlaaGreatDoor.Q

set_option maxHeartbeats 8000000 in
set_option maxRecDepth 100000 in
theorem SeatSaves_walk (w : World) (x : Ses) (now : Int) (h1 : I64 x.stage) (h2 : I64 x.ends) (hn : I64 now) (hlen : (txs (sesL x)).length ≤ 9000000000000000000) (hGL : GL w) (hGP : GP w) (hGE : GE w) :
  Calls Tryz.prog 6 #[sesV x, .int .i64 now] w fun e w' => e = .returned (.bool true) ∧ Below w.heap.size w w' := by
 have hB0 : Below w.heap.size w (w.alloc (.cells #[.string x.cookie, .string x.client, .string x.redirect, .string x.state, .string x.nonce, .string x.scope, .string x.challenge, .int .i64 x.stage, .string x.conn, .string x.upState, .string x.upNonce, .int .i64 x.ends] 72)) := (Below.refl _ w).alloc (Nat.le_refl _) _
 have hz := heap_alloc_new w (.cells #[.string x.cookie, .string x.client, .string x.redirect, .string x.state, .string x.nonce, .string x.scope, .string x.challenge, .int .i64 x.stage, .string x.conn, .string x.upState, .string x.upNonce, .int .i64 x.ends] 72)
 have hans := fun w2 (hb : Below w.heap.size w w2) => answers19_says w2 (hGL.below hb) (hGP.below hb) (hGE.below hb)
 have hrs := rsession_says x h1 h2 (by omega) (w.alloc (.cells #[.string x.cookie, .string x.client, .string x.redirect, .string x.state, .string x.nonce, .string x.scope, .string x.challenge, .int .i64 x.stage, .string x.conn, .string x.upState, .string x.upNonce, .int .i64 x.ends] 72))
 have hVs := sesT_size x
 simp only [sesV] at hrs ⊢
 have c0 : (w.alloc (.cells #[.string x.cookie, .string x.client, .string x.redirect, .string x.state, .string x.nonce, .string x.scope, .string x.challenge, .int .i64 x.stage, .string x.conn, .string x.upState, .string x.upNonce, .int .i64 x.ends] 72)).cell? ⟨w.heap.size, 0, none⟩ = some (.string x.cookie) := (blk_cell hz 0).trans rfl
 have c1 : (w.alloc (.cells #[.string x.cookie, .string x.client, .string x.redirect, .string x.state, .string x.nonce, .string x.scope, .string x.challenge, .int .i64 x.stage, .string x.conn, .string x.upState, .string x.upNonce, .int .i64 x.ends] 72)).cell? ⟨w.heap.size, 1, none⟩ = some (.string x.client) := (blk_cell hz 1).trans rfl
 have c2 : (w.alloc (.cells #[.string x.cookie, .string x.client, .string x.redirect, .string x.state, .string x.nonce, .string x.scope, .string x.challenge, .int .i64 x.stage, .string x.conn, .string x.upState, .string x.upNonce, .int .i64 x.ends] 72)).cell? ⟨w.heap.size, 2, none⟩ = some (.string x.redirect) := (blk_cell hz 2).trans rfl
 have c3 : (w.alloc (.cells #[.string x.cookie, .string x.client, .string x.redirect, .string x.state, .string x.nonce, .string x.scope, .string x.challenge, .int .i64 x.stage, .string x.conn, .string x.upState, .string x.upNonce, .int .i64 x.ends] 72)).cell? ⟨w.heap.size, 3, none⟩ = some (.string x.state) := (blk_cell hz 3).trans rfl
 have c4 : (w.alloc (.cells #[.string x.cookie, .string x.client, .string x.redirect, .string x.state, .string x.nonce, .string x.scope, .string x.challenge, .int .i64 x.stage, .string x.conn, .string x.upState, .string x.upNonce, .int .i64 x.ends] 72)).cell? ⟨w.heap.size, 4, none⟩ = some (.string x.nonce) := (blk_cell hz 4).trans rfl
 have c5 : (w.alloc (.cells #[.string x.cookie, .string x.client, .string x.redirect, .string x.state, .string x.nonce, .string x.scope, .string x.challenge, .int .i64 x.stage, .string x.conn, .string x.upState, .string x.upNonce, .int .i64 x.ends] 72)).cell? ⟨w.heap.size, 5, none⟩ = some (.string x.scope) := (blk_cell hz 5).trans rfl
 have c6 : (w.alloc (.cells #[.string x.cookie, .string x.client, .string x.redirect, .string x.state, .string x.nonce, .string x.scope, .string x.challenge, .int .i64 x.stage, .string x.conn, .string x.upState, .string x.upNonce, .int .i64 x.ends] 72)).cell? ⟨w.heap.size, 6, none⟩ = some (.string x.challenge) := (blk_cell hz 6).trans rfl
 have c7 : (w.alloc (.cells #[.string x.cookie, .string x.client, .string x.redirect, .string x.state, .string x.nonce, .string x.scope, .string x.challenge, .int .i64 x.stage, .string x.conn, .string x.upState, .string x.upNonce, .int .i64 x.ends] 72)).cell? ⟨w.heap.size, 7, none⟩ = some (.int .i64 x.stage) := (blk_cell hz 7).trans rfl
 have c8 : (w.alloc (.cells #[.string x.cookie, .string x.client, .string x.redirect, .string x.state, .string x.nonce, .string x.scope, .string x.challenge, .int .i64 x.stage, .string x.conn, .string x.upState, .string x.upNonce, .int .i64 x.ends] 72)).cell? ⟨w.heap.size, 8, none⟩ = some (.string x.conn) := (blk_cell hz 8).trans rfl
 have c9 : (w.alloc (.cells #[.string x.cookie, .string x.client, .string x.redirect, .string x.state, .string x.nonce, .string x.scope, .string x.challenge, .int .i64 x.stage, .string x.conn, .string x.upState, .string x.upNonce, .int .i64 x.ends] 72)).cell? ⟨w.heap.size, 9, none⟩ = some (.string x.upState) := (blk_cell hz 9).trans rfl
 have c10 : (w.alloc (.cells #[.string x.cookie, .string x.client, .string x.redirect, .string x.state, .string x.nonce, .string x.scope, .string x.challenge, .int .i64 x.stage, .string x.conn, .string x.upState, .string x.upNonce, .int .i64 x.ends] 72)).cell? ⟨w.heap.size, 10, none⟩ = some (.string x.upNonce) := (blk_cell hz 10).trans rfl
 have c11 : (w.alloc (.cells #[.string x.cookie, .string x.client, .string x.redirect, .string x.state, .string x.nonce, .string x.scope, .string x.challenge, .int .i64 x.stage, .string x.conn, .string x.upState, .string x.upNonce, .int .i64 x.ends] 72)).cell? ⟨w.heap.size, 11, none⟩ = some (.int .i64 x.ends) := (blk_cell hz 11).trans rfl
 by_cases hbig : (sesT x).size ≤ 10000
 ·
  have d1 : decide ((10000 : Int) < ((sesT x).size : Int)) = false := decide_eq_false (by omega)
  have hck : x.cookie.size ≤ 10000 := by
   have := txs_mem (show x.cookie ∈ sesL x from List.mem_cons_self ..)
   omega
  have hsv := fun w' hG => ssave_says x h1 h2 (by omega) (by omega) w' hG
  have hdr := fun w' => drop_says x.cookie (by omega) w'
  have hky := fun w' => skey_says x.cookie (by omega) w'
  have hks := skey_size x.cookie
  have hov := one_v (K := skey x.cookie) (V := sesT x) (by omega)
  have hf := find_one x h1 h2 now
  have hfd := fun B s N w' (hS : StW B w' s [⟨skey x.cookie, sesT x⟩] N) (hG : GP w') (hG2 : GE w') => find_says B s N [⟨skey x.cookie, sesT x⟩] x.cookie now (by omega) (hov _) w' hS hG hG2
  have hfn := fun B s N w' (hS : StW B w' s [] N) (hG : GP w') (hG2 : GE w') => find_says B s N [] x.cookie now (by omega) (by intro v hv; cases hv) w' hS hG hG2
  have hfn0 : findS [] x.cookie now = none := rfl
  rw [hfn0] at hfn
  rw [hf] at hfd
  have hst := fun w1 (hb : Below w.heap.size w w1) => stored19_says w1 none 0 [] ⟨rfl, by simp, fun h => absurd h (by simp)⟩ (Nat.le_refl _) (by simp) (by simp) (hGL.below hb)
  have m1 := rec_one (skey x.cookie) (sesT x) false (by omega)
  have m2 := rec_one (skey x.cookie) ⟨#[]⟩ true (by show _ + 0 ≤ _; omega)
  have m3 := wgtC_one (skey x.cookie) (sesT x) false
  have m4 := wgtC_one (skey x.cookie) ⟨#[]⟩ true
  have m5 : wgt [(⟨skey x.cookie, sesT x⟩ : S82)] = 12 + (skey x.cookie).size + (sesT x).size := by simp [wgt]
  have m6 : ((⟨#[]⟩ : ByteArray)).size = 0 := rfl
  have t1 := turn_one (skey x.cookie) (sesT x)
  have t2 := turn_gone1 (skey x.cookie) (sesT x)
  have hd1 := fun W s A c w' (hG : GL W) (hB : Below W.heap.size W w') (hS : StW W.heap.size w' s [] 3300000000200) (hC : Kd.C k69 w' A 1 [⟨skey x.cookie, sesT x, false⟩]) (hc : 1 ≤ c) =>
   wdo_says s 3300000000200 [] A c [⟨skey x.cookie, sesT x, false⟩] W w' hG hB hS hC hc (by simp) m1 (by rw [t1, m5]; omega) (by rw [m3]; show 4 + 0 + _ ≤ _; omega) (by intro x hx; simp only [List.mem_singleton] at hx; subst hx; unfold maxLen; simp only; omega)
  have hd2 := fun W s A c w' (hG : GL W) (hB : Below W.heap.size W w') (hS : StW W.heap.size w' s [⟨skey x.cookie, sesT x⟩] 3300000000201) (hC : Kd.C k69 w' A 1 [⟨skey x.cookie, ⟨#[]⟩, true⟩]) (hc : 1 ≤ c) =>
   wdo_says s 3300000000201 [⟨skey x.cookie, sesT x⟩] A c [⟨skey x.cookie, ⟨#[]⟩, true⟩] W w' hG hB hS hC hc (by simp) m2 (by rw [t2]; show 4 + 0 ≤ _; omega) (by rw [m4, m5, m6]; omega) (by intro x hx; simp only [List.mem_singleton] at hx; subst hx; unfold maxLen; simp only [m6]; omega)
  simp only [t1] at hd1
  simp only [t2] at hd2
  simp only [sesV, sesZ, Option.getD_none, Option.isSome_none] at hfn
  simp only [sesV] at hsv hfd
  have q1 : ((1 : Nat) + x.cookie.size ≤ 9223372036854775807) = True := eq_true (by omega)
  have q2 : (9223372036854775807 < (1 : Nat) + x.cookie.size) = False := eq_false (by omega)
  have hu : (⟨#[115]⟩ : ByteArray) ++ x.cookie = skey x.cookie := rfl
  clear hf hov m1 m2 m3 m4 m5 m6 t1 t2 hks hfn0 hVs hck hbig hlen
  generalize skey x.cookie = K at *
  generalize sesT x = V at *
  obtain ⟨there, hth⟩ : ∃ b : Bool, b = !decide (x.ends ≤ now) := ⟨_, rfl⟩
  cases there with
  | false =>
   have hoe : x.ends ≤ now := by cases h : decide (x.ends ≤ now) with | true => exact of_decide_eq_true h | false => rw [h] at hth; cases hth
   have dg : decide (now < x.ends) = false := decide_eq_false (by omega)
   simp only [if_pos hoe, Option.getD_none, Option.isSome_none, sesZ] at hfd
   clear hoe hth
   go_enter Tryz.func6, Tryz.ntmps6
   go_wp2_with fail
   refine hrs.mono ?_
   clear hrs
   clear c0 c1 c2 c3 c4 c5 c6 c7 c8 c9 c10 c11
   generalize w.alloc (.cells #[.string x.cookie, .string x.client, .string x.redirect, .string x.state, .string x.nonce, .string x.scope, .string x.challenge, .int .i64 x.stage, .string x.conn, .string x.upState, .string x.upNonce, .int .i64 x.ends] 72) = w0 at hB0 hz ⊢
   rintro e w1 ⟨rfl, hb1⟩
   have hB1 := below_then hB0 hB0.size hb1
   have hz1 := blk_below hz hb1
   go_wp2_with fail
   refine (hst w1 hB1).mono ?_
   clear hst
   rintro e w2 ⟨hb2, ⟨hsb, _⟩ | ⟨hsb, s, v, rfl, hS, hR⟩⟩
   ·
    exact absurd hsb (by decide)
   ·
    obtain ⟨Av, cv, rfl, _⟩ := hR.slice
    clear hsb hR
    have hB2 := below_then hB1 hB1.size hb2
    have hz2 := blk_below hz1 hb2
    have c0 : w2.cell? ⟨w.heap.size, 0, none⟩ = some (.string x.cookie) := (blk_cell hz2 0).trans rfl
    have c1 : w2.cell? ⟨w.heap.size, 1, none⟩ = some (.string x.client) := (blk_cell hz2 1).trans rfl
    have c2 : w2.cell? ⟨w.heap.size, 2, none⟩ = some (.string x.redirect) := (blk_cell hz2 2).trans rfl
    have c3 : w2.cell? ⟨w.heap.size, 3, none⟩ = some (.string x.state) := (blk_cell hz2 3).trans rfl
    have c4 : w2.cell? ⟨w.heap.size, 4, none⟩ = some (.string x.nonce) := (blk_cell hz2 4).trans rfl
    have c5 : w2.cell? ⟨w.heap.size, 5, none⟩ = some (.string x.scope) := (blk_cell hz2 5).trans rfl
    have c6 : w2.cell? ⟨w.heap.size, 6, none⟩ = some (.string x.challenge) := (blk_cell hz2 6).trans rfl
    have c7 : w2.cell? ⟨w.heap.size, 7, none⟩ = some (.int .i64 x.stage) := (blk_cell hz2 7).trans rfl
    have c8 : w2.cell? ⟨w.heap.size, 8, none⟩ = some (.string x.conn) := (blk_cell hz2 8).trans rfl
    have c9 : w2.cell? ⟨w.heap.size, 9, none⟩ = some (.string x.upState) := (blk_cell hz2 9).trans rfl
    have c10 : w2.cell? ⟨w.heap.size, 10, none⟩ = some (.string x.upNonce) := (blk_cell hz2 10).trans rfl
    have c11 : w2.cell? ⟨w.heap.size, 11, none⟩ = some (.int .i64 x.ends) := (blk_cell hz2 11).trans rfl
    go_wp2_with fail
    refine (hsv w2 (hGP.below hB2)).mono ?_
    rintro e w3 ⟨rfl, hb3⟩
    clear c0 c1 c2 c3 c4 c5 c6 c7 c8 c9 c10 c11
    have hS3 := (hS.below hb3).below (below_alloc (Below.refl _ w3) (.cells #[.string K, .string V, .bool false] 69))
    have hB3 := below_alloc (below_then hB2 hB2.size hb3) (.cells #[.string K, .string V, .bool false] 69)
    have hb13 := below_alloc (below_then hb2 hb2.size hb3) (.cells #[.string K, .string V, .bool false] 69)
    have hz3 := blk_below (blk_below hz2 hb3) (below_alloc (Below.refl _ w3) (.cells #[.string K, .string V, .bool false] 69))
    have hM := C_made (d := k69) (e := 69) w3 [(⟨K, V, false⟩ : S69)] [.string K, .string V, .bool false] (show (1 : Nat) ≤ maxLen by decide) (Reps.c3 (k69_mkM _ _ _ (⟨K, V, false⟩ : S69)) (Reps.none _ _))
    have hMr := Kd.R_reads' hM
    go_wp2_with fail
    refine (hd1 w1 s _ 1 _ (hGL.below hB1) hb13 hS3 hMr.2.2 (Nat.le_refl _)).mono ?_
    clear hM hMr hd1
    generalize w3.alloc (.cells #[.string K, .string V, .bool false] 69) = w30 at hS3 hB3 hb13 hz3 ⊢
    rintro e w4 ⟨rfl, ht4, hS4⟩
    have hS4 := hS4.mono (N' := 3300000000201) (by simp)
    have hz4 := ht4.blk hz3 (by decide) (by decide) (by decide)
    have hb14 := hb13.trans (ht4.below hb13.size)
    have hB4 := below_then hB1 hB1.size hb14
    have c0 : w4.cell? ⟨w.heap.size, 0, none⟩ = some (.string x.cookie) := (blk_cell hz4 0).trans rfl
    have c1 : w4.cell? ⟨w.heap.size, 1, none⟩ = some (.string x.client) := (blk_cell hz4 1).trans rfl
    have c2 : w4.cell? ⟨w.heap.size, 2, none⟩ = some (.string x.redirect) := (blk_cell hz4 2).trans rfl
    have c3 : w4.cell? ⟨w.heap.size, 3, none⟩ = some (.string x.state) := (blk_cell hz4 3).trans rfl
    have c4 : w4.cell? ⟨w.heap.size, 4, none⟩ = some (.string x.nonce) := (blk_cell hz4 4).trans rfl
    have c5 : w4.cell? ⟨w.heap.size, 5, none⟩ = some (.string x.scope) := (blk_cell hz4 5).trans rfl
    have c6 : w4.cell? ⟨w.heap.size, 6, none⟩ = some (.string x.challenge) := (blk_cell hz4 6).trans rfl
    have c7 : w4.cell? ⟨w.heap.size, 7, none⟩ = some (.int .i64 x.stage) := (blk_cell hz4 7).trans rfl
    have c8 : w4.cell? ⟨w.heap.size, 8, none⟩ = some (.string x.conn) := (blk_cell hz4 8).trans rfl
    have c9 : w4.cell? ⟨w.heap.size, 9, none⟩ = some (.string x.upState) := (blk_cell hz4 9).trans rfl
    have c10 : w4.cell? ⟨w.heap.size, 10, none⟩ = some (.string x.upNonce) := (blk_cell hz4 10).trans rfl
    have c11 : w4.cell? ⟨w.heap.size, 11, none⟩ = some (.int .i64 x.ends) := (blk_cell hz4 11).trans rfl
    go_wp2_with fail
    refine (hfd _ s _ w4 hS4 (hGP.below hB4) (hGE.below hB4)).mono ?_
    rintro e w5 ⟨rfl, hb5⟩
    clear hfd
    clear c0 c1 c2 c3 c4 c5 c6 c7 c8 c9 c10 c11
    have hy := heap_alloc_new w5 (.cells #[.string ⟨#[]⟩, .string ⟨#[]⟩, .string ⟨#[]⟩, .string ⟨#[]⟩, .string ⟨#[]⟩, .string ⟨#[]⟩, .string ⟨#[]⟩, .int .i64 0, .string ⟨#[]⟩, .string ⟨#[]⟩, .string ⟨#[]⟩, .int .i64 0] 72)
    have hB6 := below_alloc (below_then hB4 hB4.size hb5) (.cells #[.string ⟨#[]⟩, .string ⟨#[]⟩, .string ⟨#[]⟩, .string ⟨#[]⟩, .string ⟨#[]⟩, .string ⟨#[]⟩, .string ⟨#[]⟩, .int .i64 0, .string ⟨#[]⟩, .string ⟨#[]⟩, .string ⟨#[]⟩, .int .i64 0] 72)
    have hb16 := below_alloc (below_then hb14 hb14.size hb5) (.cells #[.string ⟨#[]⟩, .string ⟨#[]⟩, .string ⟨#[]⟩, .string ⟨#[]⟩, .string ⟨#[]⟩, .string ⟨#[]⟩, .string ⟨#[]⟩, .int .i64 0, .string ⟨#[]⟩, .string ⟨#[]⟩, .string ⟨#[]⟩, .int .i64 0] 72)
    have hz6 := blk_below (blk_below hz4 hb5) (below_alloc (Below.refl _ w5) (.cells #[.string ⟨#[]⟩, .string ⟨#[]⟩, .string ⟨#[]⟩, .string ⟨#[]⟩, .string ⟨#[]⟩, .string ⟨#[]⟩, .string ⟨#[]⟩, .int .i64 0, .string ⟨#[]⟩, .string ⟨#[]⟩, .string ⟨#[]⟩, .int .i64 0] 72))
    have hS6 := (hS4.below hb5).below (below_alloc (Below.refl _ w5) (.cells #[.string ⟨#[]⟩, .string ⟨#[]⟩, .string ⟨#[]⟩, .string ⟨#[]⟩, .string ⟨#[]⟩, .string ⟨#[]⟩, .string ⟨#[]⟩, .int .i64 0, .string ⟨#[]⟩, .string ⟨#[]⟩, .string ⟨#[]⟩, .int .i64 0] 72))
    have c0 : (w5.alloc (.cells #[.string ⟨#[]⟩, .string ⟨#[]⟩, .string ⟨#[]⟩, .string ⟨#[]⟩, .string ⟨#[]⟩, .string ⟨#[]⟩, .string ⟨#[]⟩, .int .i64 0, .string ⟨#[]⟩, .string ⟨#[]⟩, .string ⟨#[]⟩, .int .i64 0] 72)).cell? ⟨w.heap.size, 0, none⟩ = some (.string x.cookie) := (blk_cell hz6 0).trans rfl
    have c1 : (w5.alloc (.cells #[.string ⟨#[]⟩, .string ⟨#[]⟩, .string ⟨#[]⟩, .string ⟨#[]⟩, .string ⟨#[]⟩, .string ⟨#[]⟩, .string ⟨#[]⟩, .int .i64 0, .string ⟨#[]⟩, .string ⟨#[]⟩, .string ⟨#[]⟩, .int .i64 0] 72)).cell? ⟨w.heap.size, 1, none⟩ = some (.string x.client) := (blk_cell hz6 1).trans rfl
    have c2 : (w5.alloc (.cells #[.string ⟨#[]⟩, .string ⟨#[]⟩, .string ⟨#[]⟩, .string ⟨#[]⟩, .string ⟨#[]⟩, .string ⟨#[]⟩, .string ⟨#[]⟩, .int .i64 0, .string ⟨#[]⟩, .string ⟨#[]⟩, .string ⟨#[]⟩, .int .i64 0] 72)).cell? ⟨w.heap.size, 2, none⟩ = some (.string x.redirect) := (blk_cell hz6 2).trans rfl
    have c3 : (w5.alloc (.cells #[.string ⟨#[]⟩, .string ⟨#[]⟩, .string ⟨#[]⟩, .string ⟨#[]⟩, .string ⟨#[]⟩, .string ⟨#[]⟩, .string ⟨#[]⟩, .int .i64 0, .string ⟨#[]⟩, .string ⟨#[]⟩, .string ⟨#[]⟩, .int .i64 0] 72)).cell? ⟨w.heap.size, 3, none⟩ = some (.string x.state) := (blk_cell hz6 3).trans rfl
    have c4 : (w5.alloc (.cells #[.string ⟨#[]⟩, .string ⟨#[]⟩, .string ⟨#[]⟩, .string ⟨#[]⟩, .string ⟨#[]⟩, .string ⟨#[]⟩, .string ⟨#[]⟩, .int .i64 0, .string ⟨#[]⟩, .string ⟨#[]⟩, .string ⟨#[]⟩, .int .i64 0] 72)).cell? ⟨w.heap.size, 4, none⟩ = some (.string x.nonce) := (blk_cell hz6 4).trans rfl
    have c5 : (w5.alloc (.cells #[.string ⟨#[]⟩, .string ⟨#[]⟩, .string ⟨#[]⟩, .string ⟨#[]⟩, .string ⟨#[]⟩, .string ⟨#[]⟩, .string ⟨#[]⟩, .int .i64 0, .string ⟨#[]⟩, .string ⟨#[]⟩, .string ⟨#[]⟩, .int .i64 0] 72)).cell? ⟨w.heap.size, 5, none⟩ = some (.string x.scope) := (blk_cell hz6 5).trans rfl
    have c6 : (w5.alloc (.cells #[.string ⟨#[]⟩, .string ⟨#[]⟩, .string ⟨#[]⟩, .string ⟨#[]⟩, .string ⟨#[]⟩, .string ⟨#[]⟩, .string ⟨#[]⟩, .int .i64 0, .string ⟨#[]⟩, .string ⟨#[]⟩, .string ⟨#[]⟩, .int .i64 0] 72)).cell? ⟨w.heap.size, 6, none⟩ = some (.string x.challenge) := (blk_cell hz6 6).trans rfl
    have c7 : (w5.alloc (.cells #[.string ⟨#[]⟩, .string ⟨#[]⟩, .string ⟨#[]⟩, .string ⟨#[]⟩, .string ⟨#[]⟩, .string ⟨#[]⟩, .string ⟨#[]⟩, .int .i64 0, .string ⟨#[]⟩, .string ⟨#[]⟩, .string ⟨#[]⟩, .int .i64 0] 72)).cell? ⟨w.heap.size, 7, none⟩ = some (.int .i64 x.stage) := (blk_cell hz6 7).trans rfl
    have c8 : (w5.alloc (.cells #[.string ⟨#[]⟩, .string ⟨#[]⟩, .string ⟨#[]⟩, .string ⟨#[]⟩, .string ⟨#[]⟩, .string ⟨#[]⟩, .string ⟨#[]⟩, .int .i64 0, .string ⟨#[]⟩, .string ⟨#[]⟩, .string ⟨#[]⟩, .int .i64 0] 72)).cell? ⟨w.heap.size, 8, none⟩ = some (.string x.conn) := (blk_cell hz6 8).trans rfl
    have c9 : (w5.alloc (.cells #[.string ⟨#[]⟩, .string ⟨#[]⟩, .string ⟨#[]⟩, .string ⟨#[]⟩, .string ⟨#[]⟩, .string ⟨#[]⟩, .string ⟨#[]⟩, .int .i64 0, .string ⟨#[]⟩, .string ⟨#[]⟩, .string ⟨#[]⟩, .int .i64 0] 72)).cell? ⟨w.heap.size, 9, none⟩ = some (.string x.upState) := (blk_cell hz6 9).trans rfl
    have c10 : (w5.alloc (.cells #[.string ⟨#[]⟩, .string ⟨#[]⟩, .string ⟨#[]⟩, .string ⟨#[]⟩, .string ⟨#[]⟩, .string ⟨#[]⟩, .string ⟨#[]⟩, .int .i64 0, .string ⟨#[]⟩, .string ⟨#[]⟩, .string ⟨#[]⟩, .int .i64 0] 72)).cell? ⟨w.heap.size, 10, none⟩ = some (.string x.upNonce) := (blk_cell hz6 10).trans rfl
    have c11 : (w5.alloc (.cells #[.string ⟨#[]⟩, .string ⟨#[]⟩, .string ⟨#[]⟩, .string ⟨#[]⟩, .string ⟨#[]⟩, .string ⟨#[]⟩, .string ⟨#[]⟩, .int .i64 0, .string ⟨#[]⟩, .string ⟨#[]⟩, .string ⟨#[]⟩, .int .i64 0] 72)).cell? ⟨w.heap.size, 11, none⟩ = some (.int .i64 x.ends) := (blk_cell hz6 11).trans rfl
    go_wp2_with fail
    refine (hdr _).mono ?_
    clear hdr
    clear c0 c1 c2 c3 c4 c5 c6 c7 c8 c9 c10 c11
    generalize w5.alloc (.cells #[.string ⟨#[]⟩, .string ⟨#[]⟩, .string ⟨#[]⟩, .string ⟨#[]⟩, .string ⟨#[]⟩, .string ⟨#[]⟩, .string ⟨#[]⟩, .int .i64 0, .string ⟨#[]⟩, .string ⟨#[]⟩, .string ⟨#[]⟩, .int .i64 0] 72) = w6 at hy hB6 hb16 hz6 hS6 ⊢
    rintro e w7 ⟨rfl, hb7⟩
    have hS7 := (hS6.below hb7).below (below_alloc (Below.refl _ w7) (.cells #[.string K, .string ⟨#[]⟩, .bool true] 69))
    have hb17 := below_alloc (below_then hb16 hb16.size hb7) (.cells #[.string K, .string ⟨#[]⟩, .bool true] 69)
    have hz7 := blk_below (blk_below hz6 hb7) (below_alloc (Below.refl _ w7) (.cells #[.string K, .string ⟨#[]⟩, .bool true] 69))
    have hy7 := blk_below (blk_below hy hb7) (below_alloc (Below.refl _ w7) (.cells #[.string K, .string ⟨#[]⟩, .bool true] 69))
    have hM := C_made (d := k69) (e := 69) w7 [(⟨K, ⟨#[]⟩, true⟩ : S69)] [.string K, .string ⟨#[]⟩, .bool true] (show (1 : Nat) ≤ maxLen by decide) (Reps.c3 (k69_mkM _ _ _ (⟨K, ⟨#[]⟩, true⟩ : S69)) (Reps.none _ _))
    have hMr := Kd.R_reads' hM
    go_wp2_with fail
    refine (hd2 w1 s _ 1 _ (hGL.below hB1) hb17 hS7 hMr.2.2 (Nat.le_refl _)).mono ?_
    clear hM hMr hd2
    generalize w7.alloc (.cells #[.string K, .string ⟨#[]⟩, .bool true] 69) = w70 at hS7 hb17 hz7 hy7 ⊢
    rintro e w8 ⟨rfl, ht8, hS8⟩
    have hS8 := hS8.mono (N' := 3300000000202) (by simp)
    have hz8 := ht8.blk hz7 (by decide) (by decide) (by decide)
    have hy8 := ht8.blk hy7 (by decide) (by decide) (by decide)
    have hb18 := hb17.trans (ht8.below hb17.size)
    have hB8 := below_then hB1 hB1.size hb18
    have c0 : w8.cell? ⟨w.heap.size, 0, none⟩ = some (.string x.cookie) := (blk_cell hz8 0).trans rfl
    have c1 : w8.cell? ⟨w.heap.size, 1, none⟩ = some (.string x.client) := (blk_cell hz8 1).trans rfl
    have c2 : w8.cell? ⟨w.heap.size, 2, none⟩ = some (.string x.redirect) := (blk_cell hz8 2).trans rfl
    have c3 : w8.cell? ⟨w.heap.size, 3, none⟩ = some (.string x.state) := (blk_cell hz8 3).trans rfl
    have c4 : w8.cell? ⟨w.heap.size, 4, none⟩ = some (.string x.nonce) := (blk_cell hz8 4).trans rfl
    have c5 : w8.cell? ⟨w.heap.size, 5, none⟩ = some (.string x.scope) := (blk_cell hz8 5).trans rfl
    have c6 : w8.cell? ⟨w.heap.size, 6, none⟩ = some (.string x.challenge) := (blk_cell hz8 6).trans rfl
    have c7 : w8.cell? ⟨w.heap.size, 7, none⟩ = some (.int .i64 x.stage) := (blk_cell hz8 7).trans rfl
    have c8 : w8.cell? ⟨w.heap.size, 8, none⟩ = some (.string x.conn) := (blk_cell hz8 8).trans rfl
    have c9 : w8.cell? ⟨w.heap.size, 9, none⟩ = some (.string x.upState) := (blk_cell hz8 9).trans rfl
    have c10 : w8.cell? ⟨w.heap.size, 10, none⟩ = some (.string x.upNonce) := (blk_cell hz8 10).trans rfl
    have c11 : w8.cell? ⟨w.heap.size, 11, none⟩ = some (.int .i64 x.ends) := (blk_cell hz8 11).trans rfl
    go_wp2_with fail
    refine (hfn _ s _ w8 hS8 (hGP.below hB8) (hGE.below hB8)).mono ?_
    rintro e w9 ⟨rfl, hb9⟩
    clear hfn
    clear c0 c1 c2 c3 c4 c5 c6 c7 c8 c9 c10 c11
    have hB10 := below_alloc (below_then hB8 hB8.size hb9) (.cells #[.string ⟨#[]⟩, .string ⟨#[]⟩, .string ⟨#[]⟩, .string ⟨#[]⟩, .string ⟨#[]⟩, .string ⟨#[]⟩, .string ⟨#[]⟩, .int .i64 0, .string ⟨#[]⟩, .string ⟨#[]⟩, .string ⟨#[]⟩, .int .i64 0] 72)
    have hz10 := blk_below (blk_below hz8 hb9) (below_alloc (Below.refl _ w9) (.cells #[.string ⟨#[]⟩, .string ⟨#[]⟩, .string ⟨#[]⟩, .string ⟨#[]⟩, .string ⟨#[]⟩, .string ⟨#[]⟩, .string ⟨#[]⟩, .int .i64 0, .string ⟨#[]⟩, .string ⟨#[]⟩, .string ⟨#[]⟩, .int .i64 0] 72))
    have hy10 := blk_below (blk_below hy8 hb9) (below_alloc (Below.refl _ w9) (.cells #[.string ⟨#[]⟩, .string ⟨#[]⟩, .string ⟨#[]⟩, .string ⟨#[]⟩, .string ⟨#[]⟩, .string ⟨#[]⟩, .string ⟨#[]⟩, .int .i64 0, .string ⟨#[]⟩, .string ⟨#[]⟩, .string ⟨#[]⟩, .int .i64 0] 72))
    go_upto_region 8 with (fail)
    generalize w9.alloc (.cells #[.string ⟨#[]⟩, .string ⟨#[]⟩, .string ⟨#[]⟩, .string ⟨#[]⟩, .string ⟨#[]⟩, .string ⟨#[]⟩, .string ⟨#[]⟩, .int .i64 0, .string ⟨#[]⟩, .string ⟨#[]⟩, .string ⟨#[]⟩, .int .i64 0] 72) = w10 at hB10 hz10 hy10 ⊢
    have c0 : w10.cell? ⟨w.heap.size, 0, none⟩ = some (.string x.cookie) := (blk_cell hz10 0).trans rfl
    have c1 : w10.cell? ⟨w.heap.size, 1, none⟩ = some (.string x.client) := (blk_cell hz10 1).trans rfl
    have c2 : w10.cell? ⟨w.heap.size, 2, none⟩ = some (.string x.redirect) := (blk_cell hz10 2).trans rfl
    have c3 : w10.cell? ⟨w.heap.size, 3, none⟩ = some (.string x.state) := (blk_cell hz10 3).trans rfl
    have c4 : w10.cell? ⟨w.heap.size, 4, none⟩ = some (.string x.nonce) := (blk_cell hz10 4).trans rfl
    have c5 : w10.cell? ⟨w.heap.size, 5, none⟩ = some (.string x.scope) := (blk_cell hz10 5).trans rfl
    have c6 : w10.cell? ⟨w.heap.size, 6, none⟩ = some (.string x.challenge) := (blk_cell hz10 6).trans rfl
    have c7 : w10.cell? ⟨w.heap.size, 7, none⟩ = some (.int .i64 x.stage) := (blk_cell hz10 7).trans rfl
    have c8 : w10.cell? ⟨w.heap.size, 8, none⟩ = some (.string x.conn) := (blk_cell hz10 8).trans rfl
    have c9 : w10.cell? ⟨w.heap.size, 9, none⟩ = some (.string x.upState) := (blk_cell hz10 9).trans rfl
    have c10 : w10.cell? ⟨w.heap.size, 10, none⟩ = some (.string x.upNonce) := (blk_cell hz10 10).trans rfl
    have c11 : w10.cell? ⟨w.heap.size, 11, none⟩ = some (.int .i64 x.ends) := (blk_cell hz10 11).trans rfl
    clear hz hz1 hz2 hz3 hz4 hz6 hz7 hz8 hz10 hy hy7 hy8 hy10 hS hS3 hS4 hS6 hS7 hS8 ht4 ht8 hb13 hb14 hb16 hb17 hb18 hB0 hB1 hB2 hB3 hB4 hB6 hB8
    have hB11 := below_drew hB10
    have c0 : w10.drew.cell? ⟨w.heap.size, 0, none⟩ = some (.string x.cookie) := c0
    have c1 : w10.drew.cell? ⟨w.heap.size, 1, none⟩ = some (.string x.client) := c1
    have c2 : w10.drew.cell? ⟨w.heap.size, 2, none⟩ = some (.string x.redirect) := c2
    have c3 : w10.drew.cell? ⟨w.heap.size, 3, none⟩ = some (.string x.state) := c3
    have c4 : w10.drew.cell? ⟨w.heap.size, 4, none⟩ = some (.string x.nonce) := c4
    have c5 : w10.drew.cell? ⟨w.heap.size, 5, none⟩ = some (.string x.scope) := c5
    have c6 : w10.drew.cell? ⟨w.heap.size, 6, none⟩ = some (.string x.challenge) := c6
    have c7 : w10.drew.cell? ⟨w.heap.size, 7, none⟩ = some (.int .i64 x.stage) := c7
    have c8 : w10.drew.cell? ⟨w.heap.size, 8, none⟩ = some (.string x.conn) := c8
    have c9 : w10.drew.cell? ⟨w.heap.size, 9, none⟩ = some (.string x.upState) := c9
    have c10 : w10.drew.cell? ⟨w.heap.size, 10, none⟩ = some (.string x.upNonce) := c10
    have c11 : w10.drew.cell? ⟨w.heap.size, 11, none⟩ = some (.int .i64 x.ends) := c11
    refine start_ (n := 43) (S := fun w' => w'.cell? ⟨w.heap.size, 0, none⟩ = some (.string x.cookie) ∧ w'.cell? ⟨w.heap.size, 1, none⟩ = some (.string x.client) ∧ w'.cell? ⟨w.heap.size, 2, none⟩ = some (.string x.redirect) ∧ w'.cell? ⟨w.heap.size, 3, none⟩ = some (.string x.state) ∧ w'.cell? ⟨w.heap.size, 4, none⟩ = some (.string x.nonce) ∧ w'.cell? ⟨w.heap.size, 5, none⟩ = some (.string x.scope) ∧ w'.cell? ⟨w.heap.size, 6, none⟩ = some (.string x.challenge) ∧ w'.cell? ⟨w.heap.size, 7, none⟩ = some (.int .i64 x.stage) ∧ w'.cell? ⟨w.heap.size, 8, none⟩ = some (.string x.conn) ∧ w'.cell? ⟨w.heap.size, 9, none⟩ = some (.string x.upState) ∧ w'.cell? ⟨w.heap.size, 10, none⟩ = some (.string x.upNonce) ∧ w'.cell? ⟨w.heap.size, 11, none⟩ = some (.int .i64 x.ends)) (ds := []) #[false, false, false, false, false, false, false, false, false, false, false, false, false, false, false, false, false, false, false, false, false, false, false, false, false, false, false, false, false, false, false, false, false, false, false, false, false, false, false, false, false, false, false] (by kernel_rfl) rfl rfl ⟨c0, c1, c2, c3, c4, c5, c6, c7, c8, c9, c10, c11⟩ (fun hHeld => ?_)
    generalize w10.drew = w11 at hB11 hHeld c0 c1 c2 c3 c4 c5 c6 c7 c8 c9 c10 c11 ⊢
    refine one_ (i := 0) (N := some 51) #[true, false, false, false, false, false, false, false, false, false, false, false, false, false, false, false, false, false, false, false, false, false, false, false, false, false, false, false, false, false, false, false, false, false, false, false, false, false, false, false, false, false, false] rfl rfl (by kernel_rfl) (by decide) (fun K hK => ?_)
    refine goes_ Tryz.func41 (by kernel_rfl) rfl #[] (by rfl) rfl rfl (by simp only [List.map_toArray, List.map_cons, List.map_nil]) ?_
    with_reducible refine (hans _ hB11).mono ?_
    rintro e w12 ⟨rfl, hb12⟩
    refine ⟨_, rfl, ?_⟩
    have hB12 := below_then hB11 hB11.size hb12
    have c0 := cell_later hb12 c0
    have c1 := cell_later hb12 c1
    have c2 := cell_later hb12 c2
    have c3 := cell_later hb12 c3
    have c4 := cell_later hb12 c4
    have c5 := cell_later hb12 c5
    have c6 := cell_later hb12 c6
    have c7 := cell_later hb12 c7
    have c8 := cell_later hb12 c8
    have c9 := cell_later hb12 c9
    have c10 := cell_later hb12 c10
    have c11 := cell_later hb12 c11
    refine hK.out _ _ ⟨c0, c1, c2, c3, c4, c5, c6, c7, c8, c9, c10, c11⟩ (fun hHeld => ?_)
    clear hK K
    refine norm_ (a' := ?_) ?_ ?_
    rotate_left
    ·
     show Act.put _ (some 51) _ = _
     simp only [Act.put, List.setIfInBounds_toArray, List.set_cons_zero, List.set_cons_succ, i64_w, i32_w]
     rfl
    refine pure_ (i := 1) (N := some 52) (v := ?_) (a' := ?_) #[true, true, false, false, false, false, false, false, false, false, false, false, false, false, false, false, false, false, false, false, false, false, false, false, false, false, false, false, false, false, false, false, false, false, false, false, false, false, false, false, false, false, false] rfl rfl (by kernel_rfl) (fun _ _ _ h => h) (Or.inl ⟨by rfl, ?_⟩) ?_ ?_
    rotate_left
    ·
     intro w'
     go_simp
     with_reducible rfl
    rotate_left
    ·
     simp only [Act.put, List.setIfInBounds_toArray, List.set_cons_zero, List.set_cons_succ, i64_w, i32_w]
     rfl
    refine pure_ (i := 2) (N := some 53) (v := ?_) (a' := ?_) #[true, true, true, false, false, false, false, false, false, false, false, false, false, false, false, false, false, false, false, false, false, false, false, false, false, false, false, false, false, false, false, false, false, false, false, false, false, false, false, false, false, false, false] rfl rfl (by kernel_rfl) (fun _ _ _ h => h) (Or.inl ⟨by rfl, ?_⟩) ?_ ?_
    rotate_left
    ·
     intro w'
     go_simp
     with_reducible rfl
    rotate_left
    ·
     simp only [Act.put, List.setIfInBounds_toArray, List.set_cons_zero, List.set_cons_succ, i64_w, i32_w]
     rfl
    refine pure_ (i := 3) (N := some 54) (v := ?_) (a' := ?_) #[true, true, true, true, false, false, false, false, false, false, false, false, false, false, false, false, false, false, false, false, false, false, false, false, false, false, false, false, false, false, false, false, false, false, false, false, false, false, false, false, false, false, false] rfl rfl (by kernel_rfl) (fun _ _ _ h => h) (Or.inl ⟨by rfl, ?_⟩) ?_ ?_
    rotate_left
    ·
     intro w'
     go_simp
     with_reducible rfl
    rotate_left
    ·
     simp only [Act.put, List.setIfInBounds_toArray, List.set_cons_zero, List.set_cons_succ, i64_w, i32_w]
     rfl
    refine pure_ (i := 4) (N := some 55) (v := ?_) (a' := ?_) #[true, true, true, true, true, false, false, false, false, false, false, false, false, false, false, false, false, false, false, false, false, false, false, false, false, false, false, false, false, false, false, false, false, false, false, false, false, false, false, false, false, false, false] rfl rfl (by kernel_rfl) (fun _ _ _ h => h) (Or.inl ⟨by rfl, ?_⟩) ?_ ?_
    rotate_left
    ·
     intro w'
     go_simp
     with_reducible rfl
    rotate_left
    ·
     simp only [Act.put, List.setIfInBounds_toArray, List.set_cons_zero, List.set_cons_succ, i64_w, i32_w]
     rfl
    refine pure_ (i := 5) (N := some 56) (v := ?_) (a' := ?_) #[true, true, true, true, true, true, false, false, false, false, false, false, false, false, false, false, false, false, false, false, false, false, false, false, false, false, false, false, false, false, false, false, false, false, false, false, false, false, false, false, false, false, false] rfl rfl (by kernel_rfl) (fun _ _ _ h => h) (Or.inl ⟨by rfl, ?_⟩) ?_ ?_
    rotate_left
    ·
     intro w'
     go_simp
     with_reducible rfl
    rotate_left
    ·
     simp only [Act.put, List.setIfInBounds_toArray, List.set_cons_zero, List.set_cons_succ, i64_w, i32_w]
     rfl
    refine pure_ (i := 6) (N := some 57) (v := ?_) (a' := ?_) #[true, true, true, true, true, true, true, false, false, false, false, false, false, false, false, false, false, false, false, false, false, false, false, false, false, false, false, false, false, false, false, false, false, false, false, false, false, false, false, false, false, false, false] rfl rfl (by kernel_rfl) (fun _ _ _ h => h) (Or.inl ⟨by rfl, ?_⟩) ?_ ?_
    rotate_left
    ·
     intro w'
     go_simp
     with_reducible rfl
    rotate_left
    ·
     simp only [Act.put, List.setIfInBounds_toArray, List.set_cons_zero, List.set_cons_succ, i64_w, i32_w]
     rfl
    refine pure_ (i := 7) (N := some 58) (v := ?_) (a' := ?_) #[true, true, true, true, true, true, true, true, false, false, false, false, false, false, false, false, false, false, false, false, false, false, false, false, false, false, false, false, false, false, false, false, false, false, false, false, false, false, false, false, false, false, false] rfl rfl (by kernel_rfl) (fun _ _ _ h => h) (Or.inl ⟨by rfl, ?_⟩) ?_ ?_
    rotate_left
    ·
     intro w'
     go_simp
     with_reducible rfl
    rotate_left
    ·
     simp only [Act.put, List.setIfInBounds_toArray, List.set_cons_zero, List.set_cons_succ, i64_w, i32_w]
     rfl
    refine pure_ (i := 8) (N := some 59) (v := ?_) (a' := ?_) #[true, true, true, true, true, true, true, true, true, false, false, false, false, false, false, false, false, false, false, false, false, false, false, false, false, false, false, false, false, false, false, false, false, false, false, false, false, false, false, false, false, false, false] rfl rfl (by kernel_rfl) (fun _ _ _ h => h) (Or.inl ⟨by rfl, ?_⟩) ?_ ?_
    rotate_left
    ·
     intro w'
     go_simp
     with_reducible rfl
    rotate_left
    ·
     simp only [Act.put, List.setIfInBounds_toArray, List.set_cons_zero, List.set_cons_succ, i64_w, i32_w]
     rfl
    refine pure_ (i := 9) (N := some 60) (v := ?_) (a' := ?_) #[true, true, true, true, true, true, true, true, true, true, false, false, false, false, false, false, false, false, false, false, false, false, false, false, false, false, false, false, false, false, false, false, false, false, false, false, false, false, false, false, false, false, false] rfl rfl (by kernel_rfl) (fun _ _ _ h => h) (Or.inl ⟨by rfl, ?_⟩) ?_ ?_
    rotate_left
    ·
     intro w'
     go_simp
     with_reducible rfl
    rotate_left
    ·
     simp only [Act.put, List.setIfInBounds_toArray, List.set_cons_zero, List.set_cons_succ, i64_w, i32_w]
     rfl
    refine pure_ (i := 10) (N := some 61) (v := ?_) (a' := ?_) #[true, true, true, true, true, true, true, true, true, true, true, false, false, false, false, false, false, false, false, false, false, false, false, false, false, false, false, false, false, false, false, false, false, false, false, false, false, false, false, false, false, false, false] rfl rfl (by kernel_rfl) (fun _ _ _ h => h) (Or.inl ⟨by rfl, ?_⟩) ?_ ?_
    rotate_left
    ·
     intro w'
     go_simp
     with_reducible rfl
    rotate_left
    ·
     simp only [Act.put, List.setIfInBounds_toArray, List.set_cons_zero, List.set_cons_succ, i64_w, i32_w]
     rfl
    refine pure_ (i := 11) (N := some 62) (v := ?_) (a' := ?_) #[true, true, true, true, true, true, true, true, true, true, true, true, false, false, false, false, false, false, false, false, false, false, false, false, false, false, false, false, false, false, false, false, false, false, false, false, false, false, false, false, false, false, false] rfl rfl (by kernel_rfl) (fun _ _ _ h => h) (Or.inl ⟨by rfl, ?_⟩) ?_ ?_
    rotate_left
    ·
     intro w'
     go_simp
     with_reducible rfl
    rotate_left
    ·
     simp only [Act.put, List.setIfInBounds_toArray, List.set_cons_zero, List.set_cons_succ, i64_w, i32_w]
     rfl
    refine pure_ (i := 12) (N := some 63) (v := ?_) (a' := ?_) #[true, true, true, true, true, true, true, true, true, true, true, true, true, false, false, false, false, false, false, false, false, false, false, false, false, false, false, false, false, false, false, false, false, false, false, false, false, false, false, false, false, false, false] rfl rfl (by kernel_rfl) (fun _ _ _ h => h) (Or.inl ⟨by rfl, ?_⟩) ?_ ?_
    rotate_left
    ·
     intro w'
     go_simp
     with_reducible rfl
    rotate_left
    ·
     simp only [Act.put, List.setIfInBounds_toArray, List.set_cons_zero, List.set_cons_succ, i64_w, i32_w]
     rfl
    refine pure_ (i := 13) (N := some 64) (v := ?_) (a' := ?_) #[true, true, true, true, true, true, true, true, true, true, true, true, true, true, false, false, false, false, false, false, false, false, false, false, false, false, false, false, false, false, false, false, false, false, false, false, false, false, false, false, false, false, false] rfl rfl (by kernel_rfl) (fun _ _ _ h => h) (Or.inl ⟨by rfl, ?_⟩) ?_ ?_
    rotate_left
    ·
     intro w'
     go_simp
     with_reducible rfl
    rotate_left
    ·
     simp only [Act.put, List.setIfInBounds_toArray, List.set_cons_zero, List.set_cons_succ, i64_w, i32_w]
     rfl
    refine pure_ (i := 14) (N := some 65) (v := ?_) (a' := ?_) #[true, true, true, true, true, true, true, true, true, true, true, true, true, true, true, false, false, false, false, false, false, false, false, false, false, false, false, false, false, false, false, false, false, false, false, false, false, false, false, false, false, false, false] rfl rfl (by kernel_rfl) (fun _ _ _ h => h) (Or.inl ⟨by rfl, ?_⟩) ?_ ?_
    rotate_left
    ·
     intro w'
     go_simp
     with_reducible rfl
    rotate_left
    ·
     simp only [Act.put, List.setIfInBounds_toArray, List.set_cons_zero, List.set_cons_succ, i64_w, i32_w]
     rfl
    refine pure_ (i := 16) (N := some 67) (v := ?_) (a' := ?_) #[true, true, true, true, true, true, true, true, true, true, true, true, true, true, true, false, true, false, false, false, false, false, false, false, false, false, false, false, false, false, false, false, false, false, false, false, false, false, false, false, false, false, false] rfl rfl (by kernel_rfl) (fun _ _ _ h => h) (Or.inl ⟨by rfl, ?_⟩) ?_ ?_
    rotate_left
    ·
     intro w'
     go_simp
     with_reducible rfl
    rotate_left
    ·
     simp only [Act.put, List.setIfInBounds_toArray, List.set_cons_zero, List.set_cons_succ, i64_w, i32_w]
     rfl
    refine take_ (i := 15) (N := some 66) (v := ?_) (a' := ?_) #[true, true, true, true, true, true, true, true, true, true, true, true, true, true, true, true, true, false, false, false, false, false, false, false, false, false, false, false, false, false, false, false, false, false, false, false, false, false, false, false, false, false, false] rfl rfl (by kernel_rfl) (fun _ _ _ h => h) (Or.inl ⟨by rfl, ?_⟩) hHeld ?_ ?_
    rotate_left
    ·
     rintro w' ⟨s0, s1, s2, s3, s4, s5, s6, s7, s8, s9, s10, s11⟩
     go_simp
     with_reducible rfl
    rotate_left
    ·
     simp only [Act.put, List.setIfInBounds_toArray, List.set_cons_zero, List.set_cons_succ, i64_w, i32_w]
     rfl
    refine pure_ (i := 17) (N := some 68) (v := ?_) (a' := ?_) #[true, true, true, true, true, true, true, true, true, true, true, true, true, true, true, true, true, true, false, false, false, false, false, false, false, false, false, false, false, false, false, false, false, false, false, false, false, false, false, false, false, false, false] rfl rfl (by kernel_rfl) (fun _ _ _ h => h) (Or.inl ⟨by rfl, ?_⟩) ?_ ?_
    rotate_left
    ·
     intro w'
     go_simp
     with_reducible rfl
    rotate_left
    ·
     simp only [Act.put, List.setIfInBounds_toArray, List.set_cons_zero, List.set_cons_succ, i64_w, i32_w]
     rfl
    refine pure_ (i := 18) (N := some 69) (v := ?_) (a' := ?_) #[true, true, true, true, true, true, true, true, true, true, true, true, true, true, true, true, true, true, true, false, false, false, false, false, false, false, false, false, false, false, false, false, false, false, false, false, false, false, false, false, false, false, false] rfl rfl (by kernel_rfl) (fun _ _ _ h => h) (Or.inl ⟨by rfl, ?_⟩) ?_ ?_
    rotate_left
    ·
     intro w'
     go_simp
     with_reducible rfl
    rotate_left
    ·
     simp only [Act.put, List.setIfInBounds_toArray, List.set_cons_zero, List.set_cons_succ, i64_w, i32_w]
     rfl
    refine pure_ (i := 19) (N := some 70) (v := ?_) (a' := ?_) #[true, true, true, true, true, true, true, true, true, true, true, true, true, true, true, true, true, true, true, true, false, false, false, false, false, false, false, false, false, false, false, false, false, false, false, false, false, false, false, false, false, false, false] rfl rfl (by kernel_rfl) (fun _ _ _ h => h) (Or.inl ⟨by rfl, ?_⟩) ?_ ?_
    rotate_left
    ·
     intro w'
     go_simp
     with_reducible rfl
    rotate_left
    ·
     simp only [Act.put, List.setIfInBounds_toArray, List.set_cons_zero, List.set_cons_succ, i64_w, i32_w]
     rfl
    refine pure_ (i := 20) (N := some 71) (v := ?_) (a' := ?_) #[true, true, true, true, true, true, true, true, true, true, true, true, true, true, true, true, true, true, true, true, true, false, false, false, false, false, false, false, false, false, false, false, false, false, false, false, false, false, false, false, false, false, false] rfl rfl (by kernel_rfl) (fun _ _ _ h => h) (Or.inl ⟨by rfl, ?_⟩) ?_ ?_
    rotate_left
    ·
     intro w'
     go_simp
     with_reducible rfl
    rotate_left
    ·
     simp only [Act.put, List.setIfInBounds_toArray, List.set_cons_zero, List.set_cons_succ, i64_w, i32_w]
     rfl
    refine pure_ (i := 21) (N := some 72) (v := ?_) (a' := ?_) #[true, true, true, true, true, true, true, true, true, true, true, true, true, true, true, true, true, true, true, true, true, true, false, false, false, false, false, false, false, false, false, false, false, false, false, false, false, false, false, false, false, false, false] rfl rfl (by kernel_rfl) (fun _ _ _ h => h) (Or.inl ⟨by rfl, ?_⟩) ?_ ?_
    rotate_left
    ·
     intro w'
     go_simp
     with_reducible rfl
    rotate_left
    ·
     simp only [Act.put, List.setIfInBounds_toArray, List.set_cons_zero, List.set_cons_succ, i64_w, i32_w]
     rfl
    refine pure_ (i := 22) (N := some 73) (v := ?_) (a' := ?_) #[true, true, true, true, true, true, true, true, true, true, true, true, true, true, true, true, true, true, true, true, true, true, true, false, false, false, false, false, false, false, false, false, false, false, false, false, false, false, false, false, false, false, false] rfl rfl (by kernel_rfl) (fun _ _ _ h => h) (Or.inl ⟨by rfl, ?_⟩) ?_ ?_
    rotate_left
    ·
     intro w'
     go_simp
     with_reducible rfl
    rotate_left
    ·
     simp only [Act.put, List.setIfInBounds_toArray, List.set_cons_zero, List.set_cons_succ, i64_w, i32_w]
     rfl
    refine pure_ (i := 23) (N := some 74) (v := ?_) (a' := ?_) #[true, true, true, true, true, true, true, true, true, true, true, true, true, true, true, true, true, true, true, true, true, true, true, true, false, false, false, false, false, false, false, false, false, false, false, false, false, false, false, false, false, false, false] rfl rfl (by kernel_rfl) (fun _ _ _ h => h) (Or.inl ⟨by rfl, ?_⟩) ?_ ?_
    rotate_left
    ·
     intro w'
     go_simp
     with_reducible rfl
    rotate_left
    ·
     simp only [Act.put, List.setIfInBounds_toArray, List.set_cons_zero, List.set_cons_succ, i64_w, i32_w]
     rfl
    refine pure_ (i := 24) (N := some 75) (v := undef) (a' := ?_) #[true, true, true, true, true, true, true, true, true, true, true, true, true, true, true, true, true, true, true, true, true, true, true, true, true, false, false, false, false, false, false, false, false, false, false, false, false, false, false, false, false, false, false] rfl rfl (by kernel_rfl) (fun _ _ _ h => h) (Or.inr ⟨by rfl, rfl⟩) ?_ ?_
    rotate_left
    ·
     simp only [Act.put, List.setIfInBounds_toArray, List.set_cons_zero, List.set_cons_succ, i64_w, i32_w]
     rfl
    refine pure_ (i := 25) (N := some 76) (v := undef) (a' := ?_) #[true, true, true, true, true, true, true, true, true, true, true, true, true, true, true, true, true, true, true, true, true, true, true, true, true, true, false, false, false, false, false, false, false, false, false, false, false, false, false, false, false, false, false] rfl rfl (by kernel_rfl) (fun _ _ _ h => h) (Or.inr ⟨by rfl, rfl⟩) ?_ ?_
    rotate_left
    ·
     simp only [Act.put, List.setIfInBounds_toArray, List.set_cons_zero, List.set_cons_succ, i64_w, i32_w]
     rfl
    refine pure_ (i := 26) (N := some 77) (v := undef) (a' := ?_) #[true, true, true, true, true, true, true, true, true, true, true, true, true, true, true, true, true, true, true, true, true, true, true, true, true, true, true, false, false, false, false, false, false, false, false, false, false, false, false, false, false, false, false] rfl rfl (by kernel_rfl) (fun _ _ _ h => h) (Or.inr ⟨by rfl, rfl⟩) ?_ ?_
    rotate_left
    ·
     simp only [Act.put, List.setIfInBounds_toArray, List.set_cons_zero, List.set_cons_succ, i64_w, i32_w]
     rfl
    refine pure_ (i := 27) (N := some 78) (v := ?_) (a' := ?_) #[true, true, true, true, true, true, true, true, true, true, true, true, true, true, true, true, true, true, true, true, true, true, true, true, true, true, true, true, false, false, false, false, false, false, false, false, false, false, false, false, false, false, false] rfl rfl (by kernel_rfl) (fun _ _ _ h => h) (Or.inl ⟨by rfl, ?_⟩) ?_ ?_
    rotate_left
    ·
     intro w'
     go_simp
     with_reducible rfl
    rotate_left
    ·
     simp only [Act.put, List.setIfInBounds_toArray, List.set_cons_zero, List.set_cons_succ, i64_w, i32_w]
     rfl
    refine pure_ (i := 28) (N := some 79) (v := ?_) (a' := ?_) #[true, true, true, true, true, true, true, true, true, true, true, true, true, true, true, true, true, true, true, true, true, true, true, true, true, true, true, true, true, false, false, false, false, false, false, false, false, false, false, false, false, false, false] rfl rfl (by kernel_rfl) (fun _ _ _ h => h) (Or.inl ⟨by rfl, ?_⟩) ?_ ?_
    rotate_left
    ·
     intro w'
     go_simp
     with_reducible rfl
    rotate_left
    ·
     simp only [Act.put, List.setIfInBounds_toArray, List.set_cons_zero, List.set_cons_succ, i64_w, i32_w]
     rfl
    refine pure_ (i := 29) (N := some 80) (v := ?_) (a' := ?_) #[true, true, true, true, true, true, true, true, true, true, true, true, true, true, true, true, true, true, true, true, true, true, true, true, true, true, true, true, true, true, false, false, false, false, false, false, false, false, false, false, false, false, false] rfl rfl (by kernel_rfl) (fun _ _ _ h => h) (Or.inl ⟨by rfl, ?_⟩) ?_ ?_
    rotate_left
    ·
     intro w'
     go_simp
     with_reducible rfl
    rotate_left
    ·
     simp only [Act.put, List.setIfInBounds_toArray, List.set_cons_zero, List.set_cons_succ, i64_w, i32_w]
     rfl
    refine pure_ (i := 30) (N := some 81) (v := ?_) (a' := ?_) #[true, true, true, true, true, true, true, true, true, true, true, true, true, true, true, true, true, true, true, true, true, true, true, true, true, true, true, true, true, true, true, false, false, false, false, false, false, false, false, false, false, false, false] rfl rfl (by kernel_rfl) (fun _ _ _ h => h) (Or.inl ⟨by rfl, ?_⟩) ?_ ?_
    rotate_left
    ·
     intro w'
     go_simp
     with_reducible rfl
    rotate_left
    ·
     simp only [Act.put, List.setIfInBounds_toArray, List.set_cons_zero, List.set_cons_succ, i64_w, i32_w]
     rfl
    refine pure_ (i := 31) (N := some 82) (v := ?_) (a' := ?_) #[true, true, true, true, true, true, true, true, true, true, true, true, true, true, true, true, true, true, true, true, true, true, true, true, true, true, true, true, true, true, true, true, false, false, false, false, false, false, false, false, false, false, false] rfl rfl (by kernel_rfl) (fun _ _ _ h => h) (Or.inl ⟨by rfl, ?_⟩) ?_ ?_
    rotate_left
    ·
     intro w'
     go_simp
     with_reducible rfl
    rotate_left
    ·
     simp only [Act.put, List.setIfInBounds_toArray, List.set_cons_zero, List.set_cons_succ, i64_w, i32_w]
     rfl
    refine pure_ (i := 32) (N := some 83) (v := ?_) (a' := ?_) #[true, true, true, true, true, true, true, true, true, true, true, true, true, true, true, true, true, true, true, true, true, true, true, true, true, true, true, true, true, true, true, true, true, false, false, false, false, false, false, false, false, false, false] rfl rfl (by kernel_rfl) (fun _ _ _ h => h) (Or.inl ⟨by rfl, ?_⟩) ?_ ?_
    rotate_left
    ·
     intro w'
     go_simp
     with_reducible rfl
    rotate_left
    ·
     simp only [Act.put, List.setIfInBounds_toArray, List.set_cons_zero, List.set_cons_succ, i64_w, i32_w]
     rfl
    refine pure_ (i := 33) (N := some 84) (v := ?_) (a' := ?_) #[true, true, true, true, true, true, true, true, true, true, true, true, true, true, true, true, true, true, true, true, true, true, true, true, true, true, true, true, true, true, true, true, true, true, false, false, false, false, false, false, false, false, false] rfl rfl (by kernel_rfl) (fun _ _ _ h => h) (Or.inl ⟨by rfl, ?_⟩) ?_ ?_
    rotate_left
    ·
     intro w'
     go_simp
     with_reducible rfl
    rotate_left
    ·
     simp only [Act.put, List.setIfInBounds_toArray, List.set_cons_zero, List.set_cons_succ, i64_w, i32_w]
     rfl
    refine pure_ (i := 34) (N := some 85) (v := ?_) (a' := ?_) #[true, true, true, true, true, true, true, true, true, true, true, true, true, true, true, true, true, true, true, true, true, true, true, true, true, true, true, true, true, true, true, true, true, true, true, false, false, false, false, false, false, false, false] rfl rfl (by kernel_rfl) (fun _ _ _ h => h) (Or.inl ⟨by rfl, ?_⟩) ?_ ?_
    rotate_left
    ·
     intro w'
     go_simp
     with_reducible rfl
    rotate_left
    ·
     simp only [Act.put, List.setIfInBounds_toArray, List.set_cons_zero, List.set_cons_succ, i64_w, i32_w]
     rfl
    refine pure_ (i := 37) (N := some 88) (v := ?_) (a' := ?_) #[true, true, true, true, true, true, true, true, true, true, true, true, true, true, true, true, true, true, true, true, true, true, true, true, true, true, true, true, true, true, true, true, true, true, true, false, false, true, false, false, false, false, false] rfl rfl (by kernel_rfl) (fun _ _ _ h => h) (Or.inl ⟨by rfl, ?_⟩) ?_ ?_
    rotate_left
    ·
     intro w'
     go_simp
     with_reducible rfl
    rotate_left
    ·
     simp only [Act.put, List.setIfInBounds_toArray, List.set_cons_zero, List.set_cons_succ, i64_w, i32_w]
     rfl
    refine take_ (i := 35) (N := some 86) (v := ?_) (a' := ?_) #[true, true, true, true, true, true, true, true, true, true, true, true, true, true, true, true, true, true, true, true, true, true, true, true, true, true, true, true, true, true, true, true, true, true, true, true, false, true, false, false, false, false, false] rfl rfl (by kernel_rfl) (fun _ _ _ h => h) (Or.inl ⟨by rfl, ?_⟩) hHeld ?_ ?_
    rotate_left
    ·
     rintro w' ⟨s0, s1, s2, s3, s4, s5, s6, s7, s8, s9, s10, s11⟩
     go_simp
     with_reducible rfl
    rotate_left
    ·
     simp only [Act.put, List.setIfInBounds_toArray, List.set_cons_zero, List.set_cons_succ, i64_w, i32_w]
     rfl
    refine take_ (i := 38) (N := some 89) (v := ?_) (a' := ?_) #[true, true, true, true, true, true, true, true, true, true, true, true, true, true, true, true, true, true, true, true, true, true, true, true, true, true, true, true, true, true, true, true, true, true, true, true, false, true, true, false, false, false, false] rfl rfl (by kernel_rfl) (fun _ _ _ h => h) (Or.inl ⟨by rfl, ?_⟩) hHeld ?_ ?_
    rotate_left
    ·
     rintro w' ⟨s0, s1, s2, s3, s4, s5, s6, s7, s8, s9, s10, s11⟩
     go_simp
     with_reducible rfl
    rotate_left
    ·
     simp only [Act.put, List.setIfInBounds_toArray, List.set_cons_zero, List.set_cons_succ, i64_w, i32_w]
     rfl
    refine pure_ (i := 39) (N := some 90) (v := ?_) (a' := ?_) #[true, true, true, true, true, true, true, true, true, true, true, true, true, true, true, true, true, true, true, true, true, true, true, true, true, true, true, true, true, true, true, true, true, true, true, true, false, true, true, true, false, false, false] rfl rfl (by kernel_rfl) (fun _ _ _ h => h) (Or.inl ⟨by rfl, ?_⟩) ?_ ?_
    rotate_left
    ·
     intro w'
     go_simp
     with_reducible rfl
    rotate_left
    ·
     simp only [Act.put, List.setIfInBounds_toArray, List.set_cons_zero, List.set_cons_succ, i64_w, i32_w]
     rfl
    refine one_ (i := 36) (N := some 87) #[true, true, true, true, true, true, true, true, true, true, true, true, true, true, true, true, true, true, true, true, true, true, true, true, true, true, true, true, true, true, true, true, true, true, true, true, true, true, true, true, false, false, false] rfl rfl (by kernel_rfl) (by decide) (fun K hK => ?_)
    refine goes_ Tryz.func46 (by kernel_rfl) rfl #[.string x.cookie] (by rfl) rfl rfl (by simp only [List.map_toArray, List.map_cons, List.map_nil]; rfl) ?_
    with_reducible refine (hky w12).mono ?_
    rintro e w13 ⟨rfl, hb13⟩
    refine ⟨_, rfl, ?_⟩
    refine hK.out _ _ ⟨cell_later hb13 c0, cell_later hb13 c1, cell_later hb13 c2, cell_later hb13 c3, cell_later hb13 c4, cell_later hb13 c5, cell_later hb13 c6, cell_later hb13 c7, cell_later hb13 c8, cell_later hb13 c9, cell_later hb13 c10, cell_later hb13 c11⟩ (fun hHeld => ?_)
    clear hK K
    refine norm_ (a' := ?_) ?_ ?_
    rotate_left
    ·
     show Act.put _ (some 87) _ = _
     simp only [Act.put, List.setIfInBounds_toArray, List.set_cons_zero, List.set_cons_succ, i64_w, i32_w]
     rfl
    refine pure_ (i := 40) (N := some 91) (v := ?_) (a' := ?_) #[true, true, true, true, true, true, true, true, true, true, true, true, true, true, true, true, true, true, true, true, true, true, true, true, true, true, true, true, true, true, true, true, true, true, true, true, true, true, true, true, true, false, false] rfl rfl (by kernel_rfl) (fun _ _ _ h => h) (Or.inl ⟨by rfl, ?_⟩) ?_ ?_
    rotate_left
    ·
     intro w'
     go_simp
     with_reducible rfl
    rotate_left
    ·
     simp only [Act.put, List.setIfInBounds_toArray, List.set_cons_zero, List.set_cons_succ, i64_w, i32_w]
     rfl
    refine pure_ (i := 41) (N := some 92) (v := ?_) (a' := ?_) #[true, true, true, true, true, true, true, true, true, true, true, true, true, true, true, true, true, true, true, true, true, true, true, true, true, true, true, true, true, true, true, true, true, true, true, true, true, true, true, true, true, true, false] rfl rfl (by kernel_rfl) (fun _ _ _ h => h) (Or.inl ⟨by rfl, ?_⟩) ?_ ?_
    rotate_left
    ·
     intro w'
     go_simp
     with_reducible rfl
    rotate_left
    ·
     simp only [Act.put, List.setIfInBounds_toArray, List.set_cons_zero, List.set_cons_succ, i64_w, i32_w]
     rfl
    refine pure_ (i := 42) (N := some 4) (v := ?_) (a' := ?_) #[true, true, true, true, true, true, true, true, true, true, true, true, true, true, true, true, true, true, true, true, true, true, true, true, true, true, true, true, true, true, true, true, true, true, true, true, true, true, true, true, true, true, true] rfl rfl (by kernel_rfl) (fun _ _ _ h => h) (Or.inl ⟨by rfl, ?_⟩) ?_ ?_
    rotate_left
    ·
     intro w'
     go_simp
     with_reducible rfl
    rotate_left
    ·
     simp only [Act.put, List.setIfInBounds_toArray, List.set_cons_zero, List.set_cons_succ, i64_w, i32_w]
     rfl
    refine done_ (by kernel_rfl) ?_
    go_wp2_with fail
    go_ret
    exact ⟨rfl, below_then hB12 hB12.size hb13⟩
  | true =>
   have hoe : ¬ x.ends ≤ now := by intro h; rw [decide_eq_true h] at hth; cases hth
   have dg : decide (now < x.ends) = true := decide_eq_true (by omega)
   simp only [if_neg hoe, Option.getD_some, Option.isSome_some] at hfd
   clear hoe hth
   go_enter Tryz.func6, Tryz.ntmps6
   go_wp2_with fail
   refine hrs.mono ?_
   clear hrs
   clear c0 c1 c2 c3 c4 c5 c6 c7 c8 c9 c10 c11
   generalize w.alloc (.cells #[.string x.cookie, .string x.client, .string x.redirect, .string x.state, .string x.nonce, .string x.scope, .string x.challenge, .int .i64 x.stage, .string x.conn, .string x.upState, .string x.upNonce, .int .i64 x.ends] 72) = w0 at hB0 hz ⊢
   rintro e w1 ⟨rfl, hb1⟩
   have hB1 := below_then hB0 hB0.size hb1
   have hz1 := blk_below hz hb1
   go_wp2_with fail
   refine (hst w1 hB1).mono ?_
   clear hst
   rintro e w2 ⟨hb2, ⟨hsb, _⟩ | ⟨hsb, s, v, rfl, hS, hR⟩⟩
   ·
    exact absurd hsb (by decide)
   ·
    obtain ⟨Av, cv, rfl, _⟩ := hR.slice
    clear hsb hR
    have hB2 := below_then hB1 hB1.size hb2
    have hz2 := blk_below hz1 hb2
    have c0 : w2.cell? ⟨w.heap.size, 0, none⟩ = some (.string x.cookie) := (blk_cell hz2 0).trans rfl
    have c1 : w2.cell? ⟨w.heap.size, 1, none⟩ = some (.string x.client) := (blk_cell hz2 1).trans rfl
    have c2 : w2.cell? ⟨w.heap.size, 2, none⟩ = some (.string x.redirect) := (blk_cell hz2 2).trans rfl
    have c3 : w2.cell? ⟨w.heap.size, 3, none⟩ = some (.string x.state) := (blk_cell hz2 3).trans rfl
    have c4 : w2.cell? ⟨w.heap.size, 4, none⟩ = some (.string x.nonce) := (blk_cell hz2 4).trans rfl
    have c5 : w2.cell? ⟨w.heap.size, 5, none⟩ = some (.string x.scope) := (blk_cell hz2 5).trans rfl
    have c6 : w2.cell? ⟨w.heap.size, 6, none⟩ = some (.string x.challenge) := (blk_cell hz2 6).trans rfl
    have c7 : w2.cell? ⟨w.heap.size, 7, none⟩ = some (.int .i64 x.stage) := (blk_cell hz2 7).trans rfl
    have c8 : w2.cell? ⟨w.heap.size, 8, none⟩ = some (.string x.conn) := (blk_cell hz2 8).trans rfl
    have c9 : w2.cell? ⟨w.heap.size, 9, none⟩ = some (.string x.upState) := (blk_cell hz2 9).trans rfl
    have c10 : w2.cell? ⟨w.heap.size, 10, none⟩ = some (.string x.upNonce) := (blk_cell hz2 10).trans rfl
    have c11 : w2.cell? ⟨w.heap.size, 11, none⟩ = some (.int .i64 x.ends) := (blk_cell hz2 11).trans rfl
    go_wp2_with fail
    refine (hsv w2 (hGP.below hB2)).mono ?_
    rintro e w3 ⟨rfl, hb3⟩
    clear c0 c1 c2 c3 c4 c5 c6 c7 c8 c9 c10 c11
    have hS3 := (hS.below hb3).below (below_alloc (Below.refl _ w3) (.cells #[.string K, .string V, .bool false] 69))
    have hB3 := below_alloc (below_then hB2 hB2.size hb3) (.cells #[.string K, .string V, .bool false] 69)
    have hb13 := below_alloc (below_then hb2 hb2.size hb3) (.cells #[.string K, .string V, .bool false] 69)
    have hz3 := blk_below (blk_below hz2 hb3) (below_alloc (Below.refl _ w3) (.cells #[.string K, .string V, .bool false] 69))
    have hM := C_made (d := k69) (e := 69) w3 [(⟨K, V, false⟩ : S69)] [.string K, .string V, .bool false] (show (1 : Nat) ≤ maxLen by decide) (Reps.c3 (k69_mkM _ _ _ (⟨K, V, false⟩ : S69)) (Reps.none _ _))
    have hMr := Kd.R_reads' hM
    go_wp2_with fail
    refine (hd1 w1 s _ 1 _ (hGL.below hB1) hb13 hS3 hMr.2.2 (Nat.le_refl _)).mono ?_
    clear hM hMr hd1
    generalize w3.alloc (.cells #[.string K, .string V, .bool false] 69) = w30 at hS3 hB3 hb13 hz3 ⊢
    rintro e w4 ⟨rfl, ht4, hS4⟩
    have hS4 := hS4.mono (N' := 3300000000201) (by simp)
    have hz4 := ht4.blk hz3 (by decide) (by decide) (by decide)
    have hb14 := hb13.trans (ht4.below hb13.size)
    have hB4 := below_then hB1 hB1.size hb14
    have c0 : w4.cell? ⟨w.heap.size, 0, none⟩ = some (.string x.cookie) := (blk_cell hz4 0).trans rfl
    have c1 : w4.cell? ⟨w.heap.size, 1, none⟩ = some (.string x.client) := (blk_cell hz4 1).trans rfl
    have c2 : w4.cell? ⟨w.heap.size, 2, none⟩ = some (.string x.redirect) := (blk_cell hz4 2).trans rfl
    have c3 : w4.cell? ⟨w.heap.size, 3, none⟩ = some (.string x.state) := (blk_cell hz4 3).trans rfl
    have c4 : w4.cell? ⟨w.heap.size, 4, none⟩ = some (.string x.nonce) := (blk_cell hz4 4).trans rfl
    have c5 : w4.cell? ⟨w.heap.size, 5, none⟩ = some (.string x.scope) := (blk_cell hz4 5).trans rfl
    have c6 : w4.cell? ⟨w.heap.size, 6, none⟩ = some (.string x.challenge) := (blk_cell hz4 6).trans rfl
    have c7 : w4.cell? ⟨w.heap.size, 7, none⟩ = some (.int .i64 x.stage) := (blk_cell hz4 7).trans rfl
    have c8 : w4.cell? ⟨w.heap.size, 8, none⟩ = some (.string x.conn) := (blk_cell hz4 8).trans rfl
    have c9 : w4.cell? ⟨w.heap.size, 9, none⟩ = some (.string x.upState) := (blk_cell hz4 9).trans rfl
    have c10 : w4.cell? ⟨w.heap.size, 10, none⟩ = some (.string x.upNonce) := (blk_cell hz4 10).trans rfl
    have c11 : w4.cell? ⟨w.heap.size, 11, none⟩ = some (.int .i64 x.ends) := (blk_cell hz4 11).trans rfl
    go_wp2_with fail
    refine (hfd _ s _ w4 hS4 (hGP.below hB4) (hGE.below hB4)).mono ?_
    rintro e w5 ⟨rfl, hb5⟩
    clear hfd
    clear c0 c1 c2 c3 c4 c5 c6 c7 c8 c9 c10 c11
    have hy := heap_alloc_new w5 (.cells #[.string x.cookie, .string x.client, .string x.redirect, .string x.state, .string x.nonce, .string x.scope, .string x.challenge, .int .i64 x.stage, .string x.conn, .string x.upState, .string x.upNonce, .int .i64 x.ends] 72)
    have hB6 := below_alloc (below_then hB4 hB4.size hb5) (.cells #[.string x.cookie, .string x.client, .string x.redirect, .string x.state, .string x.nonce, .string x.scope, .string x.challenge, .int .i64 x.stage, .string x.conn, .string x.upState, .string x.upNonce, .int .i64 x.ends] 72)
    have hb16 := below_alloc (below_then hb14 hb14.size hb5) (.cells #[.string x.cookie, .string x.client, .string x.redirect, .string x.state, .string x.nonce, .string x.scope, .string x.challenge, .int .i64 x.stage, .string x.conn, .string x.upState, .string x.upNonce, .int .i64 x.ends] 72)
    have hz6 := blk_below (blk_below hz4 hb5) (below_alloc (Below.refl _ w5) (.cells #[.string x.cookie, .string x.client, .string x.redirect, .string x.state, .string x.nonce, .string x.scope, .string x.challenge, .int .i64 x.stage, .string x.conn, .string x.upState, .string x.upNonce, .int .i64 x.ends] 72))
    have hS6 := (hS4.below hb5).below (below_alloc (Below.refl _ w5) (.cells #[.string x.cookie, .string x.client, .string x.redirect, .string x.state, .string x.nonce, .string x.scope, .string x.challenge, .int .i64 x.stage, .string x.conn, .string x.upState, .string x.upNonce, .int .i64 x.ends] 72))
    have c0 : (w5.alloc (.cells #[.string x.cookie, .string x.client, .string x.redirect, .string x.state, .string x.nonce, .string x.scope, .string x.challenge, .int .i64 x.stage, .string x.conn, .string x.upState, .string x.upNonce, .int .i64 x.ends] 72)).cell? ⟨w.heap.size, 0, none⟩ = some (.string x.cookie) := (blk_cell hz6 0).trans rfl
    have c1 : (w5.alloc (.cells #[.string x.cookie, .string x.client, .string x.redirect, .string x.state, .string x.nonce, .string x.scope, .string x.challenge, .int .i64 x.stage, .string x.conn, .string x.upState, .string x.upNonce, .int .i64 x.ends] 72)).cell? ⟨w.heap.size, 1, none⟩ = some (.string x.client) := (blk_cell hz6 1).trans rfl
    have c2 : (w5.alloc (.cells #[.string x.cookie, .string x.client, .string x.redirect, .string x.state, .string x.nonce, .string x.scope, .string x.challenge, .int .i64 x.stage, .string x.conn, .string x.upState, .string x.upNonce, .int .i64 x.ends] 72)).cell? ⟨w.heap.size, 2, none⟩ = some (.string x.redirect) := (blk_cell hz6 2).trans rfl
    have c3 : (w5.alloc (.cells #[.string x.cookie, .string x.client, .string x.redirect, .string x.state, .string x.nonce, .string x.scope, .string x.challenge, .int .i64 x.stage, .string x.conn, .string x.upState, .string x.upNonce, .int .i64 x.ends] 72)).cell? ⟨w.heap.size, 3, none⟩ = some (.string x.state) := (blk_cell hz6 3).trans rfl
    have c4 : (w5.alloc (.cells #[.string x.cookie, .string x.client, .string x.redirect, .string x.state, .string x.nonce, .string x.scope, .string x.challenge, .int .i64 x.stage, .string x.conn, .string x.upState, .string x.upNonce, .int .i64 x.ends] 72)).cell? ⟨w.heap.size, 4, none⟩ = some (.string x.nonce) := (blk_cell hz6 4).trans rfl
    have c5 : (w5.alloc (.cells #[.string x.cookie, .string x.client, .string x.redirect, .string x.state, .string x.nonce, .string x.scope, .string x.challenge, .int .i64 x.stage, .string x.conn, .string x.upState, .string x.upNonce, .int .i64 x.ends] 72)).cell? ⟨w.heap.size, 5, none⟩ = some (.string x.scope) := (blk_cell hz6 5).trans rfl
    have c6 : (w5.alloc (.cells #[.string x.cookie, .string x.client, .string x.redirect, .string x.state, .string x.nonce, .string x.scope, .string x.challenge, .int .i64 x.stage, .string x.conn, .string x.upState, .string x.upNonce, .int .i64 x.ends] 72)).cell? ⟨w.heap.size, 6, none⟩ = some (.string x.challenge) := (blk_cell hz6 6).trans rfl
    have c7 : (w5.alloc (.cells #[.string x.cookie, .string x.client, .string x.redirect, .string x.state, .string x.nonce, .string x.scope, .string x.challenge, .int .i64 x.stage, .string x.conn, .string x.upState, .string x.upNonce, .int .i64 x.ends] 72)).cell? ⟨w.heap.size, 7, none⟩ = some (.int .i64 x.stage) := (blk_cell hz6 7).trans rfl
    have c8 : (w5.alloc (.cells #[.string x.cookie, .string x.client, .string x.redirect, .string x.state, .string x.nonce, .string x.scope, .string x.challenge, .int .i64 x.stage, .string x.conn, .string x.upState, .string x.upNonce, .int .i64 x.ends] 72)).cell? ⟨w.heap.size, 8, none⟩ = some (.string x.conn) := (blk_cell hz6 8).trans rfl
    have c9 : (w5.alloc (.cells #[.string x.cookie, .string x.client, .string x.redirect, .string x.state, .string x.nonce, .string x.scope, .string x.challenge, .int .i64 x.stage, .string x.conn, .string x.upState, .string x.upNonce, .int .i64 x.ends] 72)).cell? ⟨w.heap.size, 9, none⟩ = some (.string x.upState) := (blk_cell hz6 9).trans rfl
    have c10 : (w5.alloc (.cells #[.string x.cookie, .string x.client, .string x.redirect, .string x.state, .string x.nonce, .string x.scope, .string x.challenge, .int .i64 x.stage, .string x.conn, .string x.upState, .string x.upNonce, .int .i64 x.ends] 72)).cell? ⟨w.heap.size, 10, none⟩ = some (.string x.upNonce) := (blk_cell hz6 10).trans rfl
    have c11 : (w5.alloc (.cells #[.string x.cookie, .string x.client, .string x.redirect, .string x.state, .string x.nonce, .string x.scope, .string x.challenge, .int .i64 x.stage, .string x.conn, .string x.upState, .string x.upNonce, .int .i64 x.ends] 72)).cell? ⟨w.heap.size, 11, none⟩ = some (.int .i64 x.ends) := (blk_cell hz6 11).trans rfl
    go_wp2_with fail
    refine (hdr _).mono ?_
    clear hdr
    clear c0 c1 c2 c3 c4 c5 c6 c7 c8 c9 c10 c11
    generalize w5.alloc (.cells #[.string x.cookie, .string x.client, .string x.redirect, .string x.state, .string x.nonce, .string x.scope, .string x.challenge, .int .i64 x.stage, .string x.conn, .string x.upState, .string x.upNonce, .int .i64 x.ends] 72) = w6 at hy hB6 hb16 hz6 hS6 ⊢
    rintro e w7 ⟨rfl, hb7⟩
    have hS7 := (hS6.below hb7).below (below_alloc (Below.refl _ w7) (.cells #[.string K, .string ⟨#[]⟩, .bool true] 69))
    have hb17 := below_alloc (below_then hb16 hb16.size hb7) (.cells #[.string K, .string ⟨#[]⟩, .bool true] 69)
    have hz7 := blk_below (blk_below hz6 hb7) (below_alloc (Below.refl _ w7) (.cells #[.string K, .string ⟨#[]⟩, .bool true] 69))
    have hy7 := blk_below (blk_below hy hb7) (below_alloc (Below.refl _ w7) (.cells #[.string K, .string ⟨#[]⟩, .bool true] 69))
    have hM := C_made (d := k69) (e := 69) w7 [(⟨K, ⟨#[]⟩, true⟩ : S69)] [.string K, .string ⟨#[]⟩, .bool true] (show (1 : Nat) ≤ maxLen by decide) (Reps.c3 (k69_mkM _ _ _ (⟨K, ⟨#[]⟩, true⟩ : S69)) (Reps.none _ _))
    have hMr := Kd.R_reads' hM
    go_wp2_with fail
    refine (hd2 w1 s _ 1 _ (hGL.below hB1) hb17 hS7 hMr.2.2 (Nat.le_refl _)).mono ?_
    clear hM hMr hd2
    generalize w7.alloc (.cells #[.string K, .string ⟨#[]⟩, .bool true] 69) = w70 at hS7 hb17 hz7 hy7 ⊢
    rintro e w8 ⟨rfl, ht8, hS8⟩
    have hS8 := hS8.mono (N' := 3300000000202) (by simp)
    have hz8 := ht8.blk hz7 (by decide) (by decide) (by decide)
    have hy8 := ht8.blk hy7 (by decide) (by decide) (by decide)
    have hb18 := hb17.trans (ht8.below hb17.size)
    have hB8 := below_then hB1 hB1.size hb18
    have c0 : w8.cell? ⟨w.heap.size, 0, none⟩ = some (.string x.cookie) := (blk_cell hz8 0).trans rfl
    have c1 : w8.cell? ⟨w.heap.size, 1, none⟩ = some (.string x.client) := (blk_cell hz8 1).trans rfl
    have c2 : w8.cell? ⟨w.heap.size, 2, none⟩ = some (.string x.redirect) := (blk_cell hz8 2).trans rfl
    have c3 : w8.cell? ⟨w.heap.size, 3, none⟩ = some (.string x.state) := (blk_cell hz8 3).trans rfl
    have c4 : w8.cell? ⟨w.heap.size, 4, none⟩ = some (.string x.nonce) := (blk_cell hz8 4).trans rfl
    have c5 : w8.cell? ⟨w.heap.size, 5, none⟩ = some (.string x.scope) := (blk_cell hz8 5).trans rfl
    have c6 : w8.cell? ⟨w.heap.size, 6, none⟩ = some (.string x.challenge) := (blk_cell hz8 6).trans rfl
    have c7 : w8.cell? ⟨w.heap.size, 7, none⟩ = some (.int .i64 x.stage) := (blk_cell hz8 7).trans rfl
    have c8 : w8.cell? ⟨w.heap.size, 8, none⟩ = some (.string x.conn) := (blk_cell hz8 8).trans rfl
    have c9 : w8.cell? ⟨w.heap.size, 9, none⟩ = some (.string x.upState) := (blk_cell hz8 9).trans rfl
    have c10 : w8.cell? ⟨w.heap.size, 10, none⟩ = some (.string x.upNonce) := (blk_cell hz8 10).trans rfl
    have c11 : w8.cell? ⟨w.heap.size, 11, none⟩ = some (.int .i64 x.ends) := (blk_cell hz8 11).trans rfl
    go_wp2_with fail
    refine (hfn _ s _ w8 hS8 (hGP.below hB8) (hGE.below hB8)).mono ?_
    rintro e w9 ⟨rfl, hb9⟩
    clear hfn
    clear c0 c1 c2 c3 c4 c5 c6 c7 c8 c9 c10 c11
    have hB10 := below_alloc (below_then hB8 hB8.size hb9) (.cells #[.string ⟨#[]⟩, .string ⟨#[]⟩, .string ⟨#[]⟩, .string ⟨#[]⟩, .string ⟨#[]⟩, .string ⟨#[]⟩, .string ⟨#[]⟩, .int .i64 0, .string ⟨#[]⟩, .string ⟨#[]⟩, .string ⟨#[]⟩, .int .i64 0] 72)
    have hz10 := blk_below (blk_below hz8 hb9) (below_alloc (Below.refl _ w9) (.cells #[.string ⟨#[]⟩, .string ⟨#[]⟩, .string ⟨#[]⟩, .string ⟨#[]⟩, .string ⟨#[]⟩, .string ⟨#[]⟩, .string ⟨#[]⟩, .int .i64 0, .string ⟨#[]⟩, .string ⟨#[]⟩, .string ⟨#[]⟩, .int .i64 0] 72))
    have hy10 := blk_below (blk_below hy8 hb9) (below_alloc (Below.refl _ w9) (.cells #[.string ⟨#[]⟩, .string ⟨#[]⟩, .string ⟨#[]⟩, .string ⟨#[]⟩, .string ⟨#[]⟩, .string ⟨#[]⟩, .string ⟨#[]⟩, .int .i64 0, .string ⟨#[]⟩, .string ⟨#[]⟩, .string ⟨#[]⟩, .int .i64 0] 72))
    go_upto_region 8 with (fail)
    generalize w9.alloc (.cells #[.string ⟨#[]⟩, .string ⟨#[]⟩, .string ⟨#[]⟩, .string ⟨#[]⟩, .string ⟨#[]⟩, .string ⟨#[]⟩, .string ⟨#[]⟩, .int .i64 0, .string ⟨#[]⟩, .string ⟨#[]⟩, .string ⟨#[]⟩, .int .i64 0] 72) = w10 at hB10 hz10 hy10 ⊢
    have c0 : w10.cell? ⟨w.heap.size, 0, none⟩ = some (.string x.cookie) := (blk_cell hz10 0).trans rfl
    have c1 : w10.cell? ⟨w.heap.size, 1, none⟩ = some (.string x.client) := (blk_cell hz10 1).trans rfl
    have c2 : w10.cell? ⟨w.heap.size, 2, none⟩ = some (.string x.redirect) := (blk_cell hz10 2).trans rfl
    have c3 : w10.cell? ⟨w.heap.size, 3, none⟩ = some (.string x.state) := (blk_cell hz10 3).trans rfl
    have c4 : w10.cell? ⟨w.heap.size, 4, none⟩ = some (.string x.nonce) := (blk_cell hz10 4).trans rfl
    have c5 : w10.cell? ⟨w.heap.size, 5, none⟩ = some (.string x.scope) := (blk_cell hz10 5).trans rfl
    have c6 : w10.cell? ⟨w.heap.size, 6, none⟩ = some (.string x.challenge) := (blk_cell hz10 6).trans rfl
    have c7 : w10.cell? ⟨w.heap.size, 7, none⟩ = some (.int .i64 x.stage) := (blk_cell hz10 7).trans rfl
    have c8 : w10.cell? ⟨w.heap.size, 8, none⟩ = some (.string x.conn) := (blk_cell hz10 8).trans rfl
    have c9 : w10.cell? ⟨w.heap.size, 9, none⟩ = some (.string x.upState) := (blk_cell hz10 9).trans rfl
    have c10 : w10.cell? ⟨w.heap.size, 10, none⟩ = some (.string x.upNonce) := (blk_cell hz10 10).trans rfl
    have c11 : w10.cell? ⟨w.heap.size, 11, none⟩ = some (.int .i64 x.ends) := (blk_cell hz10 11).trans rfl
    have d0 : w10.cell? ⟨w5.heap.size, 0, none⟩ = some (.string x.cookie) := (blk_cell hy10 0).trans rfl
    have d1 : w10.cell? ⟨w5.heap.size, 1, none⟩ = some (.string x.client) := (blk_cell hy10 1).trans rfl
    have d2 : w10.cell? ⟨w5.heap.size, 2, none⟩ = some (.string x.redirect) := (blk_cell hy10 2).trans rfl
    have d3 : w10.cell? ⟨w5.heap.size, 3, none⟩ = some (.string x.state) := (blk_cell hy10 3).trans rfl
    have d4 : w10.cell? ⟨w5.heap.size, 4, none⟩ = some (.string x.nonce) := (blk_cell hy10 4).trans rfl
    have d5 : w10.cell? ⟨w5.heap.size, 5, none⟩ = some (.string x.scope) := (blk_cell hy10 5).trans rfl
    have d6 : w10.cell? ⟨w5.heap.size, 6, none⟩ = some (.string x.challenge) := (blk_cell hy10 6).trans rfl
    have d7 : w10.cell? ⟨w5.heap.size, 7, none⟩ = some (.int .i64 x.stage) := (blk_cell hy10 7).trans rfl
    have d8 : w10.cell? ⟨w5.heap.size, 8, none⟩ = some (.string x.conn) := (blk_cell hy10 8).trans rfl
    have d9 : w10.cell? ⟨w5.heap.size, 9, none⟩ = some (.string x.upState) := (blk_cell hy10 9).trans rfl
    have d10 : w10.cell? ⟨w5.heap.size, 10, none⟩ = some (.string x.upNonce) := (blk_cell hy10 10).trans rfl
    have d11 : w10.cell? ⟨w5.heap.size, 11, none⟩ = some (.int .i64 x.ends) := (blk_cell hy10 11).trans rfl
    clear hz hz1 hz2 hz3 hz4 hz6 hz7 hz8 hz10 hy hy7 hy8 hy10 hS hS3 hS4 hS6 hS7 hS8 ht4 ht8 hb13 hb14 hb16 hb17 hb18 hB0 hB1 hB2 hB3 hB4 hB6 hB8
    have hB11 := below_drew hB10
    have c0 : w10.drew.cell? ⟨w.heap.size, 0, none⟩ = some (.string x.cookie) := c0
    have c1 : w10.drew.cell? ⟨w.heap.size, 1, none⟩ = some (.string x.client) := c1
    have c2 : w10.drew.cell? ⟨w.heap.size, 2, none⟩ = some (.string x.redirect) := c2
    have c3 : w10.drew.cell? ⟨w.heap.size, 3, none⟩ = some (.string x.state) := c3
    have c4 : w10.drew.cell? ⟨w.heap.size, 4, none⟩ = some (.string x.nonce) := c4
    have c5 : w10.drew.cell? ⟨w.heap.size, 5, none⟩ = some (.string x.scope) := c5
    have c6 : w10.drew.cell? ⟨w.heap.size, 6, none⟩ = some (.string x.challenge) := c6
    have c7 : w10.drew.cell? ⟨w.heap.size, 7, none⟩ = some (.int .i64 x.stage) := c7
    have c8 : w10.drew.cell? ⟨w.heap.size, 8, none⟩ = some (.string x.conn) := c8
    have c9 : w10.drew.cell? ⟨w.heap.size, 9, none⟩ = some (.string x.upState) := c9
    have c10 : w10.drew.cell? ⟨w.heap.size, 10, none⟩ = some (.string x.upNonce) := c10
    have c11 : w10.drew.cell? ⟨w.heap.size, 11, none⟩ = some (.int .i64 x.ends) := c11
    have d0 : w10.drew.cell? ⟨w5.heap.size, 0, none⟩ = some (.string x.cookie) := d0
    have d1 : w10.drew.cell? ⟨w5.heap.size, 1, none⟩ = some (.string x.client) := d1
    have d2 : w10.drew.cell? ⟨w5.heap.size, 2, none⟩ = some (.string x.redirect) := d2
    have d3 : w10.drew.cell? ⟨w5.heap.size, 3, none⟩ = some (.string x.state) := d3
    have d4 : w10.drew.cell? ⟨w5.heap.size, 4, none⟩ = some (.string x.nonce) := d4
    have d5 : w10.drew.cell? ⟨w5.heap.size, 5, none⟩ = some (.string x.scope) := d5
    have d6 : w10.drew.cell? ⟨w5.heap.size, 6, none⟩ = some (.string x.challenge) := d6
    have d7 : w10.drew.cell? ⟨w5.heap.size, 7, none⟩ = some (.int .i64 x.stage) := d7
    have d8 : w10.drew.cell? ⟨w5.heap.size, 8, none⟩ = some (.string x.conn) := d8
    have d9 : w10.drew.cell? ⟨w5.heap.size, 9, none⟩ = some (.string x.upState) := d9
    have d10 : w10.drew.cell? ⟨w5.heap.size, 10, none⟩ = some (.string x.upNonce) := d10
    have d11 : w10.drew.cell? ⟨w5.heap.size, 11, none⟩ = some (.int .i64 x.ends) := d11
    refine start_ (n := 43) (S := fun w' => w'.cell? ⟨w.heap.size, 0, none⟩ = some (.string x.cookie) ∧ w'.cell? ⟨w.heap.size, 1, none⟩ = some (.string x.client) ∧ w'.cell? ⟨w.heap.size, 2, none⟩ = some (.string x.redirect) ∧ w'.cell? ⟨w.heap.size, 3, none⟩ = some (.string x.state) ∧ w'.cell? ⟨w.heap.size, 4, none⟩ = some (.string x.nonce) ∧ w'.cell? ⟨w.heap.size, 5, none⟩ = some (.string x.scope) ∧ w'.cell? ⟨w.heap.size, 6, none⟩ = some (.string x.challenge) ∧ w'.cell? ⟨w.heap.size, 7, none⟩ = some (.int .i64 x.stage) ∧ w'.cell? ⟨w.heap.size, 8, none⟩ = some (.string x.conn) ∧ w'.cell? ⟨w.heap.size, 9, none⟩ = some (.string x.upState) ∧ w'.cell? ⟨w.heap.size, 10, none⟩ = some (.string x.upNonce) ∧ w'.cell? ⟨w.heap.size, 11, none⟩ = some (.int .i64 x.ends) ∧ w'.cell? ⟨w5.heap.size, 0, none⟩ = some (.string x.cookie) ∧ w'.cell? ⟨w5.heap.size, 1, none⟩ = some (.string x.client) ∧ w'.cell? ⟨w5.heap.size, 2, none⟩ = some (.string x.redirect) ∧ w'.cell? ⟨w5.heap.size, 3, none⟩ = some (.string x.state) ∧ w'.cell? ⟨w5.heap.size, 4, none⟩ = some (.string x.nonce) ∧ w'.cell? ⟨w5.heap.size, 5, none⟩ = some (.string x.scope) ∧ w'.cell? ⟨w5.heap.size, 6, none⟩ = some (.string x.challenge) ∧ w'.cell? ⟨w5.heap.size, 7, none⟩ = some (.int .i64 x.stage) ∧ w'.cell? ⟨w5.heap.size, 8, none⟩ = some (.string x.conn) ∧ w'.cell? ⟨w5.heap.size, 9, none⟩ = some (.string x.upState) ∧ w'.cell? ⟨w5.heap.size, 10, none⟩ = some (.string x.upNonce) ∧ w'.cell? ⟨w5.heap.size, 11, none⟩ = some (.int .i64 x.ends)) (ds := []) #[false, false, false, false, false, false, false, false, false, false, false, false, false, false, false, false, false, false, false, false, false, false, false, false, false, false, false, false, false, false, false, false, false, false, false, false, false, false, false, false, false, false, false] (by kernel_rfl) rfl rfl ⟨c0, c1, c2, c3, c4, c5, c6, c7, c8, c9, c10, c11, d0, d1, d2, d3, d4, d5, d6, d7, d8, d9, d10, d11⟩ (fun hHeld => ?_)
    generalize w10.drew = w11 at hB11 hHeld c0 c1 c2 c3 c4 c5 c6 c7 c8 c9 c10 c11 d0 d1 d2 d3 d4 d5 d6 d7 d8 d9 d10 d11 ⊢
    refine one_ (i := 0) (N := some 51) #[true, false, false, false, false, false, false, false, false, false, false, false, false, false, false, false, false, false, false, false, false, false, false, false, false, false, false, false, false, false, false, false, false, false, false, false, false, false, false, false, false, false, false] rfl rfl (by kernel_rfl) (by decide) (fun K hK => ?_)
    refine goes_ Tryz.func41 (by kernel_rfl) rfl #[] (by rfl) rfl rfl (by simp only [List.map_toArray, List.map_cons, List.map_nil]) ?_
    with_reducible refine (hans _ hB11).mono ?_
    rintro e w12 ⟨rfl, hb12⟩
    refine ⟨_, rfl, ?_⟩
    have hB12 := below_then hB11 hB11.size hb12
    have c0 := cell_later hb12 c0
    have c1 := cell_later hb12 c1
    have c2 := cell_later hb12 c2
    have c3 := cell_later hb12 c3
    have c4 := cell_later hb12 c4
    have c5 := cell_later hb12 c5
    have c6 := cell_later hb12 c6
    have c7 := cell_later hb12 c7
    have c8 := cell_later hb12 c8
    have c9 := cell_later hb12 c9
    have c10 := cell_later hb12 c10
    have c11 := cell_later hb12 c11
    have d0 := cell_later hb12 d0
    have d1 := cell_later hb12 d1
    have d2 := cell_later hb12 d2
    have d3 := cell_later hb12 d3
    have d4 := cell_later hb12 d4
    have d5 := cell_later hb12 d5
    have d6 := cell_later hb12 d6
    have d7 := cell_later hb12 d7
    have d8 := cell_later hb12 d8
    have d9 := cell_later hb12 d9
    have d10 := cell_later hb12 d10
    have d11 := cell_later hb12 d11
    refine hK.out _ _ ⟨c0, c1, c2, c3, c4, c5, c6, c7, c8, c9, c10, c11, d0, d1, d2, d3, d4, d5, d6, d7, d8, d9, d10, d11⟩ (fun hHeld => ?_)
    clear hK K
    refine norm_ (a' := ?_) ?_ ?_
    rotate_left
    ·
     show Act.put _ (some 51) _ = _
     simp only [Act.put, List.setIfInBounds_toArray, List.set_cons_zero, List.set_cons_succ, i64_w, i32_w]
     rfl
    refine pure_ (i := 1) (N := some 52) (v := ?_) (a' := ?_) #[true, true, false, false, false, false, false, false, false, false, false, false, false, false, false, false, false, false, false, false, false, false, false, false, false, false, false, false, false, false, false, false, false, false, false, false, false, false, false, false, false, false, false] rfl rfl (by kernel_rfl) (fun _ _ _ h => h) (Or.inl ⟨by rfl, ?_⟩) ?_ ?_
    rotate_left
    ·
     intro w'
     go_simp
     with_reducible rfl
    rotate_left
    ·
     simp only [Act.put, List.setIfInBounds_toArray, List.set_cons_zero, List.set_cons_succ, i64_w, i32_w]
     rfl
    refine pure_ (i := 2) (N := some 53) (v := ?_) (a' := ?_) #[true, true, true, false, false, false, false, false, false, false, false, false, false, false, false, false, false, false, false, false, false, false, false, false, false, false, false, false, false, false, false, false, false, false, false, false, false, false, false, false, false, false, false] rfl rfl (by kernel_rfl) (fun _ _ _ h => h) (Or.inl ⟨by rfl, ?_⟩) ?_ ?_
    rotate_left
    ·
     intro w'
     go_simp
     with_reducible rfl
    rotate_left
    ·
     simp only [Act.put, List.setIfInBounds_toArray, List.set_cons_zero, List.set_cons_succ, i64_w, i32_w]
     rfl
    refine pure_ (i := 3) (N := some 54) (v := ?_) (a' := ?_) #[true, true, true, true, false, false, false, false, false, false, false, false, false, false, false, false, false, false, false, false, false, false, false, false, false, false, false, false, false, false, false, false, false, false, false, false, false, false, false, false, false, false, false] rfl rfl (by kernel_rfl) (fun _ _ _ h => h) (Or.inl ⟨by rfl, ?_⟩) ?_ ?_
    rotate_left
    ·
     intro w'
     go_simp
     with_reducible rfl
    rotate_left
    ·
     simp only [Act.put, List.setIfInBounds_toArray, List.set_cons_zero, List.set_cons_succ, i64_w, i32_w]
     rfl
    refine pure_ (i := 4) (N := some 55) (v := ?_) (a' := ?_) #[true, true, true, true, true, false, false, false, false, false, false, false, false, false, false, false, false, false, false, false, false, false, false, false, false, false, false, false, false, false, false, false, false, false, false, false, false, false, false, false, false, false, false] rfl rfl (by kernel_rfl) (fun _ _ _ h => h) (Or.inl ⟨by rfl, ?_⟩) ?_ ?_
    rotate_left
    ·
     intro w'
     go_simp
     with_reducible rfl
    rotate_left
    ·
     simp only [Act.put, List.setIfInBounds_toArray, List.set_cons_zero, List.set_cons_succ, i64_w, i32_w]
     rfl
    refine pure_ (i := 5) (N := some 56) (v := ?_) (a' := ?_) #[true, true, true, true, true, true, false, false, false, false, false, false, false, false, false, false, false, false, false, false, false, false, false, false, false, false, false, false, false, false, false, false, false, false, false, false, false, false, false, false, false, false, false] rfl rfl (by kernel_rfl) (fun _ _ _ h => h) (Or.inl ⟨by rfl, ?_⟩) ?_ ?_
    rotate_left
    ·
     intro w'
     go_simp
     with_reducible rfl
    rotate_left
    ·
     simp only [Act.put, List.setIfInBounds_toArray, List.set_cons_zero, List.set_cons_succ, i64_w, i32_w]
     rfl
    refine pure_ (i := 6) (N := some 57) (v := ?_) (a' := ?_) #[true, true, true, true, true, true, true, false, false, false, false, false, false, false, false, false, false, false, false, false, false, false, false, false, false, false, false, false, false, false, false, false, false, false, false, false, false, false, false, false, false, false, false] rfl rfl (by kernel_rfl) (fun _ _ _ h => h) (Or.inl ⟨by rfl, ?_⟩) ?_ ?_
    rotate_left
    ·
     intro w'
     go_simp
     with_reducible rfl
    rotate_left
    ·
     simp only [Act.put, List.setIfInBounds_toArray, List.set_cons_zero, List.set_cons_succ, i64_w, i32_w]
     rfl
    refine pure_ (i := 7) (N := some 58) (v := ?_) (a' := ?_) #[true, true, true, true, true, true, true, true, false, false, false, false, false, false, false, false, false, false, false, false, false, false, false, false, false, false, false, false, false, false, false, false, false, false, false, false, false, false, false, false, false, false, false] rfl rfl (by kernel_rfl) (fun _ _ _ h => h) (Or.inl ⟨by rfl, ?_⟩) ?_ ?_
    rotate_left
    ·
     intro w'
     go_simp
     with_reducible rfl
    rotate_left
    ·
     simp only [Act.put, List.setIfInBounds_toArray, List.set_cons_zero, List.set_cons_succ, i64_w, i32_w]
     rfl
    refine pure_ (i := 8) (N := some 59) (v := ?_) (a' := ?_) #[true, true, true, true, true, true, true, true, true, false, false, false, false, false, false, false, false, false, false, false, false, false, false, false, false, false, false, false, false, false, false, false, false, false, false, false, false, false, false, false, false, false, false] rfl rfl (by kernel_rfl) (fun _ _ _ h => h) (Or.inl ⟨by rfl, ?_⟩) ?_ ?_
    rotate_left
    ·
     intro w'
     go_simp
     with_reducible rfl
    rotate_left
    ·
     simp only [Act.put, List.setIfInBounds_toArray, List.set_cons_zero, List.set_cons_succ, i64_w, i32_w]
     rfl
    refine pure_ (i := 9) (N := some 60) (v := ?_) (a' := ?_) #[true, true, true, true, true, true, true, true, true, true, false, false, false, false, false, false, false, false, false, false, false, false, false, false, false, false, false, false, false, false, false, false, false, false, false, false, false, false, false, false, false, false, false] rfl rfl (by kernel_rfl) (fun _ _ _ h => h) (Or.inl ⟨by rfl, ?_⟩) ?_ ?_
    rotate_left
    ·
     intro w'
     go_simp
     with_reducible rfl
    rotate_left
    ·
     simp only [Act.put, List.setIfInBounds_toArray, List.set_cons_zero, List.set_cons_succ, i64_w, i32_w]
     rfl
    refine pure_ (i := 10) (N := some 61) (v := ?_) (a' := ?_) #[true, true, true, true, true, true, true, true, true, true, true, false, false, false, false, false, false, false, false, false, false, false, false, false, false, false, false, false, false, false, false, false, false, false, false, false, false, false, false, false, false, false, false] rfl rfl (by kernel_rfl) (fun _ _ _ h => h) (Or.inl ⟨by rfl, ?_⟩) ?_ ?_
    rotate_left
    ·
     intro w'
     go_simp
     with_reducible rfl
    rotate_left
    ·
     simp only [Act.put, List.setIfInBounds_toArray, List.set_cons_zero, List.set_cons_succ, i64_w, i32_w]
     rfl
    refine pure_ (i := 11) (N := some 62) (v := ?_) (a' := ?_) #[true, true, true, true, true, true, true, true, true, true, true, true, false, false, false, false, false, false, false, false, false, false, false, false, false, false, false, false, false, false, false, false, false, false, false, false, false, false, false, false, false, false, false] rfl rfl (by kernel_rfl) (fun _ _ _ h => h) (Or.inl ⟨by rfl, ?_⟩) ?_ ?_
    rotate_left
    ·
     intro w'
     go_simp
     with_reducible rfl
    rotate_left
    ·
     simp only [Act.put, List.setIfInBounds_toArray, List.set_cons_zero, List.set_cons_succ, i64_w, i32_w]
     rfl
    refine pure_ (i := 12) (N := some 63) (v := ?_) (a' := ?_) #[true, true, true, true, true, true, true, true, true, true, true, true, true, false, false, false, false, false, false, false, false, false, false, false, false, false, false, false, false, false, false, false, false, false, false, false, false, false, false, false, false, false, false] rfl rfl (by kernel_rfl) (fun _ _ _ h => h) (Or.inl ⟨by rfl, ?_⟩) ?_ ?_
    rotate_left
    ·
     intro w'
     go_simp
     with_reducible rfl
    rotate_left
    ·
     simp only [Act.put, List.setIfInBounds_toArray, List.set_cons_zero, List.set_cons_succ, i64_w, i32_w]
     rfl
    refine pure_ (i := 13) (N := some 64) (v := ?_) (a' := ?_) #[true, true, true, true, true, true, true, true, true, true, true, true, true, true, false, false, false, false, false, false, false, false, false, false, false, false, false, false, false, false, false, false, false, false, false, false, false, false, false, false, false, false, false] rfl rfl (by kernel_rfl) (fun _ _ _ h => h) (Or.inl ⟨by rfl, ?_⟩) ?_ ?_
    rotate_left
    ·
     intro w'
     go_simp
     with_reducible rfl
    rotate_left
    ·
     simp only [Act.put, List.setIfInBounds_toArray, List.set_cons_zero, List.set_cons_succ, i64_w, i32_w]
     rfl
    refine pure_ (i := 14) (N := some 65) (v := ?_) (a' := ?_) #[true, true, true, true, true, true, true, true, true, true, true, true, true, true, true, false, false, false, false, false, false, false, false, false, false, false, false, false, false, false, false, false, false, false, false, false, false, false, false, false, false, false, false] rfl rfl (by kernel_rfl) (fun _ _ _ h => h) (Or.inl ⟨by rfl, ?_⟩) ?_ ?_
    rotate_left
    ·
     intro w'
     go_simp
     with_reducible rfl
    rotate_left
    ·
     simp only [Act.put, List.setIfInBounds_toArray, List.set_cons_zero, List.set_cons_succ, i64_w, i32_w]
     rfl
    refine pure_ (i := 16) (N := some 67) (v := ?_) (a' := ?_) #[true, true, true, true, true, true, true, true, true, true, true, true, true, true, true, false, true, false, false, false, false, false, false, false, false, false, false, false, false, false, false, false, false, false, false, false, false, false, false, false, false, false, false] rfl rfl (by kernel_rfl) (fun _ _ _ h => h) (Or.inl ⟨by rfl, ?_⟩) ?_ ?_
    rotate_left
    ·
     intro w'
     go_simp
     with_reducible rfl
    rotate_left
    ·
     simp only [Act.put, List.setIfInBounds_toArray, List.set_cons_zero, List.set_cons_succ, i64_w, i32_w]
     rfl
    refine take_ (i := 15) (N := some 66) (v := ?_) (a' := ?_) #[true, true, true, true, true, true, true, true, true, true, true, true, true, true, true, true, true, false, false, false, false, false, false, false, false, false, false, false, false, false, false, false, false, false, false, false, false, false, false, false, false, false, false] rfl rfl (by kernel_rfl) (fun _ _ _ h => h) (Or.inl ⟨by rfl, ?_⟩) hHeld ?_ ?_
    rotate_left
    ·
     rintro w' ⟨s0, s1, s2, s3, s4, s5, s6, s7, s8, s9, s10, s11, s12, s13, s14, s15, s16, s17, s18, s19, s20, s21, s22, s23⟩
     go_simp
     with_reducible rfl
    rotate_left
    ·
     simp only [Act.put, List.setIfInBounds_toArray, List.set_cons_zero, List.set_cons_succ, i64_w, i32_w]
     rfl
    refine pure_ (i := 17) (N := some 68) (v := ?_) (a' := ?_) #[true, true, true, true, true, true, true, true, true, true, true, true, true, true, true, true, true, true, false, false, false, false, false, false, false, false, false, false, false, false, false, false, false, false, false, false, false, false, false, false, false, false, false] rfl rfl (by kernel_rfl) (fun _ _ _ h => h) (Or.inl ⟨by rfl, ?_⟩) ?_ ?_
    rotate_left
    ·
     intro w'
     go_simp
     with_reducible rfl
    rotate_left
    ·
     simp only [Act.put, List.setIfInBounds_toArray, List.set_cons_zero, List.set_cons_succ, i64_w, i32_w]
     rfl
    refine pure_ (i := 18) (N := some 69) (v := ?_) (a' := ?_) #[true, true, true, true, true, true, true, true, true, true, true, true, true, true, true, true, true, true, true, false, false, false, false, false, false, false, false, false, false, false, false, false, false, false, false, false, false, false, false, false, false, false, false] rfl rfl (by kernel_rfl) (fun _ _ _ h => h) (Or.inl ⟨by rfl, ?_⟩) ?_ ?_
    rotate_left
    ·
     intro w'
     go_simp
     with_reducible rfl
    rotate_left
    ·
     simp only [Act.put, List.setIfInBounds_toArray, List.set_cons_zero, List.set_cons_succ, i64_w, i32_w]
     rfl
    refine pure_ (i := 19) (N := some 70) (v := ?_) (a' := ?_) #[true, true, true, true, true, true, true, true, true, true, true, true, true, true, true, true, true, true, true, true, false, false, false, false, false, false, false, false, false, false, false, false, false, false, false, false, false, false, false, false, false, false, false] rfl rfl (by kernel_rfl) (fun _ _ _ h => h) (Or.inl ⟨by rfl, ?_⟩) ?_ ?_
    rotate_left
    ·
     intro w'
     go_simp
     with_reducible rfl
    rotate_left
    ·
     simp only [Act.put, List.setIfInBounds_toArray, List.set_cons_zero, List.set_cons_succ, i64_w, i32_w]
     rfl
    refine pure_ (i := 20) (N := some 71) (v := ?_) (a' := ?_) #[true, true, true, true, true, true, true, true, true, true, true, true, true, true, true, true, true, true, true, true, true, false, false, false, false, false, false, false, false, false, false, false, false, false, false, false, false, false, false, false, false, false, false] rfl rfl (by kernel_rfl) (fun _ _ _ h => h) (Or.inl ⟨by rfl, ?_⟩) ?_ ?_
    rotate_left
    ·
     intro w'
     go_simp
     with_reducible rfl
    rotate_left
    ·
     simp only [Act.put, List.setIfInBounds_toArray, List.set_cons_zero, List.set_cons_succ, i64_w, i32_w]
     rfl
    refine pure_ (i := 21) (N := some 72) (v := ?_) (a' := ?_) #[true, true, true, true, true, true, true, true, true, true, true, true, true, true, true, true, true, true, true, true, true, true, false, false, false, false, false, false, false, false, false, false, false, false, false, false, false, false, false, false, false, false, false] rfl rfl (by kernel_rfl) (fun _ _ _ h => h) (Or.inl ⟨by rfl, ?_⟩) ?_ ?_
    rotate_left
    ·
     intro w'
     go_simp
     with_reducible rfl
    rotate_left
    ·
     simp only [Act.put, List.setIfInBounds_toArray, List.set_cons_zero, List.set_cons_succ, i64_w, i32_w]
     rfl
    refine pure_ (i := 22) (N := some 73) (v := ?_) (a' := ?_) #[true, true, true, true, true, true, true, true, true, true, true, true, true, true, true, true, true, true, true, true, true, true, true, false, false, false, false, false, false, false, false, false, false, false, false, false, false, false, false, false, false, false, false] rfl rfl (by kernel_rfl) (fun _ _ _ h => h) (Or.inl ⟨by rfl, ?_⟩) ?_ ?_
    rotate_left
    ·
     intro w'
     go_simp
     with_reducible rfl
    rotate_left
    ·
     simp only [Act.put, List.setIfInBounds_toArray, List.set_cons_zero, List.set_cons_succ, i64_w, i32_w]
     rfl
    refine pure_ (i := 23) (N := some 74) (v := ?_) (a' := ?_) #[true, true, true, true, true, true, true, true, true, true, true, true, true, true, true, true, true, true, true, true, true, true, true, true, false, false, false, false, false, false, false, false, false, false, false, false, false, false, false, false, false, false, false] rfl rfl (by kernel_rfl) (fun _ _ _ h => h) (Or.inl ⟨by rfl, ?_⟩) ?_ ?_
    rotate_left
    ·
     intro w'
     go_simp
     with_reducible rfl
    rotate_left
    ·
     simp only [Act.put, List.setIfInBounds_toArray, List.set_cons_zero, List.set_cons_succ, i64_w, i32_w]
     rfl
    refine take_ (i := 24) (N := some 75) (v := ?_) (a' := ?_) #[true, true, true, true, true, true, true, true, true, true, true, true, true, true, true, true, true, true, true, true, true, true, true, true, true, false, false, false, false, false, false, false, false, false, false, false, false, false, false, false, false, false, false] rfl rfl (by kernel_rfl) (fun _ _ _ h => h) (Or.inl ⟨by rfl, ?_⟩) hHeld ?_ ?_
    rotate_left
    ·
     rintro w' ⟨s0, s1, s2, s3, s4, s5, s6, s7, s8, s9, s10, s11, s12, s13, s14, s15, s16, s17, s18, s19, s20, s21, s22, s23⟩
     go_simp
     with_reducible rfl
    rotate_left
    ·
     simp only [Act.put, List.setIfInBounds_toArray, List.set_cons_zero, List.set_cons_succ, i64_w, i32_w]
     rfl
    refine take_ (i := 25) (N := some 76) (v := ?_) (a' := ?_) #[true, true, true, true, true, true, true, true, true, true, true, true, true, true, true, true, true, true, true, true, true, true, true, true, true, true, false, false, false, false, false, false, false, false, false, false, false, false, false, false, false, false, false] rfl rfl (by kernel_rfl) (fun _ _ _ h => h) (Or.inl ⟨by rfl, ?_⟩) hHeld ?_ ?_
    rotate_left
    ·
     rintro w' ⟨s0, s1, s2, s3, s4, s5, s6, s7, s8, s9, s10, s11, s12, s13, s14, s15, s16, s17, s18, s19, s20, s21, s22, s23⟩
     go_simp
     with_reducible rfl
    rotate_left
    ·
     simp only [Act.put, List.setIfInBounds_toArray, List.set_cons_zero, List.set_cons_succ, i64_w, i32_w]
     rfl
    refine pure_ (i := 26) (N := some 77) (v := ?_) (a' := ?_) #[true, true, true, true, true, true, true, true, true, true, true, true, true, true, true, true, true, true, true, true, true, true, true, true, true, true, true, false, false, false, false, false, false, false, false, false, false, false, false, false, false, false, false] rfl rfl (by kernel_rfl) (fun _ _ _ h => h) (Or.inl ⟨by rfl, ?_⟩) ?_ ?_
    rotate_left
    ·
     intro w'
     go_simp
     with_reducible rfl
    rotate_left
    ·
     simp only [Act.put, List.setIfInBounds_toArray, List.set_cons_zero, List.set_cons_succ, i64_w, i32_w]
     rfl
    refine pure_ (i := 27) (N := some 78) (v := ?_) (a' := ?_) #[true, true, true, true, true, true, true, true, true, true, true, true, true, true, true, true, true, true, true, true, true, true, true, true, true, true, true, true, false, false, false, false, false, false, false, false, false, false, false, false, false, false, false] rfl rfl (by kernel_rfl) (fun _ _ _ h => h) (Or.inl ⟨by rfl, ?_⟩) ?_ ?_
    rotate_left
    ·
     intro w'
     go_simp
     with_reducible rfl
    rotate_left
    ·
     simp only [Act.put, List.setIfInBounds_toArray, List.set_cons_zero, List.set_cons_succ, i64_w, i32_w]
     rfl
    refine pure_ (i := 28) (N := some 79) (v := ?_) (a' := ?_) #[true, true, true, true, true, true, true, true, true, true, true, true, true, true, true, true, true, true, true, true, true, true, true, true, true, true, true, true, true, false, false, false, false, false, false, false, false, false, false, false, false, false, false] rfl rfl (by kernel_rfl) (fun _ _ _ h => h) (Or.inl ⟨by rfl, ?_⟩) ?_ ?_
    rotate_left
    ·
     intro w'
     go_simp
     with_reducible rfl
    rotate_left
    ·
     simp only [Act.put, List.setIfInBounds_toArray, List.set_cons_zero, List.set_cons_succ, i64_w, i32_w]
     rfl
    refine pure_ (i := 29) (N := some 80) (v := ?_) (a' := ?_) #[true, true, true, true, true, true, true, true, true, true, true, true, true, true, true, true, true, true, true, true, true, true, true, true, true, true, true, true, true, true, false, false, false, false, false, false, false, false, false, false, false, false, false] rfl rfl (by kernel_rfl) (fun _ _ _ h => h) (Or.inl ⟨by rfl, ?_⟩) ?_ ?_
    rotate_left
    ·
     intro w'
     go_simp
     with_reducible rfl
    rotate_left
    ·
     simp only [Act.put, List.setIfInBounds_toArray, List.set_cons_zero, List.set_cons_succ, i64_w, i32_w]
     rfl
    refine pure_ (i := 30) (N := some 81) (v := ?_) (a' := ?_) #[true, true, true, true, true, true, true, true, true, true, true, true, true, true, true, true, true, true, true, true, true, true, true, true, true, true, true, true, true, true, true, false, false, false, false, false, false, false, false, false, false, false, false] rfl rfl (by kernel_rfl) (fun _ _ _ h => h) (Or.inl ⟨by rfl, ?_⟩) ?_ ?_
    rotate_left
    ·
     intro w'
     go_simp
     with_reducible rfl
    rotate_left
    ·
     simp only [Act.put, List.setIfInBounds_toArray, List.set_cons_zero, List.set_cons_succ, i64_w, i32_w]
     rfl
    refine pure_ (i := 31) (N := some 82) (v := ?_) (a' := ?_) #[true, true, true, true, true, true, true, true, true, true, true, true, true, true, true, true, true, true, true, true, true, true, true, true, true, true, true, true, true, true, true, true, false, false, false, false, false, false, false, false, false, false, false] rfl rfl (by kernel_rfl) (fun _ _ _ h => h) (Or.inl ⟨by rfl, ?_⟩) ?_ ?_
    rotate_left
    ·
     intro w'
     go_simp
     with_reducible rfl
    rotate_left
    ·
     simp only [Act.put, List.setIfInBounds_toArray, List.set_cons_zero, List.set_cons_succ, i64_w, i32_w]
     rfl
    refine pure_ (i := 32) (N := some 83) (v := ?_) (a' := ?_) #[true, true, true, true, true, true, true, true, true, true, true, true, true, true, true, true, true, true, true, true, true, true, true, true, true, true, true, true, true, true, true, true, true, false, false, false, false, false, false, false, false, false, false] rfl rfl (by kernel_rfl) (fun _ _ _ h => h) (Or.inl ⟨by rfl, ?_⟩) ?_ ?_
    rotate_left
    ·
     intro w'
     go_simp
     with_reducible rfl
    rotate_left
    ·
     simp only [Act.put, List.setIfInBounds_toArray, List.set_cons_zero, List.set_cons_succ, i64_w, i32_w]
     rfl
    refine pure_ (i := 33) (N := some 84) (v := ?_) (a' := ?_) #[true, true, true, true, true, true, true, true, true, true, true, true, true, true, true, true, true, true, true, true, true, true, true, true, true, true, true, true, true, true, true, true, true, true, false, false, false, false, false, false, false, false, false] rfl rfl (by kernel_rfl) (fun _ _ _ h => h) (Or.inl ⟨by rfl, ?_⟩) ?_ ?_
    rotate_left
    ·
     intro w'
     go_simp
     with_reducible rfl
    rotate_left
    ·
     simp only [Act.put, List.setIfInBounds_toArray, List.set_cons_zero, List.set_cons_succ, i64_w, i32_w]
     rfl
    refine pure_ (i := 34) (N := some 85) (v := ?_) (a' := ?_) #[true, true, true, true, true, true, true, true, true, true, true, true, true, true, true, true, true, true, true, true, true, true, true, true, true, true, true, true, true, true, true, true, true, true, true, false, false, false, false, false, false, false, false] rfl rfl (by kernel_rfl) (fun _ _ _ h => h) (Or.inl ⟨by rfl, ?_⟩) ?_ ?_
    rotate_left
    ·
     intro w'
     go_simp
     with_reducible rfl
    rotate_left
    ·
     simp only [Act.put, List.setIfInBounds_toArray, List.set_cons_zero, List.set_cons_succ, i64_w, i32_w]
     rfl
    refine pure_ (i := 37) (N := some 88) (v := ?_) (a' := ?_) #[true, true, true, true, true, true, true, true, true, true, true, true, true, true, true, true, true, true, true, true, true, true, true, true, true, true, true, true, true, true, true, true, true, true, true, false, false, true, false, false, false, false, false] rfl rfl (by kernel_rfl) (fun _ _ _ h => h) (Or.inl ⟨by rfl, ?_⟩) ?_ ?_
    rotate_left
    ·
     intro w'
     go_simp
     with_reducible rfl
    rotate_left
    ·
     simp only [Act.put, List.setIfInBounds_toArray, List.set_cons_zero, List.set_cons_succ, i64_w, i32_w]
     rfl
    refine take_ (i := 35) (N := some 86) (v := ?_) (a' := ?_) #[true, true, true, true, true, true, true, true, true, true, true, true, true, true, true, true, true, true, true, true, true, true, true, true, true, true, true, true, true, true, true, true, true, true, true, true, false, true, false, false, false, false, false] rfl rfl (by kernel_rfl) (fun _ _ _ h => h) (Or.inl ⟨by rfl, ?_⟩) hHeld ?_ ?_
    rotate_left
    ·
     rintro w' ⟨s0, s1, s2, s3, s4, s5, s6, s7, s8, s9, s10, s11, s12, s13, s14, s15, s16, s17, s18, s19, s20, s21, s22, s23⟩
     go_simp
     with_reducible rfl
    rotate_left
    ·
     simp only [Act.put, List.setIfInBounds_toArray, List.set_cons_zero, List.set_cons_succ, i64_w, i32_w]
     rfl
    refine take_ (i := 38) (N := some 89) (v := ?_) (a' := ?_) #[true, true, true, true, true, true, true, true, true, true, true, true, true, true, true, true, true, true, true, true, true, true, true, true, true, true, true, true, true, true, true, true, true, true, true, true, false, true, true, false, false, false, false] rfl rfl (by kernel_rfl) (fun _ _ _ h => h) (Or.inl ⟨by rfl, ?_⟩) hHeld ?_ ?_
    rotate_left
    ·
     rintro w' ⟨s0, s1, s2, s3, s4, s5, s6, s7, s8, s9, s10, s11, s12, s13, s14, s15, s16, s17, s18, s19, s20, s21, s22, s23⟩
     go_simp
     with_reducible rfl
    rotate_left
    ·
     simp only [Act.put, List.setIfInBounds_toArray, List.set_cons_zero, List.set_cons_succ, i64_w, i32_w]
     rfl
    refine pure_ (i := 39) (N := some 90) (v := ?_) (a' := ?_) #[true, true, true, true, true, true, true, true, true, true, true, true, true, true, true, true, true, true, true, true, true, true, true, true, true, true, true, true, true, true, true, true, true, true, true, true, false, true, true, true, false, false, false] rfl rfl (by kernel_rfl) (fun _ _ _ h => h) (Or.inl ⟨by rfl, ?_⟩) ?_ ?_
    rotate_left
    ·
     intro w'
     go_simp
     with_reducible rfl
    rotate_left
    ·
     simp only [Act.put, List.setIfInBounds_toArray, List.set_cons_zero, List.set_cons_succ, i64_w, i32_w]
     rfl
    refine one_ (i := 36) (N := some 87) #[true, true, true, true, true, true, true, true, true, true, true, true, true, true, true, true, true, true, true, true, true, true, true, true, true, true, true, true, true, true, true, true, true, true, true, true, true, true, true, true, false, false, false] rfl rfl (by kernel_rfl) (by decide) (fun K hK => ?_)
    refine goes_ Tryz.func46 (by kernel_rfl) rfl #[.string x.cookie] (by rfl) rfl rfl (by simp only [List.map_toArray, List.map_cons, List.map_nil]; rfl) ?_
    with_reducible refine (hky w12).mono ?_
    rintro e w13 ⟨rfl, hb13⟩
    refine ⟨_, rfl, ?_⟩
    refine hK.out _ _ ⟨cell_later hb13 c0, cell_later hb13 c1, cell_later hb13 c2, cell_later hb13 c3, cell_later hb13 c4, cell_later hb13 c5, cell_later hb13 c6, cell_later hb13 c7, cell_later hb13 c8, cell_later hb13 c9, cell_later hb13 c10, cell_later hb13 c11, cell_later hb13 d0, cell_later hb13 d1, cell_later hb13 d2, cell_later hb13 d3, cell_later hb13 d4, cell_later hb13 d5, cell_later hb13 d6, cell_later hb13 d7, cell_later hb13 d8, cell_later hb13 d9, cell_later hb13 d10, cell_later hb13 d11⟩ (fun hHeld => ?_)
    clear hK K
    refine norm_ (a' := ?_) ?_ ?_
    rotate_left
    ·
     show Act.put _ (some 87) _ = _
     simp only [Act.put, List.setIfInBounds_toArray, List.set_cons_zero, List.set_cons_succ, i64_w, i32_w]
     rfl
    refine pure_ (i := 40) (N := some 91) (v := ?_) (a' := ?_) #[true, true, true, true, true, true, true, true, true, true, true, true, true, true, true, true, true, true, true, true, true, true, true, true, true, true, true, true, true, true, true, true, true, true, true, true, true, true, true, true, true, false, false] rfl rfl (by kernel_rfl) (fun _ _ _ h => h) (Or.inl ⟨by rfl, ?_⟩) ?_ ?_
    rotate_left
    ·
     intro w'
     go_simp
     with_reducible rfl
    rotate_left
    ·
     simp only [Act.put, List.setIfInBounds_toArray, List.set_cons_zero, List.set_cons_succ, i64_w, i32_w]
     rfl
    refine pure_ (i := 41) (N := some 92) (v := ?_) (a' := ?_) #[true, true, true, true, true, true, true, true, true, true, true, true, true, true, true, true, true, true, true, true, true, true, true, true, true, true, true, true, true, true, true, true, true, true, true, true, true, true, true, true, true, true, false] rfl rfl (by kernel_rfl) (fun _ _ _ h => h) (Or.inl ⟨by rfl, ?_⟩) ?_ ?_
    rotate_left
    ·
     intro w'
     go_simp
     with_reducible rfl
    rotate_left
    ·
     simp only [Act.put, List.setIfInBounds_toArray, List.set_cons_zero, List.set_cons_succ, i64_w, i32_w]
     rfl
    refine pure_ (i := 42) (N := some 4) (v := ?_) (a' := ?_) #[true, true, true, true, true, true, true, true, true, true, true, true, true, true, true, true, true, true, true, true, true, true, true, true, true, true, true, true, true, true, true, true, true, true, true, true, true, true, true, true, true, true, true] rfl rfl (by kernel_rfl) (fun _ _ _ h => h) (Or.inl ⟨by rfl, ?_⟩) ?_ ?_
    rotate_left
    ·
     intro w'
     go_simp
     with_reducible rfl
    rotate_left
    ·
     simp only [Act.put, List.setIfInBounds_toArray, List.set_cons_zero, List.set_cons_succ, i64_w, i32_w]
     rfl
    refine done_ (by kernel_rfl) ?_
    go_wp2_with fail
    go_ret
    exact ⟨rfl, below_then hB12 hB12.size hb13⟩
 ·
  have d1 : decide ((10000 : Int) < ((sesT x).size : Int)) = true := decide_eq_true (by omega)
  go_enter Tryz.func6, Tryz.ntmps6
  go_wp2_with fail
  refine hrs.mono ?_
  rintro e w1 ⟨rfl, hb1⟩
  have hB1 := below_then hB0 hB0.size hb1
  go_wp2_with fail
  refine (hans w1 hB1).mono ?_
  rintro e w2 ⟨rfl, hb2⟩
  go_wp2_with fail
  go_ret
  exact ⟨rfl, below_then hB1 hB1.size hb2⟩
theorem SeatSaves_in (W : World) (v : Value) (hv : SesIn v) (now : Int) (hn : (Lit.int .i64 now).wf = true) (hGL : GL W) (hGP : GP W) (hGE : GE W) :
  Calls Tryz.prog 6 #[v, .int .i64 now] W fun e w' => e = .returned (.bool true) ∧ Below W.heap.size W w' := by
 obtain ⟨x, rfl, h1, h2, hs⟩ := hv
 exact SeatSaves_walk W x now h1 h2 (i64_of_wf hn) (sesL_big x h1 h2 hs) hGL hGP hGE
end Go.Proofs.YtpoblffgclmmlaaGreatDoor.X
end
