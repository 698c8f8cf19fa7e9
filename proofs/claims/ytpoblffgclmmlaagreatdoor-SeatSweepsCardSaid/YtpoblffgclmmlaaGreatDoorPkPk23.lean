/- A part of the proof of a card: what some functions of the program come to, each under the conditions that its theorem names. -/
import Derived.Lib.SmallJoins
import Derived.Deep.Fields
import Derived.ChangeSame
import Derived.OpenShut
import Derived.Test.YtpoblffgclmmlaaGreatDoorPkPk19
import Derived.Test.YtpoblffgclmmlaaGreatDoorPkPk22
section
set_option linter.unusedVariables false
set_option linter.unusedSimpArgs false
namespace Go.Proofs.YtpoblffgclmmlaaGreatDoor.X
open Go.Joins Go.ChangeShapes Go.WideShapes Go.RowKit

def SesSmall (x : Ses) : Prop := x.cookie.size ≤ 140737488351232 ∧ x.client.size ≤ 140737488351232 ∧ x.redirect.size ≤ 140737488351232 ∧ x.state.size ≤ 140737488351232 ∧ x.nonce.size ≤ 140737488351232 ∧ x.scope.size ≤ 140737488351232 ∧ x.challenge.size ≤ 140737488351232 ∧ x.conn.size ≤ 140737488351232 ∧ x.upState.size ≤ 140737488351232 ∧ x.upNonce.size ≤ 140737488351232
theorem i64_lit {n : Int} (h : (Lit.int .i64 n).wf = true) : I64 n := by
 simp [Lit.wf, IntKind.min, IntKind.max, IntKind.bits, IntKind.signed] at h
 unfold I64
 omega
end Go.Proofs.YtpoblffgclmmlaaGreatDoor.X
end
section
set_option linter.unusedVariables false
set_option linter.unusedSimpArgs false
namespace Go.Proofs.YtpoblffgclmmlaaGreatDoor.X
open Go.Joins Go.ChangeShapes Go.WideShapes Go.RowKit Go.Proofs.YtpoblffgclmmlaaGreatDoorW.PrintWords

/-- A session lies at an address. -/
def SesAt (w : World) (ad : Addr) (c : Ses) : Prop := w.cell? ad = some (.string c.cookie) ∧ w.cell? ⟨ad.block, ad.off + 1, none⟩ = some (.string c.client) ∧ w.cell? ⟨ad.block, ad.off + 2, none⟩ = some (.string c.redirect) ∧ w.cell? ⟨ad.block, ad.off + 3, none⟩ = some (.string c.state) ∧ w.cell? ⟨ad.block, ad.off + 4, none⟩ = some (.string c.nonce) ∧ w.cell? ⟨ad.block, ad.off + 5, none⟩ = some (.string c.scope) ∧ w.cell? ⟨ad.block, ad.off + 6, none⟩ = some (.string c.challenge) ∧ w.cell? ⟨ad.block, ad.off + 7, none⟩ = some (.int .i64 c.stage) ∧ w.cell? ⟨ad.block, ad.off + 8, none⟩ = some (.string c.conn) ∧ w.cell? ⟨ad.block, ad.off + 9, none⟩ = some (.string c.upState) ∧ w.cell? ⟨ad.block, ad.off + 10, none⟩ = some (.string c.upNonce) ∧ w.cell? ⟨ad.block, ad.off + 11, none⟩ = some (.int .i64 c.ends)
def SessIn (w : World) (a : Option Addr) (len cap : Nat) : Prop := ∃ l : List Ses, len = l.length ∧ l.length ≤ cap ∧ l.length ≤ 4000000000000 ∧ (∀ c ∈ l, I64 c.stage ∧ I64 c.ends ∧ SesSmall c) ∧ ∀ i, i < l.length → ∃ ad, a = some ad ∧ SesAt w (ad.add (i * 12)) (l.getD i sesZ)
theorem sess_open {H : Type} {enc : TypeId × Value → H} {P : Program} {w : World} {base : Nat} {held : Bool} {t e : TypeId} {f0 f1 f2 f3 f4 f5 f6 f7 f8 f9 f10 f11 : Field} {fuel : Nat} {a : Option Addr} {len cap : Nat} {d : DataW H} {p : List MemPlace}
  (ht : P.underlying t = some (.slice e)) (he : P.underlying e = some (.struct #[f0, f1, f2, f3, f4, f5, f6, f7, f8, f9, f10, f11])) (h0 : P.underlying f0.type = some (.string)) (h1 : P.underlying f1.type = some (.string)) (h2 : P.underlying f2.type = some (.string)) (h3 : P.underlying f3.type = some (.string)) (h4 : P.underlying f4.type = some (.string)) (h5 : P.underlying f5.type = some (.string)) (h6 : P.underlying f6.type = some (.string)) (h7 : P.underlying f7.type = some (.int .i64)) (h8 : P.underlying f8.type = some (.string)) (h9 : P.underlying f9.type = some (.string)) (h10 : P.underlying f10.type = some (.string)) (h11 : P.underlying f11.type = some (.int .i64)) (hone : Deep.oneCellFields P #[f0, f1, f2, f3, f4, f5, f6, f7, f8, f9, f10, f11] = true) (hC : P.cellsOf e = 12) (hB : P.bytesOf e = 176)
  (h : DataW.trod enc P w base (fun _ => true) held fuel t [.slice a len cap] = some (d, p)) (hw : ∀ n ∈ d.weights P t, n ≤ reachBytes) :
  SessIn w a len cap := by
 rcases Deep.open_slice ht h with ⟨hcs, _⟩ | ⟨a', len', cap', m, n, D, Pl, hcs, _, hl, hm, hmm, hx, hi⟩
 ·
  simp only [List.cons.injEq, Value.slice.injEq, and_true] at hcs
  obtain ⟨rfl, rfl, rfl⟩ := hcs
  exact ⟨[], rfl, by simp, by simp, by simp, by simp⟩
 ·
  simp only [List.cons.injEq, Value.slice.injEq, and_true] at hcs
  obtain ⟨rfl, rfl, rfl⟩ := hcs
  have hmc : m = cap := by rw [hmm]; simp
  subst hmc
  simp only [Prod.mk.injEq] at hx
  have hd := hx.1
  have each : ∀ i, i < len → ∃ c : Ses, D i = .agg [.lit (.string c.cookie.data.toList), .lit (.string c.client.data.toList), .lit (.string c.redirect.data.toList), .lit (.string c.state.data.toList), .lit (.string c.nonce.data.toList), .lit (.string c.scope.data.toList), .lit (.string c.challenge.data.toList), .lit (.int .i64 c.stage), .lit (.string c.conn.data.toList), .lit (.string c.upState.data.toList), .lit (.string c.upNonce.data.toList), .lit (.int .i64 c.ends)] ∧ (I64 c.stage ∧ I64 c.ends) ∧ w.cell? (a'.add (i * 12 + 0)) = some (.string c.cookie) ∧ w.cell? (a'.add (i * 12 + 1)) = some (.string c.client) ∧ w.cell? (a'.add (i * 12 + 2)) = some (.string c.redirect) ∧ w.cell? (a'.add (i * 12 + 3)) = some (.string c.state) ∧ w.cell? (a'.add (i * 12 + 4)) = some (.string c.nonce) ∧ w.cell? (a'.add (i * 12 + 5)) = some (.string c.scope) ∧ w.cell? (a'.add (i * 12 + 6)) = some (.string c.challenge) ∧ w.cell? (a'.add (i * 12 + 7)) = some (.int .i64 c.stage) ∧ w.cell? (a'.add (i * 12 + 8)) = some (.string c.conn) ∧ w.cell? (a'.add (i * 12 + 9)) = some (.string c.upState) ∧ w.cell? (a'.add (i * 12 + 10)) = some (.string c.upNonce) ∧ w.cell? (a'.add (i * 12 + 11)) = some (.int .i64 c.ends) := by
   intro i hlt
   obtain ⟨cs', hc, ht'⟩ := hi i (Nat.lt_of_lt_of_le hlt hl)
   rw [hC] at hc
   obtain ⟨ys, n', _, hy, hlen, hyl, hf⟩ := DataW.trod_struct he ht'
   obtain ⟨_, hcl, hat⟩ := World.cells?_some hc
   simp only [Prod.mk.injEq] at hy
   have hyl3 : ys.length = 12 := hyl
   match cs', hcl, hat, hf with
   | [c0, c1, c2, c3, c4, c5, c6, c7, c8, c9, c10, c11], _, hat, hf =>
    match ys, hyl3, hy, hf with
    | [y0, y1, y2, y3, y4, y5, y6, y7, y8, y9, y10, y11], _, hy, hf =>
     have g0 := hf 0 f0 rfl
     obtain ⟨o0, k0⟩ := Deep.hone_of hone 0 f0 rfl
     rw [o0, k0] at g0
     have g1 := hf 1 f1 rfl
     obtain ⟨o1, k1⟩ := Deep.hone_of hone 1 f1 rfl
     rw [o1, k1] at g1
     have g2 := hf 2 f2 rfl
     obtain ⟨o2, k2⟩ := Deep.hone_of hone 2 f2 rfl
     rw [o2, k2] at g2
     have g3 := hf 3 f3 rfl
     obtain ⟨o3, k3⟩ := Deep.hone_of hone 3 f3 rfl
     rw [o3, k3] at g3
     have g4 := hf 4 f4 rfl
     obtain ⟨o4, k4⟩ := Deep.hone_of hone 4 f4 rfl
     rw [o4, k4] at g4
     have g5 := hf 5 f5 rfl
     obtain ⟨o5, k5⟩ := Deep.hone_of hone 5 f5 rfl
     rw [o5, k5] at g5
     have g6 := hf 6 f6 rfl
     obtain ⟨o6, k6⟩ := Deep.hone_of hone 6 f6 rfl
     rw [o6, k6] at g6
     have g7 := hf 7 f7 rfl
     obtain ⟨o7, k7⟩ := Deep.hone_of hone 7 f7 rfl
     rw [o7, k7] at g7
     have g8 := hf 8 f8 rfl
     obtain ⟨o8, k8⟩ := Deep.hone_of hone 8 f8 rfl
     rw [o8, k8] at g8
     have g9 := hf 9 f9 rfl
     obtain ⟨o9, k9⟩ := Deep.hone_of hone 9 f9 rfl
     rw [o9, k9] at g9
     have g10 := hf 10 f10 rfl
     obtain ⟨o10, k10⟩ := Deep.hone_of hone 10 f10 rfl
     rw [o10, k10] at g10
     have g11 := hf 11 f11 rfl
     obtain ⟨o11, k11⟩ := Deep.hone_of hone 11 f11 rfl
     rw [o11, k11] at g11
     obtain ⟨s0, e0, z0, _⟩ := DataW.trod_string h0 g0
     obtain ⟨s1, e1, z1, _⟩ := DataW.trod_string h1 g1
     obtain ⟨s2, e2, z2, _⟩ := DataW.trod_string h2 g2
     obtain ⟨s3, e3, z3, _⟩ := DataW.trod_string h3 g3
     obtain ⟨s4, e4, z4, _⟩ := DataW.trod_string h4 g4
     obtain ⟨s5, e5, z5, _⟩ := DataW.trod_string h5 g5
     obtain ⟨s6, e6, z6, _⟩ := DataW.trod_string h6 g6
     obtain ⟨s7, e7, z7, wf7⟩ := DataW.trod_int h7 g7
     obtain ⟨s8, e8, z8, _⟩ := DataW.trod_string h8 g8
     obtain ⟨s9, e9, z9, _⟩ := DataW.trod_string h9 g9
     obtain ⟨s10, e10, z10, _⟩ := DataW.trod_string h10 g10
     obtain ⟨s11, e11, z11, wf11⟩ := DataW.trod_int h11 g11
     simp only [List.drop_zero, List.drop_succ_cons, List.take_succ_cons, List.take_zero, List.cons.injEq, and_true] at e0 e1 e2 e3 e4 e5 e6 e7 e8 e9 e10 e11
     subst e0
     subst z0
     subst e1
     subst z1
     subst e2
     subst z2
     subst e3
     subst z3
     subst e4
     subst z4
     subst e5
     subst z5
     subst e6
     subst z6
     subst e7
     subst z7
     subst e8
     subst z8
     subst e9
     subst z9
     subst e10
     subst z10
     subst e11
     subst z11
     refine ⟨⟨s0, s1, s2, s3, s4, s5, s6, s7, s8, s9, s10, s11⟩, hy.1, ⟨i64_lit wf7, i64_lit wf11⟩, ?_, ?_, ?_, ?_, ?_, ?_, ?_, ?_, ?_, ?_, ?_, ?_⟩
     ·
      rw [← Deep.add_add]; exact hat 0 (by omega)
     ·
      rw [← Deep.add_add]; exact hat 1 (by omega)
     ·
      rw [← Deep.add_add]; exact hat 2 (by omega)
     ·
      rw [← Deep.add_add]; exact hat 3 (by omega)
     ·
      rw [← Deep.add_add]; exact hat 4 (by omega)
     ·
      rw [← Deep.add_add]; exact hat 5 (by omega)
     ·
      rw [← Deep.add_add]; exact hat 6 (by omega)
     ·
      rw [← Deep.add_add]; exact hat 7 (by omega)
     ·
      rw [← Deep.add_add]; exact hat 8 (by omega)
     ·
      rw [← Deep.add_add]; exact hat 9 (by omega)
     ·
      rw [← Deep.add_add]; exact hat 10 (by omega)
     ·
      rw [← Deep.add_add]; exact hat 11 (by omega)
  have each' : ∀ i, ∃ c : Ses, i < len → D i = .agg [.lit (.string c.cookie.data.toList), .lit (.string c.client.data.toList), .lit (.string c.redirect.data.toList), .lit (.string c.state.data.toList), .lit (.string c.nonce.data.toList), .lit (.string c.scope.data.toList), .lit (.string c.challenge.data.toList), .lit (.int .i64 c.stage), .lit (.string c.conn.data.toList), .lit (.string c.upState.data.toList), .lit (.string c.upNonce.data.toList), .lit (.int .i64 c.ends)] ∧ (I64 c.stage ∧ I64 c.ends) ∧ w.cell? (a'.add (i * 12 + 0)) = some (.string c.cookie) ∧ w.cell? (a'.add (i * 12 + 1)) = some (.string c.client) ∧ w.cell? (a'.add (i * 12 + 2)) = some (.string c.redirect) ∧ w.cell? (a'.add (i * 12 + 3)) = some (.string c.state) ∧ w.cell? (a'.add (i * 12 + 4)) = some (.string c.nonce) ∧ w.cell? (a'.add (i * 12 + 5)) = some (.string c.scope) ∧ w.cell? (a'.add (i * 12 + 6)) = some (.string c.challenge) ∧ w.cell? (a'.add (i * 12 + 7)) = some (.int .i64 c.stage) ∧ w.cell? (a'.add (i * 12 + 8)) = some (.string c.conn) ∧ w.cell? (a'.add (i * 12 + 9)) = some (.string c.upState) ∧ w.cell? (a'.add (i * 12 + 10)) = some (.string c.upNonce) ∧ w.cell? (a'.add (i * 12 + 11)) = some (.int .i64 c.ends) := by
   intro i
   by_cases hlt : i < len
   ·
    obtain ⟨c, hc⟩ := each i hlt; exact ⟨c, fun _ => hc⟩
   ·
    exact ⟨sesZ, fun h => absurd h hlt⟩
  obtain ⟨F, hF⟩ := Classical.axiomOfChoice each'
  have hwl : (((List.range len).map D).length + ((List.range (m - len)).map fun j => D (len + j)).length) * P.bytesOf e ≤ reachBytes := by
   refine hw _ ?_
   rw [hd, DataW.weights, ht]
   exact List.mem_cons_self ..
  have hwe : ∀ i, i < len → ∀ n ∈ (D i).weights P e, n ≤ reachBytes := by
   intro i hlt n hn
   refine hw n ?_
   rw [hd, DataW.weights, ht]
   refine List.mem_cons_of_mem _ (List.mem_append_left _ ?_)
   have : ∀ (ds : List (DataW H)), D i ∈ ds → n ∈ DataW.weightsAll P e ds := by
    intro ds
    induction ds with
    | nil => intro h; cases h
    | cons y ds ih =>
     intro h
     rw [DataW.weightsAll]
     rcases List.mem_cons.1 h with h | h
     ·
      rw [← h]; exact List.mem_append_left _ hn
     ·
      exact List.mem_append_right _ (ih h)
   exact this _ (List.mem_map.2 ⟨i, List.mem_range.2 hlt, rfl⟩)
  rw [hB] at hwl
  simp only [List.length_map, List.length_range, reachBytes] at hwl
  refine ⟨(List.range len).map F, by simp, by simpa using hl, by simp; omega, ?_, ?_⟩
  ·
   intro c hc
   simp only [List.mem_map, List.mem_range] at hc
   obtain ⟨i, hlt, rfl⟩ := hc
   obtain ⟨hD, h64, _⟩ := hF i hlt
   have hwi := hwe i hlt
   rw [hD, DataW.weights, he] at hwi
   have a0 := hwi (F i).cookie.data.toList.length (by simp [DataW.weightsEach, DataW.weights])
   have a1 := hwi (F i).client.data.toList.length (by simp [DataW.weightsEach, DataW.weights])
   have a2 := hwi (F i).redirect.data.toList.length (by simp [DataW.weightsEach, DataW.weights])
   have a3 := hwi (F i).state.data.toList.length (by simp [DataW.weightsEach, DataW.weights])
   have a4 := hwi (F i).nonce.data.toList.length (by simp [DataW.weightsEach, DataW.weights])
   have a5 := hwi (F i).scope.data.toList.length (by simp [DataW.weightsEach, DataW.weights])
   have a6 := hwi (F i).challenge.data.toList.length (by simp [DataW.weightsEach, DataW.weights])
   have a8 := hwi (F i).conn.data.toList.length (by simp [DataW.weightsEach, DataW.weights])
   have a9 := hwi (F i).upState.data.toList.length (by simp [DataW.weightsEach, DataW.weights])
   have a10 := hwi (F i).upNonce.data.toList.length (by simp [DataW.weightsEach, DataW.weights])
   simp only [Array.length_toList, reachBytes] at a0 a1 a2 a3 a4 a5 a6 a8 a9 a10
   exact ⟨h64.1, h64.2, a0, a1, a2, a3, a4, a5, a6, a8, a9, a10⟩
  ·
   intro i hlt
   have hlt2 : i < len := by simpa using hlt
   obtain ⟨_, _, q0, q1, q2, q3, q4, q5, q6, q7, q8, q9, q10, q11⟩ := hF i hlt2
   have hg : ((List.range len).map F).getD i sesZ = F i := by simp [List.getD_eq_getElem?_getD, List.getElem?_map, List.getElem?_range hlt2]
   rw [hg]
   exact ⟨a', rfl, q0, by rw [← add_field _ _ 1 (by omega)]; exact q1, by rw [← add_field _ _ 2 (by omega)]; exact q2, by rw [← add_field _ _ 3 (by omega)]; exact q3, by rw [← add_field _ _ 4 (by omega)]; exact q4, by rw [← add_field _ _ 5 (by omega)]; exact q5, by rw [← add_field _ _ 6 (by omega)]; exact q6, by rw [← add_field _ _ 7 (by omega)]; exact q7, by rw [← add_field _ _ 8 (by omega)]; exact q8, by rw [← add_field _ _ 9 (by omega)]; exact q9, by rw [← add_field _ _ 10 (by omega)]; exact q10, by rw [← add_field _ _ 11 (by omega)]; exact q11⟩
end Go.Proofs.YtpoblffgclmmlaaGreatDoor.X
end
section
set_option linter.unusedVariables false
set_option linter.unusedSimpArgs false
namespace Go.Proofs.YtpoblffgclmmlaaGreatDoor.X
open Go.RowKit Go.WideMaps Go.Maps Go.Proofs.YtpoblffgclmmlaaGreatDoorW.PrintWords Go.Proofs.YtpoblffgclmmlaaGreatDoorW.PrintLast Go.Proofs.YtpoblffgclmmlaaGreatDoorW.PrintMore Go.Proofs.YtpoblffgclmmlaaGreatDoor.Q

theorem sesL_big2 (x : Ses) (h1 : I64 x.stage) (h2 : I64 x.ends) (h : SesSmall x) : (txs (sesL x)).length ≤ 1900000000000000000 := by
 obtain ⟨a0, a1, a2, a3, a4, a5, a6, a8, a9, a10⟩ := h
 have i1 := itB_size h1
 have i2 := itB_size h2
 have hl := txsLen (sesL x) (by
  intro y hy
  simp only [sesL, List.mem_cons, List.not_mem_nil, or_false] at hy
  rcases hy with e | e | e | e | e | e | e | e | e | e | e | e <;> subst e <;> omega)
 simp only [sesL, List.length_cons, List.length_nil, List.map_cons, List.map_nil, List.sum_cons, List.sum_nil] at hl
 simp only [sesL]
 omega
set_option maxHeartbeats 8000000 in
set_option maxRecDepth 100000 in
theorem SeatSweeps_walk (w : World) (A : Option Addr) (c : Nat) (l : List Ses) (hc : l.length ≤ c) (hl : l.length ≤ 4000000000000) (hsm : ∀ x ∈ l, I64 x.stage ∧ I64 x.ends ∧ SesSmall x) (hat : ∀ i, i < l.length → ∃ ad, A = some ad ∧ SesAt w (ad.add (i * 12)) (l.getD i sesZ))
  (now : Int) (hGL : GL w) (hGP : GP w) (hGE : GE w) :
  Calls Tryz.prog 8 #[.slice A l.length c, .int .i64 now] w fun e w' => e = .returned (.bool true) ∧ Below w.heap.size w w' := by
 have hans := fun w2 (hb : Below w.heap.size w w2) => answers19_says w2 (hGL.below hb) (hGP.below hb) (hGE.below hb)
 by_cases hbig : l.length ≤ 20
 ·
  have d1 : decide ((20 : Int) < (l.length : Int)) = false := decide_eq_false (by omega)
  have d1' : decide (20 < l.length) = false := decide_eq_false (by omega)
  go_enter Tryz.func8, Tryz.ntmps8
  go_wp2_with fail
  go_loopw [5, 6] (fun v5 v6 wr => ∃ i : Nat, v6 = .int .i64 i ∧ i ≤ l.length ∧ Kd.R k69 69 wr w.heap.size (fun _ => True) v5 (chS (l.take i)) ∧ Below w.heap.size w wr) (fun _ v6 _ => l.length - (intOf v6).toNat)
  case atStart => exact ⟨0, rfl, Nat.zero_le _, Kd.R_nil _ _ _ _ _, Below.refl _ w⟩
  case round =>
   obtain ⟨i, rfl, hi, hr, hB⟩ := hrel
   by_cases hlt : i < l.length
   ·
    have d2 : decide ((i : Int) < (l.length : Int)) = true := decide_eq_true (by omega)
    have d2' : decide (i < l.length) = true := decide_eq_true hlt
    obtain ⟨ad, rfl, hx⟩ := hat i hlt
    have hmem : l.getD i sesZ ∈ l := by simp [List.getD_eq_getElem?_getD, List.getElem?_eq_getElem hlt]
    obtain ⟨hs1, hs2, hs3⟩ := hsm _ hmem
    have hck : (l.getD i sesZ).cookie.size ≤ 140737488351232 := hs3.1
    have hse := fun w' => rsession_says (l.getD i sesZ) hs1 hs2 (by have := sesL_big2 _ hs1 hs2 hs3; omega) w'
    have hct := chS_take l i hlt
    have LB := Lib.hid (show ((chS (l.take i)).length + 1) * 40 ≤ 140737488355328 by unfold chS; rw [List.length_map, List.length_take]; omega)
    have Hi := Lib.hid (show i + 1 ≤ l.length by omega)
    have i3 : ((i : Int) < (l.length : Int)) = True := eq_true (by omega)
    have i0 : (0 ≤ (i : Int)) = True := eq_true (by omega)
    have i4 : (i < l.length) = True := eq_true hlt
    have e1 : IntKind.i64.wrap ((i : Int) + 1) = (i : Int) + 1 := IntWalk.i64_in _ (by omega)
    obtain ⟨out, hout⟩ : ∃ out, out = chS (l.take i) := ⟨_, rfl⟩
    rw [← hout] at hr LB hct
    have Hct := Lib.hid hct
    clear hout hct hmem hs1 hs2 hs3 hi hlt hsm hat
    generalize l.getD i sesZ = x at *
    obtain ⟨p0, p1, p2, p3, p4, p5, p6, p7, p8, p9, p10, p11⟩ := hx
    have q1 : ((1 : Nat) + x.cookie.size ≤ 9223372036854775807) = True := eq_true (by omega)
    have q2 : (9223372036854775807 < (1 : Nat) + x.cookie.size) = False := eq_false (by omega)
    have hu : (⟨#[115]⟩ : ByteArray) ++ x.cookie = skey x.cookie := rfl
    generalize skey x.cookie = KK at *
    generalize sesT x = V at *
    simp only [sesV] at hse
    clear hck
    go_upto_region 7 with (fail)
    have hB7 := below_drew hB
    have hr7 := Kd.R_drew hr
    refine start_ (n := 16) (S := fun w' => w'.cell? (ad.add (i * 12)) = some (.string x.cookie) ∧ w'.cell? ⟨(ad.add (i * 12)).block, (ad.add (i * 12)).off + 1, none⟩ = some (.string x.client) ∧ w'.cell? ⟨(ad.add (i * 12)).block, (ad.add (i * 12)).off + 2, none⟩ = some (.string x.redirect) ∧ w'.cell? ⟨(ad.add (i * 12)).block, (ad.add (i * 12)).off + 3, none⟩ = some (.string x.state) ∧ w'.cell? ⟨(ad.add (i * 12)).block, (ad.add (i * 12)).off + 4, none⟩ = some (.string x.nonce) ∧ w'.cell? ⟨(ad.add (i * 12)).block, (ad.add (i * 12)).off + 5, none⟩ = some (.string x.scope) ∧ w'.cell? ⟨(ad.add (i * 12)).block, (ad.add (i * 12)).off + 6, none⟩ = some (.string x.challenge) ∧ w'.cell? ⟨(ad.add (i * 12)).block, (ad.add (i * 12)).off + 7, none⟩ = some (.int .i64 x.stage) ∧ w'.cell? ⟨(ad.add (i * 12)).block, (ad.add (i * 12)).off + 8, none⟩ = some (.string x.conn) ∧ w'.cell? ⟨(ad.add (i * 12)).block, (ad.add (i * 12)).off + 9, none⟩ = some (.string x.upState) ∧ w'.cell? ⟨(ad.add (i * 12)).block, (ad.add (i * 12)).off + 10, none⟩ = some (.string x.upNonce) ∧ w'.cell? ⟨(ad.add (i * 12)).block, (ad.add (i * 12)).off + 11, none⟩ = some (.int .i64 x.ends)) (ds := []) #[false, false, false, false, false, false, false, false, false, false, false, false, false, false, false, false] (by kernel_rfl) rfl rfl ⟨cell_later hB7 p0, cell_later hB7 p1, cell_later hB7 p2, cell_later hB7 p3, cell_later hB7 p4, cell_later hB7 p5, cell_later hB7 p6, cell_later hB7 p7, cell_later hB7 p8, cell_later hB7 p9, cell_later hB7 p10, cell_later hB7 p11⟩ (fun hHeld => ?_)
    generalize wr.drew = w7 at hB7 hr7 hHeld ⊢
    refine pure_ (i := 0) (N := some 27) (v := ?_) (a' := ?_) #[true, false, false, false, false, false, false, false, false, false, false, false, false, false, false, false] rfl rfl (by kernel_rfl) (fun _ _ _ h => h) (Or.inl ⟨by rfl, ?_⟩) ?_ ?_
    rotate_left
    ·
     intro w'
     go_simp
     with_reducible rfl
    rotate_left
    ·
     simp only [Act.put, List.setIfInBounds_toArray, List.set_cons_zero, List.set_cons_succ, i64_w, i32_w]
     rfl
    refine pure_ (i := 1) (N := some 28) (v := ?_) (a' := ?_) #[true, true, false, false, false, false, false, false, false, false, false, false, false, false, false, false] rfl rfl (by kernel_rfl) (fun _ _ _ h => h) (Or.inl ⟨by rfl, ?_⟩) ?_ ?_
    rotate_left
    ·
     intro w'
     go_simp
     with_reducible rfl
    rotate_left
    ·
     simp only [Act.put, List.setIfInBounds_toArray, List.set_cons_zero, List.set_cons_succ, i64_w, i32_w]
     rfl
    refine pure_ (i := 2) (N := some 29) (v := ?_) (a' := ?_) #[true, true, true, false, false, false, false, false, false, false, false, false, false, false, false, false] rfl rfl (by kernel_rfl) (fun _ _ _ h => h) (Or.inl ⟨by rfl, ?_⟩) ?_ ?_
    rotate_left
    ·
     intro w'
     go_simp
     with_reducible rfl
    rotate_left
    ·
     simp only [Act.put, List.setIfInBounds_toArray, List.set_cons_zero, List.set_cons_succ, i64_w, i32_w]
     rfl
    refine pure_ (i := 3) (N := some 30) (v := ?_) (a' := ?_) #[true, true, true, true, false, false, false, false, false, false, false, false, false, false, false, false] rfl rfl (by kernel_rfl) (fun _ _ _ h => h) (Or.inl ⟨by rfl, ?_⟩) ?_ ?_
    rotate_left
    ·
     intro w'
     go_simp
     with_reducible rfl
    rotate_left
    ·
     simp only [Act.put, List.setIfInBounds_toArray, List.set_cons_zero, List.set_cons_succ, i64_w, i32_w]
     rfl
    refine pure_ (i := 4) (N := some 31) (v := ?_) (a' := ?_) #[true, true, true, true, true, false, false, false, false, false, false, false, false, false, false, false] rfl rfl (by kernel_rfl) (fun _ _ _ h => h) (Or.inl ⟨by rfl, ?_⟩) ?_ ?_
    rotate_left
    ·
     intro w'
     go_simp
     with_reducible rfl
    rotate_left
    ·
     simp only [Act.put, List.setIfInBounds_toArray, List.set_cons_zero, List.set_cons_succ, i64_w, i32_w]
     rfl
    refine pure_ (i := 7) (N := some 34) (v := ?_) (a' := ?_) #[true, true, true, true, true, false, false, true, false, false, false, false, false, false, false, false] rfl rfl (by kernel_rfl) (fun _ _ _ h => h) (Or.inl ⟨by rfl, ?_⟩) ?_ ?_
    rotate_left
    ·
     intro w'
     go_simp
     with_reducible rfl
    rotate_left
    ·
     simp only [Act.put, List.setIfInBounds_toArray, List.set_cons_zero, List.set_cons_succ, i64_w, i32_w]
     rfl
    refine pure_ (i := 8) (N := some 35) (v := ?_) (a' := ?_) #[true, true, true, true, true, false, false, true, true, false, false, false, false, false, false, false] rfl rfl (by kernel_rfl) (fun _ _ _ h => h) (Or.inl ⟨by rfl, ?_⟩) ?_ ?_
    rotate_left
    ·
     intro w'
     go_simp
     with_reducible rfl
    rotate_left
    ·
     simp only [Act.put, List.setIfInBounds_toArray, List.set_cons_zero, List.set_cons_succ, i64_w, i32_w]
     rfl
    refine pure_ (i := 9) (N := some 36) (v := ?_) (a' := ?_) #[true, true, true, true, true, false, false, true, true, true, false, false, false, false, false, false] rfl rfl (by kernel_rfl) (fun _ _ _ h => h) (Or.inl ⟨by rfl, ?_⟩) ?_ ?_
    rotate_left
    ·
     intro w'
     go_simp
     with_reducible rfl
    rotate_left
    ·
     simp only [Act.put, List.setIfInBounds_toArray, List.set_cons_zero, List.set_cons_succ, i64_w, i32_w]
     rfl
    refine take_ (i := 5) (N := some 32) (v := ?_) (a' := ?_) #[true, true, true, true, true, true, false, true, true, true, false, false, false, false, false, false] rfl rfl (by kernel_rfl) (fun _ _ _ h => h) (Or.inl ⟨by rfl, ?_⟩) hHeld ?_ ?_
    rotate_left
    ·
     rintro w' ⟨s0, s1, s2, s3, s4, s5, s6, s7, s8, s9, s10, s11⟩
     go_simp
     with_reducible rfl
    rotate_left
    ·
     simp only [Act.put, List.setIfInBounds_toArray, List.set_cons_zero, List.set_cons_succ, i64_w, i32_w]
     rfl
    refine pure_ (i := 6) (N := some 33) (v := ?_) (a' := ?_) #[true, true, true, true, true, true, true, true, true, true, false, false, false, false, false, false] rfl rfl (by kernel_rfl) (fun _ _ _ h => h) (Or.inl ⟨by rfl, ?_⟩) ?_ ?_
    rotate_left
    ·
     intro w'
     go_simp
     with_reducible rfl
    rotate_left
    ·
     simp only [Act.put, List.setIfInBounds_toArray, List.set_cons_zero, List.set_cons_succ, i64_w, i32_w]
     rfl
    refine take_ (i := 10) (N := some 37) (v := ?_) (a' := ?_) #[true, true, true, true, true, true, true, true, true, true, true, false, false, false, false, false] rfl rfl (by kernel_rfl) (fun _ _ _ h => h) (Or.inl ⟨by rfl, ?_⟩) hHeld ?_ ?_
    rotate_left
    ·
     rintro w' ⟨s0, s1, s2, s3, s4, s5, s6, s7, s8, s9, s10, s11⟩
     go_simp
     with_reducible rfl
    rotate_left
    ·
     simp only [Act.put, List.setIfInBounds_toArray, List.set_cons_zero, List.set_cons_succ, i64_w, i32_w]
     rfl
    refine one_ (i := 11) (N := some 38) #[true, true, true, true, true, true, true, true, true, true, true, true, false, false, false, false] rfl rfl (by kernel_rfl) (by decide) (fun K hK => ?_)
    refine goes_ Tryz.func40 (by kernel_rfl) rfl #[.agg #[.string x.cookie, .string x.client, .string x.redirect, .string x.state, .string x.nonce, .string x.scope, .string x.challenge, .int .i64 x.stage, .string x.conn, .string x.upState, .string x.upNonce, .int .i64 x.ends]] (by rfl) rfl rfl (by simp only [List.map_toArray, List.map_cons, List.map_nil]; rfl) ?_
    with_reducible refine (hse w7).mono ?_
    rintro e w8 ⟨rfl, hb8⟩
    refine ⟨_, rfl, ?_⟩
    have hB8 := below_then hB7 hB7.size hb8
    have hr8 := Kd.R_below hr7 hb8
    refine hK.out _ _ ⟨cell_later hB8 p0, cell_later hB8 p1, cell_later hB8 p2, cell_later hB8 p3, cell_later hB8 p4, cell_later hB8 p5, cell_later hB8 p6, cell_later hB8 p7, cell_later hB8 p8, cell_later hB8 p9, cell_later hB8 p10, cell_later hB8 p11⟩ (fun hHeld => ?_)
    clear hK K
    refine norm_ (a' := ?_) ?_ ?_
    rotate_left
    ·
     show Act.put _ (some 38) _ = _
     simp only [Act.put, List.setIfInBounds_toArray, List.set_cons_zero, List.set_cons_succ, i64_w, i32_w]
     rfl
    refine pure_ (i := 12) (N := some 39) (v := ?_) (a' := ?_) #[true, true, true, true, true, true, true, true, true, true, true, true, true, false, false, false] rfl rfl (by kernel_rfl) (fun _ _ _ h => h) (Or.inl ⟨by rfl, ?_⟩) ?_ ?_
    rotate_left
    ·
     intro w'
     go_simp
     with_reducible rfl
    rotate_left
    ·
     simp only [Act.put, List.setIfInBounds_toArray, List.set_cons_zero, List.set_cons_succ, i64_w, i32_w]
     rfl
    refine one_ (i := 13) (N := some 40) #[true, true, true, true, true, true, true, true, true, true, true, true, true, true, false, false] rfl rfl (by kernel_rfl) (by decide) (fun K hK => ?_)
    refine value_ (w1 := ?_) (v := ?_) (by rfl) rfl ?_ ?_
    rotate_left 2
    ·
     go_simp
     constructor
     ·
      rfl
     ·
      rfl
    refine hK.out _ _ ⟨cell_later (below_alloc hB8 (.cells #[.string KK, .string V, .bool false] 69)) p0, cell_later (below_alloc hB8 (.cells #[.string KK, .string V, .bool false] 69)) p1, cell_later (below_alloc hB8 (.cells #[.string KK, .string V, .bool false] 69)) p2, cell_later (below_alloc hB8 (.cells #[.string KK, .string V, .bool false] 69)) p3, cell_later (below_alloc hB8 (.cells #[.string KK, .string V, .bool false] 69)) p4, cell_later (below_alloc hB8 (.cells #[.string KK, .string V, .bool false] 69)) p5, cell_later (below_alloc hB8 (.cells #[.string KK, .string V, .bool false] 69)) p6, cell_later (below_alloc hB8 (.cells #[.string KK, .string V, .bool false] 69)) p7, cell_later (below_alloc hB8 (.cells #[.string KK, .string V, .bool false] 69)) p8, cell_later (below_alloc hB8 (.cells #[.string KK, .string V, .bool false] 69)) p9, cell_later (below_alloc hB8 (.cells #[.string KK, .string V, .bool false] 69)) p10, cell_later (below_alloc hB8 (.cells #[.string KK, .string V, .bool false] 69)) p11⟩ (fun hHeld => ?_)
    clear hK K
    refine norm_ (a' := ?_) ?_ ?_
    rotate_left
    ·
     show Act.put _ (some 40) _ = _
     simp only [Act.put, List.setIfInBounds_toArray, List.set_cons_zero, List.set_cons_succ, i64_w, i32_w]
     rfl
    refine one_ (i := 14) (N := some 41) #[true, true, true, true, true, true, true, true, true, true, true, true, true, true, true, false] rfl rfl (by kernel_rfl) (by decide) (fun K hK => ?_)
    refine Kd.R_append_step k69 (w0 := w) w.heap.size (by rfl) (.tmp 27) (.tmp 40) 35 69 (.agg #[.string ⟨#[]⟩, .string ⟨#[]⟩, .bool false]) 40 rfl Tryz.underlying35 (by kernel_rfl) rfl (by decide) (by decide) u5 out (⟨KK, V, false⟩ : S69) [.string KK, .string V, .bool false] (fun _ => True) (fun _ => False) rfl rfl ?aP (fun _ hk => hk.elim) ?aF ?aO ?aB ?aS ?aL ?_
    case aP => exact k69_mkM _ _ _ (⟨KK, V, false⟩ : S69)
    case aB => exact hB8
    case aF => exact (fun _ _ => trivial)
    case aO => exact hr8
    case aS => exact hB8.size
    case aL => exact LB.out
    intro v9 w9 ho9 hb9 hg9 hat9
    refine hK.out _ _ ⟨cell_later hb9 p0, cell_later hb9 p1, cell_later hb9 p2, cell_later hb9 p3, cell_later hb9 p4, cell_later hb9 p5, cell_later hb9 p6, cell_later hb9 p7, cell_later hb9 p8, cell_later hb9 p9, cell_later hb9 p10, cell_later hb9 p11⟩ (fun hHeld => ?_)
    clear hK K
    refine norm_ (a' := ?_) ?_ ?_
    rotate_left
    ·
     show Act.put _ (some 41) _ = _
     simp only [Act.put, List.setIfInBounds_toArray, List.set_cons_zero, List.set_cons_succ, i64_w, i32_w]
     rfl
    refine pure_ (i := 15) (N := some 5) (v := ?_) (a' := ?_) #[true, true, true, true, true, true, true, true, true, true, true, true, true, true, true, true] rfl rfl (by kernel_rfl) (fun _ _ _ h => h) (Or.inl ⟨by rfl, ?_⟩) ?_ ?_
    rotate_left
    ·
     intro w'
     go_simp
     with_reducible rfl
    rotate_left
    ·
     simp only [Act.put, List.setIfInBounds_toArray, List.set_cons_zero, List.set_cons_succ, i64_w, i32_w]
     rfl
    refine done_ (by kernel_rfl) ?_
    go_wp2_with fail
    refine ⟨⟨i + 1, rfl, Hi.out, ?_, hb9⟩, ?_⟩
    ·
     rw [Hct.out]; exact ho9
    ·
     have := Hi.out; simp only [intOf]; omega
   ·
    have d2 : decide ((i : Int) < (l.length : Int)) = false := decide_eq_false (by omega)
    have d2' : decide (i < l.length) = false := decide_eq_false hlt
    have hil : i = l.length := by omega
    rw [hil, List.take_length] at hr
    have hcl : (chS l).length = l.length := by unfold chS; exact List.length_map _
    have hcx : ∀ x ∈ chS l, x.f0.size ≤ 2000000000000000000 ∧ x.f1.size ≤ 2000000000000000000 := by
     intro y hy
     obtain ⟨x, hx, rfl⟩ := List.mem_map.1 hy
     obtain ⟨hs1, hs2, hs3⟩ := hsm x hx
     have h1 := sesL_big2 x hs1 hs2 hs3
     have h2 := sesT_size x
     have h3 := skey_size x.cookie
     have h4 : x.cookie.size ≤ 140737488351232 := hs3.1
     simp only
     omega
    obtain ⟨Ao, co, e5⟩ := Kd.R_slice hr
    subst e5
    have hrd := Kd.R_reads' hr
    have hst := stored19w_says wr Ao co (chS l) hrd.2.2 hrd.2.1 (by omega) hcx (hGL.below hB)
    have hss := fun h => stored_small2 (l := chS l) h (by omega)
    clear hcx hsm hat hrd hr hcl hil hlt hi hl hc
    generalize chS l = cl at *
    go_wp2_with fail
    refine hst.mono ?_
    clear hst
    rintro e w1 ⟨hb1, ⟨hsb, rfl⟩ | ⟨hsb, s, v, rfl, hS, hR⟩⟩
    ·
     have hB1 := below_then hB hB.size hb1
     clear hsb hss
     go_wp2_with fail
     refine (hans w1 hB1).mono ?_
     rintro e w2 ⟨rfl, hb2⟩
     go_wp2_with fail
     go_ret
     exact ⟨rfl, below_then hB1 hB1.size hb2⟩
    ·
     have hB1 := below_then hB hB.size hb1
     obtain ⟨hwg, hrl⟩ := hss hsb
     obtain ⟨A1, c1, rfl, hca, hC1⟩ := hR.slice
     have hGL0 := hGL.below hB
     clear hsb hss hC1
     generalize turnR [] cl = r at *
     have hgs := getR_small hwg
     obtain ⟨hk1, hk2, hk3⟩ := keys_facts r hwg ⟨#[115]⟩
     have hgs2 : ∀ k v, getR r k = some v → v.size ≤ 4294967280 := fun k v h => by have := hgs k v h; omega
     have hwg2 := swept_wgt r now
     have hgs3 : ∀ k v, getR (swept r now) k = some v → v.size ≤ 4294967280 := fun k v h => by have := getR_small hwg2 k v h; omega
     have hkk := swept_keys r now
     have hfind := swept_find r now
     have hslen := swp_len (fun c => (findS r c now).isSome) ((r.map fun x => x.f0).filter fun k => preB k ⟨#[115]⟩)
     have hswg := swp_wgt (fun c => (findS r c now).isSome) (fun k => preB k ⟨#[115]⟩) r
     have hsw := sweep_core wr.heap.size s 3300000000200 r now _ rfl hk1 (fun k h => by have := hk2 k h; omega) (by omega) (fun c => hgs2 (skey c)) w1 hS (by omega) (hGP.below hB1) (hGE.below hB1)
     have hrec : (recL (swp (fun c => (findS r c now).isSome) ((r.map fun x => x.f0).filter fun k => preB k ⟨#[115]⟩))).length ≤ 32768 := by
      have h1 := recL_small (swp (fun c => (findS r c now).isSome) ((r.map fun x => x.f0).filter fun k => preB k ⟨#[115]⟩))
      have h2 := wgtC_small (swp (fun c => (findS r c now).isSome) ((r.map fun x => x.f0).filter fun k => preB k ⟨#[115]⟩))
      omega
     have hLx : ∀ x ∈ swp (fun c => (findS r c now).isSome) ((r.map fun x => x.f0).filter fun k => preB k ⟨#[115]⟩), x.f0.size ≤ maxLen ∧ x.f1.size ≤ maxLen := by
      intro y hy
      obtain ⟨k, hk, rfl⟩ := List.mem_map.1 hy
      have := hk2 k (List.mem_filter.1 hk).1
      unfold maxLen
      refine ⟨?_, ?_⟩
      ·
       show k.size ≤ _; omega
      ·
       show (0 : Nat) ≤ _; omega
     obtain ⟨L, hL⟩ : ∃ L, L = swp (fun c => (findS r c now).isSome) ((r.map fun x => x.f0).filter fun k => preB k ⟨#[115]⟩) := ⟨_, rfl⟩
     have hsq : turnR r L = swept r now := by rw [hL]; rfl
     rw [← hL] at hslen hswg hsw hrec hLx
     have hwl : 4 + wgt (turnR r L) ≤ 32768 := by rw [hsq]; omega
     have hdo := fun A c w' (hB' : Below wr.heap.size wr w') (hS' : StW wr.heap.size w' s r 3300000000200) hC hc => wdo_says s 3300000000200 r A c L wr w' hGL0 hB' hS' hC hc (by omega) hrec hwl (by omega) hLx
     simp only [hsq] at hdo
     have hct := count_take ((r.map fun x => x.f0).filter fun k => preB k ⟨#[115]⟩) (fun k => (findS r (tlB k) now).isSome)
     have hrk := fun w' (hC : Kd.C k82 w' A1 r.length r) => rkeys_says A1 c1 r ⟨#[115]⟩ w' hC hca (by omega)
     have hwk := fun N w' (hS' : StW wr.heap.size w' s (swept r now) N) (hN : N ≤ 3400000000000) => wkeys_says wr.heap.size s N (swept r now) ⟨#[115]⟩ w' hS' hN
     have hwas := fun c (hc : c.size ≤ 1000000) w' (hC : Kd.C k82 w' A1 r.length r) => seat_says A1 c1 r c now hc (hgs2 _) w' hC hca (by omega)
     have his := fun c (hc : c.size ≤ 1000000) N w' (hS' : StW wr.heap.size w' s (swept r now) N) (hG : GP w') (hE : GE w') => find_says wr.heap.size s N (swept r now) c now hc (hgs3 _) w' hS' hG hE
     simp only [hfind] at his
     rw [hkk] at hwk
     have hkz : ∀ k ∈ ((r.map fun x => x.f0).filter fun k => preB k ⟨#[115]⟩), k.size ≤ 20300 := hk2
     have hsl3 : L.length ≤ 20 := by omega
     have hkl : ((r.map fun x => x.f0).filter fun k => preB k ⟨#[115]⟩).length ≤ 20 := by omega
     clear hgs hgs2 hgs3 hwg2 hkk hfind hslen hswg hrec hLx hsq hk2 hk3 hwg hrl hL hwl
     generalize swept r now = r2 at *
     generalize ((r.map fun x => x.f0).filter fun k => preB k ⟨#[115]⟩) = ks at *
     obtain ⟨fs, hfs⟩ : ∃ fs : ByteArray → Option Ses, fs = fun c => findS r c now := ⟨_, rfl⟩
     have hfs2 : ∀ c, findS r c now = fs c := fun c => by rw [hfs]
     simp only [hfs2, sesV] at hwas his hct hwk
     clear hfs hfs2
     go_wp2_with fail
     refine hsw.mono ?_
     clear hsw
     rintro e w2 ⟨v2, rfl, hr2, hb2⟩
     obtain ⟨A2, c2, e2⟩ := Kd.R_slice hr2
     subst e2
     have hd2 := Kd.R_reads' hr2
     have hb02 := below_then hb1 hb1.size hb2
     go_wp2_with fail
     refine (hdo A2 c2 w2 hb02 (hS.below hb2) hd2.2.2 hd2.2.1).mono ?_
     clear hdo hd2
     rintro e w3 ⟨rfl, ht3, hS3⟩
     have hS3 := hS3.mono (N' := 3300000000220) (by omega)
     have hB2 := below_then hB1 hB1.size hb2
     have hb03 := hb02.trans (ht3.below hb02.size)
     have hR3 := (hR.below hb2).turO ht3
     obtain ⟨A9, c9, e9, _, hC3⟩ := hR3.slice
     simp only [Value.slice.injEq, true_and] at e9
     obtain ⟨rfl, rfl⟩ := e9
     have hB3 := below_then hB hB.size hb03
     clear hR hR3 hr2 ht3 hb02 hb03 hS
     go_wp2_with fail
     refine (hrk w3 hC3).mono ?_
     clear hrk
     rintro e w4 ⟨v4, rfl, hr4, hb4⟩
     obtain ⟨A4, c4, e4⟩ := Kd.R_slice hr4
     subst e4
     have hrd4 := (Kd.R_reads' hr4).2.2
     have hC4 := Kd.C_below hC3 hb4
     have hS4 := hS3.below hb4
     have hB4 := below_then hB3 hB3.size hb4
     clear hr4 hC3 hS3
     go_wp2_with fail
     go_loopw [10, 12] (fun v10 v12 wq => ∃ i : Nat, v12 = .int .i64 i ∧ i ≤ ks.length ∧ v10 = .int .i64 (((ks.take i).filter fun k => (fs (tlB k)).isSome).length : Nat) ∧ Below w4.heap.size w4 wq) (fun _ v12 _ => ks.length - (intOf v12).toNat)
     case atStart => exact ⟨0, rfl, Nat.zero_le _, by simp, Below.refl _ w4⟩
     case round =>
      obtain ⟨i, rfl, hi, rfl, hbq⟩ := hrel
      have hBq := below_then hB4 hB4.size hbq
      by_cases hlt : i < ks.length
      ·
       have d3 : decide ((i : Int) < (ks.length : Int)) = true := decide_eq_true (by omega)
       have d3' : decide (i < ks.length) = true := decide_eq_true hlt
       obtain ⟨ad, rfl, hx⟩ := Kd.at_string (Kd.C_below hrd4 hbq) (i : Int) (by omega) (by omega)
       have i3 : ((i : Int) < (ks.length : Int)) = True := eq_true (by omega)
       have i4 : (i < ks.length) = True := eq_true hlt
       have i0 : (0 ≤ (i : Int)) = True := eq_true (by omega)
       have e1 : IntKind.i64.wrap ((i : Int) + 1) = (i : Int) + 1 := IntWalk.i64_in _ (by omega)
       simp only [Int.toNat_natCast] at hx
       have hxg : rdOf ByteArray.empty ks (i : Int) = ks.getD i ByteArray.empty := by unfold rdOf; rw [Int.toNat_natCast]
       have hmem : ks.getD i ByteArray.empty ∈ ks := by simp [List.getD_eq_getElem?_getD, List.getElem?_eq_getElem hlt]
       have hxs := hkz _ hmem
       have hxp := skey_tl (hk1 _ hmem)
       have hcti := hct i hlt
       rw [hxg] at hx
       clear hxg hmem
       have hnl : ((ks.take i).filter fun k => (fs (tlB k)).isSome).length ≤ 20 := by
        have h1 := List.length_filter_le (fun k => (fs (tlB k)).isSome) (ks.take i)
        rw [List.length_take] at h1
        omega
       obtain ⟨n, hn⟩ : ∃ n, n = ((ks.take i).filter fun k => (fs (tlB k)).isSome).length := ⟨_, rfl⟩
       rw [← hn] at hcti hnl ⊢
       generalize ks.getD i ByteArray.empty = x at *
       obtain ⟨_, hx1⟩ := hxp
       have hts := tlB_size x
       have hwt := hwas (tlB x) (by omega) wr (Kd.C_below hC4 hbq)
       have hit := fun N w' hS' hG hE => his (tlB x) (by omega) N w' hS' hG hE
       have hext : x.extract 1 x.size = tlB x := rfl
       have q1 : (1 ≤ x.size) = True := eq_true hx1
       have q2 : ((1 : Int) ≤ (x.size : Int)) = True := eq_true (by omega)
       have u1 : IntKind.i64.wrap ((n : Int) + 1) = (n : Int) + 1 := IntWalk.i64_in _ (by omega)
       have Hi := Lib.hid (show i + 1 ≤ ks.length by omega)
       have Hct := Lib.hid hcti
       clear hcti hn hnl hts hx1 hxs hlt hi hkz hk1 hct hwas his hkl hsl3
       generalize tlB x = t at *
       have hSq := hS4.below hbq
       cases hft : fs t with
       | none =>
        have Hc : RowKit.Hid (((ks.take (i + 1)).filter fun k => (fs (tlB k)).isSome).length = n) := Lib.hid (by rw [Hct.out, hft]; rfl)
        rw [hft] at hwt hit
        simp only [Option.getD_none, Option.isSome_none, sesZ] at hwt hit
        clear Hct hft
        go_wp2_with fail
        refine hwt.mono ?_
        rintro e w5 ⟨rfl, hb5⟩
        have hx5 := cell_later (below_alloc (Below.refl _ w5) (.cells #[.string ⟨#[]⟩, .string ⟨#[]⟩, .string ⟨#[]⟩, .string ⟨#[]⟩, .string ⟨#[]⟩, .string ⟨#[]⟩, .string ⟨#[]⟩, .int .i64 0, .string ⟨#[]⟩, .string ⟨#[]⟩, .string ⟨#[]⟩, .int .i64 0] 72)) (cell_later hb5 hx)
        have hS5 := (hSq.below hb5).below (below_alloc (Below.refl _ w5) (.cells #[.string ⟨#[]⟩, .string ⟨#[]⟩, .string ⟨#[]⟩, .string ⟨#[]⟩, .string ⟨#[]⟩, .string ⟨#[]⟩, .string ⟨#[]⟩, .int .i64 0, .string ⟨#[]⟩, .string ⟨#[]⟩, .string ⟨#[]⟩, .int .i64 0] 72))
        have hB5 := below_alloc (below_then hBq hBq.size hb5) (.cells #[.string ⟨#[]⟩, .string ⟨#[]⟩, .string ⟨#[]⟩, .string ⟨#[]⟩, .string ⟨#[]⟩, .string ⟨#[]⟩, .string ⟨#[]⟩, .int .i64 0, .string ⟨#[]⟩, .string ⟨#[]⟩, .string ⟨#[]⟩, .int .i64 0] 72)
        have hb45 := below_alloc (below_then hbq hbq.size hb5) (.cells #[.string ⟨#[]⟩, .string ⟨#[]⟩, .string ⟨#[]⟩, .string ⟨#[]⟩, .string ⟨#[]⟩, .string ⟨#[]⟩, .string ⟨#[]⟩, .int .i64 0, .string ⟨#[]⟩, .string ⟨#[]⟩, .string ⟨#[]⟩, .int .i64 0] 72)
        go_wp2_with fail
        refine (hit _ _ hS5 (hGP.below hB5) (hGE.below hB5)).mono ?_
        generalize w5.alloc (.cells #[.string ⟨#[]⟩, .string ⟨#[]⟩, .string ⟨#[]⟩, .string ⟨#[]⟩, .string ⟨#[]⟩, .string ⟨#[]⟩, .string ⟨#[]⟩, .int .i64 0, .string ⟨#[]⟩, .string ⟨#[]⟩, .string ⟨#[]⟩, .int .i64 0] 72) = w6 at hx5 hS5 hB5 hb45 ⊢
        rintro e w7 ⟨rfl, hb7⟩
        go_wp2_with fail
        refine ⟨⟨i + 1, rfl, Hi.out, ?_, below_alloc (below_then hb45 hb45.size hb7) _⟩, ?_⟩
        ·
         rw [Hc.out]
        ·
         have := Hi.out; simp only [intOf]; omega
       | some y =>
        have Hc : RowKit.Hid (((ks.take (i + 1)).filter fun k => (fs (tlB k)).isSome).length = n + 1) := Lib.hid (by rw [Hct.out, hft]; rfl)
        rw [hft] at hwt hit
        simp only [Option.getD_some, Option.isSome_some] at hwt hit
        clear Hct hft
        go_wp2_with fail
        refine hwt.mono ?_
        rintro e w5 ⟨rfl, hb5⟩
        have hx5 := cell_later (below_alloc (Below.refl _ w5) (.cells #[.string y.cookie, .string y.client, .string y.redirect, .string y.state, .string y.nonce, .string y.scope, .string y.challenge, .int .i64 y.stage, .string y.conn, .string y.upState, .string y.upNonce, .int .i64 y.ends] 72)) (cell_later hb5 hx)
        have hS5 := (hSq.below hb5).below (below_alloc (Below.refl _ w5) (.cells #[.string y.cookie, .string y.client, .string y.redirect, .string y.state, .string y.nonce, .string y.scope, .string y.challenge, .int .i64 y.stage, .string y.conn, .string y.upState, .string y.upNonce, .int .i64 y.ends] 72))
        have hB5 := below_alloc (below_then hBq hBq.size hb5) (.cells #[.string y.cookie, .string y.client, .string y.redirect, .string y.state, .string y.nonce, .string y.scope, .string y.challenge, .int .i64 y.stage, .string y.conn, .string y.upState, .string y.upNonce, .int .i64 y.ends] 72)
        have hb45 := below_alloc (below_then hbq hbq.size hb5) (.cells #[.string y.cookie, .string y.client, .string y.redirect, .string y.state, .string y.nonce, .string y.scope, .string y.challenge, .int .i64 y.stage, .string y.conn, .string y.upState, .string y.upNonce, .int .i64 y.ends] 72)
        go_wp2_with fail
        refine (hit _ _ hS5 (hGP.below hB5) (hGE.below hB5)).mono ?_
        generalize w5.alloc (.cells #[.string y.cookie, .string y.client, .string y.redirect, .string y.state, .string y.nonce, .string y.scope, .string y.challenge, .int .i64 y.stage, .string y.conn, .string y.upState, .string y.upNonce, .int .i64 y.ends] 72) = w6 at hx5 hS5 hB5 hb45 ⊢
        rintro e w7 ⟨rfl, hb7⟩
        go_wp2_with fail
        refine ⟨⟨i + 1, rfl, Hi.out, ?_, below_alloc (below_then hb45 hb45.size hb7) _⟩, ?_⟩
        ·
         rw [Hc.out]; rfl
        ·
         have := Hi.out; simp only [intOf]; omega
      ·
       have d3 : decide ((i : Int) < (ks.length : Int)) = false := decide_eq_false (by omega)
       have d3' : decide (i < ks.length) = false := decide_eq_false hlt
       have hil : i = ks.length := by omega
       rw [show ks.take i = ks by rw [hil, List.take_length]]
       have hw9 := fun w' hS' => hwk 3300000000220 w' hS' (by omega)
       clear hlt hi hil hkz hk1 hct hwas his hkl hsl3 hwk
       generalize (ks.filter fun k => (fs (tlB k)).isSome) = kf at *
       go_wp2_with fail
       refine (hans wr hBq).mono ?_
       rintro e w5 ⟨rfl, hb5⟩
       have hB5 := below_then hBq hBq.size hb5
       go_wp2_with fail
       refine (hw9 w5 (hS4.below (below_then hbq hbq.size hb5))).mono ?_
       rintro e w6 ⟨v6, rfl, hr6, hb6⟩
       obtain ⟨A6, c6, e6⟩ := Kd.R_slice hr6
       subst e6
       go_wp2_with fail
       go_ret
       exact ⟨rfl, below_then hB5 hB5.size hb6⟩
 ·
  have d1 : decide ((20 : Int) < (l.length : Int)) = true := decide_eq_true (by omega)
  have d1' : decide (20 < l.length) = true := decide_eq_true (by omega)
  go_enter Tryz.func8, Tryz.ntmps8
  go_wp2_with fail
  refine (hans w (Below.refl _ _)).mono ?_
  rintro e w2 ⟨rfl, hb2⟩
  go_wp2_with fail
  go_ret
  exact ⟨rfl, hb2⟩
theorem SeatSweeps_in (W : World) (a : Option Addr) (len cap : Nat) (h : SessIn W a len cap) (now : Int) (hn : (Lit.int .i64 now).wf = true) (hGL : GL W) (hGP : GP W) (hGE : GE W) :
  Calls Tryz.prog 8 #[.slice a len cap, .int .i64 now] W fun e w' => e = .returned (.bool true) ∧ Below W.heap.size W w' := by
 obtain ⟨l, rfl, h1, h2, h3, h4⟩ := h
 exact SeatSweeps_walk W a cap l h1 h2 h3 h4 now hGL hGP hGE
end Go.Proofs.YtpoblffgclmmlaaGreatDoor.X
end
