/- A part of the proof of a card: what some functions of the program come to, each under the conditions that its theorem names. -/
import Derived.Test.YtpoblffgclmmlaaGreatDoorPkPk22
section
set_option linter.unusedVariables false
set_option linter.unusedSimpArgs false
namespace Go.Proofs.YtpoblffgclmmlaaGreatDoor.X
open Go.RowKit Go.WideMaps Go.Maps Go.Proofs.YtpoblffgclmmlaaGreatDoorW.PrintWords Go.Proofs.YtpoblffgclmmlaaGreatDoorW.PrintLast Go.Proofs.YtpoblffgclmmlaaGreatDoorW.PrintMore Go.Proofs.YtpoblffgclmmlaaGreatDoor.Q

theorem wgt_mem {r : List S82} {x : S82} (h : x ∈ r) : 12 + x.f0.size + x.f1.size ≤ wgt r := by
 unfold wgt
 induction r with
 | nil => cases h
 | cons y r ih =>
  simp only [List.map_cons, List.sum_cons]
  rcases List.mem_cons.1 h with e | e
  ·
   subst e; omega
  ·
   have := ih e; omega
theorem stored_small {l : List S69} (h : storedB l = true) : wgt (turnR [] l) ≤ 30000 ∧ (turnR [] l).length ≤ 200 := by
 have h2 := of_decide_eq_true h
 have h3 := wgt_turn (r := []) List.Pairwise.nil l
 have h4 := wgtC_small l
 have h5 := turnR_len [] l List.Pairwise.nil
 have h6 : wgt [] = 0 := rfl
 simp only [List.length_nil] at h5
 omega
theorem getR_small {r : List S82} {n : Nat} (h : wgt r ≤ n) : ∀ k v, getR r k = some v → v.size ≤ n := by
 intro k v hv
 unfold getR at hv
 obtain ⟨x, hx, e⟩ := Option.map_eq_some_iff.1 hv
 have := wgt_mem (List.mem_of_find?_eq_some hx)
 subst e; omega
theorem keys_facts (r : List S82) {n : Nat} (h : wgt r ≤ n) (p : ByteArray) : (∀ k ∈ ((r.map fun x => x.f0).filter fun k => preB k p), preB k p = true) ∧ (∀ k ∈ ((r.map fun x => x.f0).filter fun k => preB k p), k.size ≤ n) ∧ ((r.map fun x => x.f0).filter fun k => preB k p).length ≤ r.length := by
 refine ⟨fun k hk => (List.mem_filter.1 hk).2, fun k hk => ?_, ?_⟩
 ·
  obtain ⟨x, hx, rfl⟩ := List.mem_map.1 (List.mem_filter.1 hk).1
  have := wgt_mem hx
  omega
 ·
  have := List.length_filter_le (fun k => preB k p) (r.map fun x => x.f0)
  rwa [List.length_map] at this
set_option maxHeartbeats 8000000 in
set_option maxRecDepth 100000 in
theorem SeatFinds_walk (w : World) (A : Option Addr) (c : Nat) (l : List S69) (hC : Kd.C k69 w A l.length l) (hc : l.length ≤ c) (hl : l.length ≤ 4000000000000) (hx : ∀ x ∈ l, x.f0.size ≤ 140737488351232 ∧ x.f1.size ≤ 140737488351232)
  (cookie : ByteArray) (now : Int) (h0 : cookie.size ≤ 140737488351232) (hGL : GL w) (hGP : GP w) (hGE : GE w) :
  Calls Tryz.prog 7 #[.slice A l.length c, .string cookie, .int .i64 now] w fun e w' => e = .returned (.bool true) ∧ Below w.heap.size w w' := by
 have hst := stored19_says w A c l hC hc hl hx hGL
 have hans := fun w2 (hb : Below w.heap.size w w2) => answers19_says w2 (hGL.below hb) (hGP.below hb) (hGE.below hb)
 go_enter Tryz.func7, Tryz.ntmps7
 go_wp2_with fail
 refine hst.mono ?_
 clear hst
 rintro e w1 ⟨hb1, ⟨hsb, rfl⟩ | ⟨hsb, s, v, rfl, hS, hR⟩⟩
 ·
  clear hsb
  go_wp2_with fail
  refine (hans w1 hb1).mono ?_
  rintro e w2 ⟨rfl, hb2⟩
  go_wp2_with fail
  go_ret
  exact ⟨rfl, below_then hb1 hb1.size hb2⟩
 ·
  obtain ⟨hwg, hrl⟩ := stored_small hsb
  clear hsb
  by_cases hbig : cookie.size ≤ 1000
  ·
   have d1 : decide ((1000 : Int) < (cookie.size : Int)) = false := decide_eq_false (by omega)
   obtain ⟨A1, c1, rfl, hca, hC1⟩ := hR.slice
   have hgs := getR_small hwg
   obtain ⟨hk1, hk2, hk3⟩ := keys_facts (turnR [] l) hwg ⟨#[115]⟩
   have hrm : ∀ x ∈ turnR [] l, x.f1.size ≤ 4294967280 := fun x hx => by have := wgt_mem hx; omega
   have hgs2 : ∀ k v, getR (turnR [] l) k = some v → v.size ≤ 4294967280 := fun k v h => by have := hgs k v h; omega
   clear hgs hwg hx hl hC hc hR
   generalize turnR [] l = r at *
   have hfd := fun w' (hb : Below w1.heap.size w1 w') (hB : Below w.heap.size w w') => find_says w.heap.size s 3300000000200 r cookie now (by omega) (hgs2 _) w' (hS.below hb) (hGP.below hB) (hGE.below hB)
   have hse := fun w' (hb : Below w1.heap.size w1 w') => seat_says A1 c1 r cookie now (by omega) (hgs2 _) w' (Kd.C_below hC1 hb) hca (by omega)
   have hsw := fun w' (hb : Below w1.heap.size w1 w') (hB : Below w.heap.size w w') => sweep_core w.heap.size s 3300000000200 r now _ rfl hk1 (fun k h => by have := hk2 k h; omega) (by omega) (fun c => hgs2 (skey c)) w' (hS.below hb) (by omega) (hGP.below hB) (hGE.below hB)
   have hsq := fun w' (hb : Below w1.heap.size w1 w') => seats_core A1 c1 r now _ rfl hk1 (fun k h => by have := hk2 k h; omega) (by omega) (fun c => hgs2 (skey c)) w' (Kd.C_below hC1 hb) hca (by omega)
   have hsl := swp_len (fun c => (findS r c now).isSome) ((r.map fun x => x.f0).filter fun k => preB k ⟨#[115]⟩)
   obtain ⟨L, hL⟩ : ∃ L, L = swp (fun c => (findS r c now).isSome) ((r.map fun x => x.f0).filter fun k => preB k ⟨#[115]⟩) := ⟨_, rfl⟩
   simp only [← hL] at hsw hsq hsl
   have hLl : L.length ≤ 1000000000 := by omega
   have HL := Lib.hid hLl
   obtain ⟨y, hy⟩ : ∃ y, y = (findS r cookie now).getD sesZ := ⟨_, rfl⟩
   obtain ⟨b, hb⟩ : ∃ b, b = (findS r cookie now).isSome := ⟨_, rfl⟩
   simp only [← hy, ← hb, sesV] at hfd hse
   clear hy hb hL hsl hLl hk1 hk2 hk3 hgs2 hbig
   go_wp2_with fail
   go_loopw [10] (fun v10 wr => ∃ i : Nat, v10 = .int .i64 i ∧ i ≤ r.length ∧ Below w1.heap.size w1 wr) (fun v10 _ => r.length - (intOf v10).toNat)
   case atStart => exact ⟨0, rfl, Nat.zero_le _, Below.refl _ w1⟩
   case round =>
    obtain ⟨i, rfl, hi, hbr⟩ := hrel
    have hB := below_then hb1 hb1.size hbr
    by_cases hlt : i < r.length
    ·
     have d2 : decide ((i : Int) < (r.length : Int)) = true := decide_eq_true (by omega)
     obtain ⟨ad, rfl, hz0, hz1⟩ := at_T82 (Kd.C_below hC1 hbr) (i : Int) (by omega) (by omega)
     have hrd : rd_T82 r (i : Int) = r.getD i z82 := by unfold rd_T82; rw [Int.toNat_natCast]
     have hmem : r.getD i z82 ∈ r := by simp [List.getD_eq_getElem?_getD, List.getElem?_eq_getElem hlt]
     have hVs := hrm _ hmem
     rw [hrd] at hz0 hz1
     simp only [Int.toNat_natCast] at hz0 hz1
     obtain ⟨V, hV⟩ : ∃ V, V = (r.getD i z82).f1 := ⟨_, rfl⟩
     rw [← hV] at hVs hz1
     have i3 : ((i : Int) < (r.length : Int)) = True := eq_true (by omega)
     have i0 : (0 ≤ (i : Int)) = True := eq_true (by omega)
     have e1 : IntKind.i64.wrap ((i : Int) + 1) = (i : Int) + 1 := IntWalk.i64_in _ (by omega)
     have Hi := Lib.hid (show i + 1 ≤ r.length by omega)
     obtain ⟨x, bx, hx1, hx2, hread⟩ := rfses_says V hVs
     have hread := hread wr
     simp only [sesV] at hread
     clear hrm hmem hrd hV hz0 hlt hi hx2
     go_wp2_with fail
     refine hread.mono ?_
     rintro e w2 ⟨rfl, hb2⟩
     have hV1 := cell_later (below_alloc (Below.refl _ w2) (.cells #[.string x.cookie, .string x.client, .string x.redirect, .string x.state, .string x.nonce, .string x.scope, .string x.challenge, .int .i64 x.stage, .string x.conn, .string x.upState, .string x.upNonce, .int .i64 x.ends] 72)) (cell_later hb2 hz1)
     have hB3 := below_alloc (below_then hB hB.size hb2) (.cells #[.string x.cookie, .string x.client, .string x.redirect, .string x.state, .string x.nonce, .string x.scope, .string x.challenge, .int .i64 x.stage, .string x.conn, .string x.upState, .string x.upNonce, .int .i64 x.ends] 72)
     have hb3 := below_alloc (below_then hbr hbr.size hb2) (.cells #[.string x.cookie, .string x.client, .string x.redirect, .string x.state, .string x.nonce, .string x.scope, .string x.challenge, .int .i64 x.stage, .string x.conn, .string x.upState, .string x.upNonce, .int .i64 x.ends] 72)
     have hx3 := heap_alloc_new w2 (.cells #[.string x.cookie, .string x.client, .string x.redirect, .string x.state, .string x.nonce, .string x.scope, .string x.challenge, .int .i64 x.stage, .string x.conn, .string x.upState, .string x.upNonce, .int .i64 x.ends] 72)
     clear hread hz1
     go_upto_region 8 with (fail)
     generalize w2.alloc (.cells #[.string x.cookie, .string x.client, .string x.redirect, .string x.state, .string x.nonce, .string x.scope, .string x.challenge, .int .i64 x.stage, .string x.conn, .string x.upState, .string x.upNonce, .int .i64 x.ends] 72) = w3 at hV1 hB3 hb3 hx3 ⊢
     cases bx with
     | false =>
      have hB4 := below_drew hB3
      have hb4 := below_drew hb3
      refine start_ (n := 11) (S := fun w' => True) (ds := []) #[false, false, false, false, false, false, false, false, false, false, false] (by kernel_rfl) rfl rfl trivial (fun hHeld => ?_)
      generalize w3.drew = w4 at hB4 hb4 hHeld  ⊢
      refine pure_ (i := 0) (N := some 46) (v := ?_) (a' := ?_) #[true, false, false, false, false, false, false, false, false, false, false] rfl rfl (by kernel_rfl) (fun _ _ _ h => h) (Or.inl ⟨by rfl, ?_⟩) ?_ ?_
      rotate_left
      ·
       intro w'
       go_simp
       with_reducible rfl
      rotate_left
      ·
       simp only [Act.put, List.setIfInBounds_toArray, List.set_cons_zero, List.set_cons_succ, i64_w, i32_w]
       rfl
      refine pure_ (i := 1) (N := some 47) (v := ?_) (a' := ?_) #[true, true, false, false, false, false, false, false, false, false, false] rfl rfl (by kernel_rfl) (fun _ _ _ h => h) (Or.inl ⟨by rfl, ?_⟩) ?_ ?_
      rotate_left
      ·
       intro w'
       go_simp
       with_reducible rfl
      rotate_left
      ·
       simp only [Act.put, List.setIfInBounds_toArray, List.set_cons_zero, List.set_cons_succ, i64_w, i32_w]
       rfl
      refine pure_ (i := 2) (N := some 48) (v := undef) (a' := ?_) #[true, true, true, false, false, false, false, false, false, false, false] rfl rfl (by kernel_rfl) (fun _ _ _ h => h) (Or.inr ⟨by rfl, rfl⟩) ?_ ?_
      rotate_left
      ·
       simp only [Act.put, List.setIfInBounds_toArray, List.set_cons_zero, List.set_cons_succ, i64_w, i32_w]
       rfl
      refine pure_ (i := 3) (N := some 49) (v := undef) (a' := ?_) #[true, true, true, true, false, false, false, false, false, false, false] rfl rfl (by kernel_rfl) (fun _ _ _ h => h) (Or.inr ⟨by rfl, rfl⟩) ?_ ?_
      rotate_left
      ·
       simp only [Act.put, List.setIfInBounds_toArray, List.set_cons_zero, List.set_cons_succ, i64_w, i32_w]
       rfl
      refine pure_ (i := 4) (N := some 50) (v := undef) (a' := ?_) #[true, true, true, true, true, false, false, false, false, false, false] rfl rfl (by kernel_rfl) (fun _ _ _ h => h) (Or.inr ⟨by rfl, rfl⟩) ?_ ?_
      rotate_left
      ·
       simp only [Act.put, List.setIfInBounds_toArray, List.set_cons_zero, List.set_cons_succ, i64_w, i32_w]
       rfl
      refine pure_ (i := 5) (N := some 51) (v := undef) (a' := ?_) #[true, true, true, true, true, true, false, false, false, false, false] rfl rfl (by kernel_rfl) (fun _ _ _ h => h) (Or.inr ⟨by rfl, rfl⟩) ?_ ?_
      rotate_left
      ·
       simp only [Act.put, List.setIfInBounds_toArray, List.set_cons_zero, List.set_cons_succ, i64_w, i32_w]
       rfl
      refine pure_ (i := 6) (N := some 52) (v := undef) (a' := ?_) #[true, true, true, true, true, true, true, false, false, false, false] rfl rfl (by kernel_rfl) (fun _ _ _ h => h) (Or.inr ⟨by rfl, rfl⟩) ?_ ?_
      rotate_left
      ·
       simp only [Act.put, List.setIfInBounds_toArray, List.set_cons_zero, List.set_cons_succ, i64_w, i32_w]
       rfl
      refine pure_ (i := 7) (N := some 53) (v := undef) (a' := ?_) #[true, true, true, true, true, true, true, true, false, false, false] rfl rfl (by kernel_rfl) (fun _ _ _ h => h) (Or.inr ⟨by rfl, rfl⟩) ?_ ?_
      rotate_left
      ·
       simp only [Act.put, List.setIfInBounds_toArray, List.set_cons_zero, List.set_cons_succ, i64_w, i32_w]
       rfl
      refine pure_ (i := 8) (N := some 54) (v := undef) (a' := ?_) #[true, true, true, true, true, true, true, true, true, false, false] rfl rfl (by kernel_rfl) (fun _ _ _ h => h) (Or.inr ⟨by rfl, rfl⟩) ?_ ?_
      rotate_left
      ·
       simp only [Act.put, List.setIfInBounds_toArray, List.set_cons_zero, List.set_cons_succ, i64_w, i32_w]
       rfl
      refine pure_ (i := 9) (N := some 55) (v := undef) (a' := ?_) #[true, true, true, true, true, true, true, true, true, true, false] rfl rfl (by kernel_rfl) (fun _ _ _ h => h) (Or.inr ⟨by rfl, rfl⟩) ?_ ?_
      rotate_left
      ·
       simp only [Act.put, List.setIfInBounds_toArray, List.set_cons_zero, List.set_cons_succ, i64_w, i32_w]
       rfl
      refine pure_ (i := 10) (N := some 56) (v := ?_) (a' := ?_) #[true, true, true, true, true, true, true, true, true, true, true] rfl rfl (by kernel_rfl) (fun _ _ _ h => h) (Or.inl ⟨by rfl, ?_⟩) ?_ ?_
      rotate_left
      ·
       intro w'
       go_simp
       with_reducible rfl
      rotate_left
      ·
       simp only [Act.put, List.setIfInBounds_toArray, List.set_cons_zero, List.set_cons_succ, i64_w, i32_w]
       rfl
      refine done_ (by kernel_rfl) ?_
      go_wp2_with fail
      refine ⟨⟨i + 1, rfl, Hi.out, hb4⟩, ?_⟩
      have := Hi.out; simp only [intOf]; omega
     | true =>
      obtain ⟨hT, hi1, hi2⟩ := readS_some (hx1 rfl)
      have hTs := sesT_size x
      have hse := fun w' => rsession_says x hi1 hi2 (by rw [← hTs, hT]; omega) w'
      rw [hT] at hse
      simp only [sesV] at hse
      have q1 : (V.toList != V.toList) = false := by simp
      clear hx1 hT hTs hi1 hi2
      have c0 : w3.cell? ⟨w2.heap.size, 0, none⟩ = some (.string x.cookie) := (blk_cell hx3 0).trans rfl
      have c1 : w3.cell? ⟨w2.heap.size, 1, none⟩ = some (.string x.client) := (blk_cell hx3 1).trans rfl
      have c2 : w3.cell? ⟨w2.heap.size, 2, none⟩ = some (.string x.redirect) := (blk_cell hx3 2).trans rfl
      have c3 : w3.cell? ⟨w2.heap.size, 3, none⟩ = some (.string x.state) := (blk_cell hx3 3).trans rfl
      have c4 : w3.cell? ⟨w2.heap.size, 4, none⟩ = some (.string x.nonce) := (blk_cell hx3 4).trans rfl
      have c5 : w3.cell? ⟨w2.heap.size, 5, none⟩ = some (.string x.scope) := (blk_cell hx3 5).trans rfl
      have c6 : w3.cell? ⟨w2.heap.size, 6, none⟩ = some (.string x.challenge) := (blk_cell hx3 6).trans rfl
      have c7 : w3.cell? ⟨w2.heap.size, 7, none⟩ = some (.int .i64 x.stage) := (blk_cell hx3 7).trans rfl
      have c8 : w3.cell? ⟨w2.heap.size, 8, none⟩ = some (.string x.conn) := (blk_cell hx3 8).trans rfl
      have c9 : w3.cell? ⟨w2.heap.size, 9, none⟩ = some (.string x.upState) := (blk_cell hx3 9).trans rfl
      have c10 : w3.cell? ⟨w2.heap.size, 10, none⟩ = some (.string x.upNonce) := (blk_cell hx3 10).trans rfl
      have c11 : w3.cell? ⟨w2.heap.size, 11, none⟩ = some (.int .i64 x.ends) := (blk_cell hx3 11).trans rfl
      have hB4 := below_drew hB3
      have hb4 := below_drew hb3
      have c0 : w3.drew.cell? ⟨w2.heap.size, 0, none⟩ = some (.string x.cookie) := c0
      have c1 : w3.drew.cell? ⟨w2.heap.size, 1, none⟩ = some (.string x.client) := c1
      have c2 : w3.drew.cell? ⟨w2.heap.size, 2, none⟩ = some (.string x.redirect) := c2
      have c3 : w3.drew.cell? ⟨w2.heap.size, 3, none⟩ = some (.string x.state) := c3
      have c4 : w3.drew.cell? ⟨w2.heap.size, 4, none⟩ = some (.string x.nonce) := c4
      have c5 : w3.drew.cell? ⟨w2.heap.size, 5, none⟩ = some (.string x.scope) := c5
      have c6 : w3.drew.cell? ⟨w2.heap.size, 6, none⟩ = some (.string x.challenge) := c6
      have c7 : w3.drew.cell? ⟨w2.heap.size, 7, none⟩ = some (.int .i64 x.stage) := c7
      have c8 : w3.drew.cell? ⟨w2.heap.size, 8, none⟩ = some (.string x.conn) := c8
      have c9 : w3.drew.cell? ⟨w2.heap.size, 9, none⟩ = some (.string x.upState) := c9
      have c10 : w3.drew.cell? ⟨w2.heap.size, 10, none⟩ = some (.string x.upNonce) := c10
      have c11 : w3.drew.cell? ⟨w2.heap.size, 11, none⟩ = some (.int .i64 x.ends) := c11
      have hV1 : w3.drew.cell? ⟨(ad.add (i * 2)).block, (ad.add (i * 2)).off + 1, none⟩ = some (.string V) := hV1
      refine start_ (n := 11) (S := fun w' => w'.cell? ⟨w2.heap.size, 0, none⟩ = some (.string x.cookie) ∧ w'.cell? ⟨w2.heap.size, 1, none⟩ = some (.string x.client) ∧ w'.cell? ⟨w2.heap.size, 2, none⟩ = some (.string x.redirect) ∧ w'.cell? ⟨w2.heap.size, 3, none⟩ = some (.string x.state) ∧ w'.cell? ⟨w2.heap.size, 4, none⟩ = some (.string x.nonce) ∧ w'.cell? ⟨w2.heap.size, 5, none⟩ = some (.string x.scope) ∧ w'.cell? ⟨w2.heap.size, 6, none⟩ = some (.string x.challenge) ∧ w'.cell? ⟨w2.heap.size, 7, none⟩ = some (.int .i64 x.stage) ∧ w'.cell? ⟨w2.heap.size, 8, none⟩ = some (.string x.conn) ∧ w'.cell? ⟨w2.heap.size, 9, none⟩ = some (.string x.upState) ∧ w'.cell? ⟨w2.heap.size, 10, none⟩ = some (.string x.upNonce) ∧ w'.cell? ⟨w2.heap.size, 11, none⟩ = some (.int .i64 x.ends) ∧ w'.cell? ⟨(ad.add (i * 2)).block, (ad.add (i * 2)).off + 1, none⟩ = some (.string V)) (ds := []) #[false, false, false, false, false, false, false, false, false, false, false] (by kernel_rfl) rfl rfl ⟨c0, c1, c2, c3, c4, c5, c6, c7, c8, c9, c10, c11, hV1⟩ (fun hHeld => ?_)
      generalize w3.drew = w4 at hB4 hb4 hHeld c0 c1 c2 c3 c4 c5 c6 c7 c8 c9 c10 c11 hV1 ⊢
      refine pure_ (i := 0) (N := some 46) (v := ?_) (a' := ?_) #[true, false, false, false, false, false, false, false, false, false, false] rfl rfl (by kernel_rfl) (fun _ _ _ h => h) (Or.inl ⟨by rfl, ?_⟩) ?_ ?_
      rotate_left
      ·
       intro w'
       go_simp
       with_reducible rfl
      rotate_left
      ·
       simp only [Act.put, List.setIfInBounds_toArray, List.set_cons_zero, List.set_cons_succ, i64_w, i32_w]
       rfl
      refine pure_ (i := 1) (N := some 47) (v := ?_) (a' := ?_) #[true, true, false, false, false, false, false, false, false, false, false] rfl rfl (by kernel_rfl) (fun _ _ _ h => h) (Or.inl ⟨by rfl, ?_⟩) ?_ ?_
      rotate_left
      ·
       intro w'
       go_simp
       with_reducible rfl
      rotate_left
      ·
       simp only [Act.put, List.setIfInBounds_toArray, List.set_cons_zero, List.set_cons_succ, i64_w, i32_w]
       rfl
      refine pure_ (i := 4) (N := some 50) (v := ?_) (a' := ?_) #[true, true, false, false, true, false, false, false, false, false, false] rfl rfl (by kernel_rfl) (fun _ _ _ h => h) (Or.inl ⟨by rfl, ?_⟩) ?_ ?_
      rotate_left
      ·
       intro w'
       go_simp
       with_reducible rfl
      rotate_left
      ·
       simp only [Act.put, List.setIfInBounds_toArray, List.set_cons_zero, List.set_cons_succ, i64_w, i32_w]
       rfl
      refine pure_ (i := 5) (N := some 51) (v := ?_) (a' := ?_) #[true, true, false, false, true, true, false, false, false, false, false] rfl rfl (by kernel_rfl) (fun _ _ _ h => h) (Or.inl ⟨by rfl, ?_⟩) ?_ ?_
      rotate_left
      ·
       intro w'
       go_simp
       with_reducible rfl
      rotate_left
      ·
       simp only [Act.put, List.setIfInBounds_toArray, List.set_cons_zero, List.set_cons_succ, i64_w, i32_w]
       rfl
      refine pure_ (i := 6) (N := some 52) (v := ?_) (a' := ?_) #[true, true, false, false, true, true, true, false, false, false, false] rfl rfl (by kernel_rfl) (fun _ _ _ h => h) (Or.inl ⟨by rfl, ?_⟩) ?_ ?_
      rotate_left
      ·
       intro w'
       go_simp
       with_reducible rfl
      rotate_left
      ·
       simp only [Act.put, List.setIfInBounds_toArray, List.set_cons_zero, List.set_cons_succ, i64_w, i32_w]
       rfl
      refine pure_ (i := 7) (N := some 53) (v := ?_) (a' := ?_) #[true, true, false, false, true, true, true, true, false, false, false] rfl rfl (by kernel_rfl) (fun _ _ _ h => h) (Or.inl ⟨by rfl, ?_⟩) ?_ ?_
      rotate_left
      ·
       intro w'
       go_simp
       with_reducible rfl
      rotate_left
      ·
       simp only [Act.put, List.setIfInBounds_toArray, List.set_cons_zero, List.set_cons_succ, i64_w, i32_w]
       rfl
      refine take_ (i := 2) (N := some 48) (v := ?_) (a' := ?_) #[true, true, true, false, true, true, true, true, false, false, false] rfl rfl (by kernel_rfl) (fun _ _ _ h => h) (Or.inl ⟨by rfl, ?_⟩) hHeld ?_ ?_
      rotate_left
      ·
       rintro w' ⟨s0, s1, s2, s3, s4, s5, s6, s7, s8, s9, s10, s11, s12⟩
       go_simp
       with_reducible rfl
      rotate_left
      ·
       simp only [Act.put, List.setIfInBounds_toArray, List.set_cons_zero, List.set_cons_succ, i64_w, i32_w]
       rfl
      refine take_ (i := 8) (N := some 54) (v := ?_) (a' := ?_) #[true, true, true, false, true, true, true, true, true, false, false] rfl rfl (by kernel_rfl) (fun _ _ _ h => h) (Or.inl ⟨by rfl, ?_⟩) hHeld ?_ ?_
      rotate_left
      ·
       rintro w' ⟨s0, s1, s2, s3, s4, s5, s6, s7, s8, s9, s10, s11, s12⟩
       go_simp
       with_reducible rfl
      rotate_left
      ·
       simp only [Act.put, List.setIfInBounds_toArray, List.set_cons_zero, List.set_cons_succ, i64_w, i32_w]
       rfl
      refine one_ (i := 3) (N := some 49) #[true, true, true, true, true, true, true, true, true, false, false] rfl rfl (by kernel_rfl) (by decide) (fun K hK => ?_)
      refine goes_ Tryz.func40 (by kernel_rfl) rfl #[.agg #[.string x.cookie, .string x.client, .string x.redirect, .string x.state, .string x.nonce, .string x.scope, .string x.challenge, .int .i64 x.stage, .string x.conn, .string x.upState, .string x.upNonce, .int .i64 x.ends]] (by rfl) rfl rfl (by simp only [List.map_toArray, List.map_cons, List.map_nil]; rfl) ?_
      with_reducible refine (hse w4).mono ?_
      rintro e w5 ⟨rfl, hb5⟩
      refine ⟨_, rfl, ?_⟩
      refine hK.out _ _ ⟨cell_later hb5 c0, cell_later hb5 c1, cell_later hb5 c2, cell_later hb5 c3, cell_later hb5 c4, cell_later hb5 c5, cell_later hb5 c6, cell_later hb5 c7, cell_later hb5 c8, cell_later hb5 c9, cell_later hb5 c10, cell_later hb5 c11, cell_later hb5 hV1⟩ (fun hHeld => ?_)
      clear hK K
      refine norm_ (a' := ?_) ?_ ?_
      rotate_left
      ·
       show Act.put _ (some 49) _ = _
       simp only [Act.put, List.setIfInBounds_toArray, List.set_cons_zero, List.set_cons_succ, i64_w, i32_w]
       rfl
      refine pure_ (i := 9) (N := some 55) (v := ?_) (a' := ?_) #[true, true, true, true, true, true, true, true, true, true, false] rfl rfl (by kernel_rfl) (fun _ _ _ h => h) (Or.inl ⟨by rfl, ?_⟩) ?_ ?_
      rotate_left
      ·
       intro w'
       go_simp
       with_reducible rfl
      rotate_left
      ·
       simp only [Act.put, List.setIfInBounds_toArray, List.set_cons_zero, List.set_cons_succ, i64_w, i32_w]
       rfl
      refine pure_ (i := 10) (N := some 56) (v := ?_) (a' := ?_) #[true, true, true, true, true, true, true, true, true, true, true] rfl rfl (by kernel_rfl) (fun _ _ _ h => h) (Or.inl ⟨by rfl, ?_⟩) ?_ ?_
      rotate_left
      ·
       intro w'
       go_simp
       with_reducible rfl
      rotate_left
      ·
       simp only [Act.put, List.setIfInBounds_toArray, List.set_cons_zero, List.set_cons_succ, i64_w, i32_w]
       rfl
      refine done_ (by kernel_rfl) ?_
      go_wp2_with fail
      refine ⟨⟨i + 1, rfl, Hi.out, below_then hb4 hb4.size hb5⟩, ?_⟩
      have := Hi.out; simp only [intOf]; omega
    ·
     have d2 : decide ((i : Int) < (r.length : Int)) = false := decide_eq_false (by omega)
     have d2' : decide (i < r.length) = false := decide_eq_false hlt
     clear hlt hi hrm
     go_wp2_with fail
     refine (hfd wr hbr hB).mono ?_
     rintro e w2 ⟨rfl, hb2⟩
     have hB3 := below_alloc (below_then hB hB.size hb2) (.cells #[.string y.cookie, .string y.client, .string y.redirect, .string y.state, .string y.nonce, .string y.scope, .string y.challenge, .int .i64 y.stage, .string y.conn, .string y.upState, .string y.upNonce, .int .i64 y.ends] 72)
     have hb3 := below_alloc (below_then hbr hbr.size hb2) (.cells #[.string y.cookie, .string y.client, .string y.redirect, .string y.state, .string y.nonce, .string y.scope, .string y.challenge, .int .i64 y.stage, .string y.conn, .string y.upState, .string y.upNonce, .int .i64 y.ends] 72)
     have hy3 := heap_alloc_new w2 (.cells #[.string y.cookie, .string y.client, .string y.redirect, .string y.state, .string y.nonce, .string y.scope, .string y.challenge, .int .i64 y.stage, .string y.conn, .string y.upState, .string y.upNonce, .int .i64 y.ends] 72)
     go_wp2_with fail
     refine (hse _ hb3).mono ?_
     clear hfd hse
     generalize w2.alloc (.cells #[.string y.cookie, .string y.client, .string y.redirect, .string y.state, .string y.nonce, .string y.scope, .string y.challenge, .int .i64 y.stage, .string y.conn, .string y.upState, .string y.upNonce, .int .i64 y.ends] 72) = w3 at hB3 hb3 hy3 ⊢
     rintro e w4 ⟨rfl, hb4⟩
     have hB5 := below_alloc (below_then hB3 hB3.size hb4) (.cells #[.string y.cookie, .string y.client, .string y.redirect, .string y.state, .string y.nonce, .string y.scope, .string y.challenge, .int .i64 y.stage, .string y.conn, .string y.upState, .string y.upNonce, .int .i64 y.ends] 72)
     have hb5 := below_alloc (below_then hb3 hb3.size hb4) (.cells #[.string y.cookie, .string y.client, .string y.redirect, .string y.state, .string y.nonce, .string y.scope, .string y.challenge, .int .i64 y.stage, .string y.conn, .string y.upState, .string y.upNonce, .int .i64 y.ends] 72)
     have hy5 := blk_below (blk_below hy3 hb4) (below_alloc (Below.refl _ w4) (.cells #[.string y.cookie, .string y.client, .string y.redirect, .string y.state, .string y.nonce, .string y.scope, .string y.challenge, .int .i64 y.stage, .string y.conn, .string y.upState, .string y.upNonce, .int .i64 y.ends] 72))
     have hz5 := heap_alloc_new w4 (.cells #[.string y.cookie, .string y.client, .string y.redirect, .string y.state, .string y.nonce, .string y.scope, .string y.challenge, .int .i64 y.stage, .string y.conn, .string y.upState, .string y.upNonce, .int .i64 y.ends] 72)
     go_wp2_with fail
     refine (hans _ hB5).mono ?_
     generalize w4.alloc (.cells #[.string y.cookie, .string y.client, .string y.redirect, .string y.state, .string y.nonce, .string y.scope, .string y.challenge, .int .i64 y.stage, .string y.conn, .string y.upState, .string y.upNonce, .int .i64 y.ends] 72) = w5 at hB5 hb5 hy5 hz5 ⊢
     rintro e w6 ⟨rfl, hb6⟩
     have hB6 := below_then hB5 hB5.size hb6
     have hb6' := below_then hb5 hb5.size hb6
     have hy6 := blk_below hy5 hb6
     have hz6 := blk_below hz5 hb6
     clear hy3 hy5 hz5
     have c0 : w6.cell? ⟨w2.heap.size, 0, none⟩ = some (.string y.cookie) := (blk_cell hy6 0).trans rfl
     have c1 : w6.cell? ⟨w2.heap.size, 1, none⟩ = some (.string y.client) := (blk_cell hy6 1).trans rfl
     have c2 : w6.cell? ⟨w2.heap.size, 2, none⟩ = some (.string y.redirect) := (blk_cell hy6 2).trans rfl
     have c3 : w6.cell? ⟨w2.heap.size, 3, none⟩ = some (.string y.state) := (blk_cell hy6 3).trans rfl
     have c4 : w6.cell? ⟨w2.heap.size, 4, none⟩ = some (.string y.nonce) := (blk_cell hy6 4).trans rfl
     have c5 : w6.cell? ⟨w2.heap.size, 5, none⟩ = some (.string y.scope) := (blk_cell hy6 5).trans rfl
     have c6 : w6.cell? ⟨w2.heap.size, 6, none⟩ = some (.string y.challenge) := (blk_cell hy6 6).trans rfl
     have c7 : w6.cell? ⟨w2.heap.size, 7, none⟩ = some (.int .i64 y.stage) := (blk_cell hy6 7).trans rfl
     have c8 : w6.cell? ⟨w2.heap.size, 8, none⟩ = some (.string y.conn) := (blk_cell hy6 8).trans rfl
     have c9 : w6.cell? ⟨w2.heap.size, 9, none⟩ = some (.string y.upState) := (blk_cell hy6 9).trans rfl
     have c10 : w6.cell? ⟨w2.heap.size, 10, none⟩ = some (.string y.upNonce) := (blk_cell hy6 10).trans rfl
     have c11 : w6.cell? ⟨w2.heap.size, 11, none⟩ = some (.int .i64 y.ends) := (blk_cell hy6 11).trans rfl
     have d0 : w6.cell? ⟨w4.heap.size, 0, none⟩ = some (.string y.cookie) := (blk_cell hz6 0).trans rfl
     have d1 : w6.cell? ⟨w4.heap.size, 1, none⟩ = some (.string y.client) := (blk_cell hz6 1).trans rfl
     have d2 : w6.cell? ⟨w4.heap.size, 2, none⟩ = some (.string y.redirect) := (blk_cell hz6 2).trans rfl
     have d3 : w6.cell? ⟨w4.heap.size, 3, none⟩ = some (.string y.state) := (blk_cell hz6 3).trans rfl
     have d4 : w6.cell? ⟨w4.heap.size, 4, none⟩ = some (.string y.nonce) := (blk_cell hz6 4).trans rfl
     have d5 : w6.cell? ⟨w4.heap.size, 5, none⟩ = some (.string y.scope) := (blk_cell hz6 5).trans rfl
     have d6 : w6.cell? ⟨w4.heap.size, 6, none⟩ = some (.string y.challenge) := (blk_cell hz6 6).trans rfl
     have d7 : w6.cell? ⟨w4.heap.size, 7, none⟩ = some (.int .i64 y.stage) := (blk_cell hz6 7).trans rfl
     have d8 : w6.cell? ⟨w4.heap.size, 8, none⟩ = some (.string y.conn) := (blk_cell hz6 8).trans rfl
     have d9 : w6.cell? ⟨w4.heap.size, 9, none⟩ = some (.string y.upState) := (blk_cell hz6 9).trans rfl
     have d10 : w6.cell? ⟨w4.heap.size, 10, none⟩ = some (.string y.upNonce) := (blk_cell hz6 10).trans rfl
     have d11 : w6.cell? ⟨w4.heap.size, 11, none⟩ = some (.int .i64 y.ends) := (blk_cell hz6 11).trans rfl
     go_wp2_with fail
     refine (hsw _ hb6' hB6).mono ?_
     rintro e w7 ⟨v7, rfl, hr7, hb7⟩
     have hB7 := below_then hB6 hB6.size hb7
     have hb7' := below_then hb6' hb6'.size hb7
     go_wp2_with fail
     refine (hsq _ hb7').mono ?_
     rintro e w8 ⟨v8, rfl, hr8, hb8⟩
     have hB8 := below_then hB7 hB7.size hb8
     obtain ⟨A7, c7, e7⟩ := Kd.R_slice hr7
     subst e7
     obtain ⟨A8, c8, e8⟩ := Kd.R_slice hr8
     subst e8
     have hd7 := Kd.R_reads' hr7
     have hd8 := Kd.R_reads' hr8
     have hsm := same19_self A7 A8 c7 c8 L w8 (Kd.C_below hd7.2.2 hb8) hd7.2.1 hd8.2.2 hd8.2.1 HL.out
     go_wp2_with fail
     refine hsm.mono ?_
     rintro e w9 ⟨rfl, hb9⟩
     go_wp2_with fail
     go_ret
     exact ⟨rfl, below_then hB8 hB8.size hb9⟩
  ·
   have d1 : decide ((1000 : Int) < (cookie.size : Int)) = true := decide_eq_true (by omega)
   obtain ⟨A1, c1, rfl, hca, hC1⟩ := hR.slice
   go_wp2_with fail
   refine (hans w1 hb1).mono ?_
   rintro e w2 ⟨rfl, hb2⟩
   go_wp2_with fail
   go_ret
   exact ⟨rfl, below_then hb1 hb1.size hb2⟩
theorem SeatFinds_in (W : World) (a : Option Addr) (len cap : Nat) (h : ChgsIn W a len cap) (cookie : ByteArray) (h0 : cookie.size ≤ 140737488351232) (now : Int) (hn : (Lit.int .i64 now).wf = true) (hGL : GL W) (hGP : GP W) (hGE : GE W) :
  Calls Tryz.prog 7 #[.slice a len cap, .string cookie, .int .i64 now] W fun e w' => e = .returned (.bool true) ∧ Below W.heap.size W w' := by
 obtain ⟨l, rfl, h1, h2, h3, h4⟩ := h
 exact SeatFinds_walk W a cap l h1 h2 h3 h4 cookie now h0 hGL hGP hGE
end Go.Proofs.YtpoblffgclmmlaaGreatDoor.X
end
