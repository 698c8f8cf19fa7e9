/- store.renew, store.Do. -/
import Derived.Test.YtkmokcfnfhabgaaDoorWho
set_option linter.unusedVariables false
set_option linter.unusedSimpArgs false
namespace Go.Proofs.YtkmokcfnfhabgaaDoor.X
open Go.RowKit Go.WideMaps Go.Maps Go.Proofs.YtkmokcfnfhabgaaDoorW.PrintWords Go.Proofs.YtkmokcfnfhabgaaDoorW.PrintLast Go.Proofs.YtkmokcfnfhabgaaDoorW.PrintMore Go.Proofs.YtkmokcfnfhabgaaDoor.Q

def allD (D : DataW Unit) : List S49 := (keysD D).map fun k => (⟨k, valS D k, false⟩ : S49)
/-- The tape has all rows, and nothing more. -/
def TapeS.renew (T : TapeS) (D : DataW Unit) : TapeS × Int :=
  if 32768 < (recL (allD D)).length ∨ 65536 < (frameL (recL (allD D))).length then (T, 7) else T.swap (frameL (recL (allD D)))
theorem frameL_len (l : List Int) : (frameL l).length = l.length + 8 := by
  simp only [frameL, List.length_append, markL_length]
  simp [four]
  omega
set_option maxHeartbeats 4000000 in
set_option maxRecDepth 100000 in
theorem renew_says (base s t m n m2 n2 : Nat) (D D2 : DataW Unit) (v : Value) (T : TapeS) (w0 w : World) (hGL : GL w0) (hB : Below w0.heap.size w0 w) (hS : StoreAt w base s t m n D) (h : TpAt w base t v T) (hG : T.Good) (hM : MapAt w m2 n2 D2) (hn : n2 ≤ 3500000000000) (hl : (recL (allD D2)).length ≤ 90000000) (hbase : base ≤ w.heap.size) :
    Calls Tryd.prog 37 #[.pointer (some ⟨s, 0, none⟩), .map (some m2)] w fun e w' =>
      e = .returned (.int .i64 (T.renew D2).2) ∧ Tur w w' (fun k => k = t) ∧ ∃ v', TpAt w' base t v' (T.renew D2).1 ∧ Rowd v v' w.heap.size := by
  obtain ⟨R, hR⟩ : ∃ R, T.renew D2 = R := ⟨_, rfl⟩
  rw [hR]
  have hrn : R = if 32768 < (recL (allD D2)).length ∨ 65536 < (frameL (recL (allD D2))).length then (T, 7) else T.swap (frameL (recL (allD D2))) := by rw [← hR]; rfl
  have hwho := whole_says m2 n2 D2 w hM hn
  have e0 : (keysD D2).map (fun k => (⟨k, valS D2 k, false⟩ : S49)) = allD D2 := rfl
  rw [e0] at hwho
  have hfl := frameL_len (recL (allD D2))
  generalize allD D2 = l at hrn hwho hl hfl
  have Hrn := Lib.hid hrn
  have Hfl := Lib.hid hfl
  clear hR e0 hrn hfl
  go_enter Tryd.func37, Tryd.ntmps37
  go_wp2_with fail
  refine hwho.mono ?_
  rintro e w1 ⟨v1, rfl, hr1, hb1⟩
  obtain ⟨A1, c1, e1⟩ := Kd.R_slice hr1
  subst e1
  have hC1 := (Kd.R_reads' hr1).2.2
  go_wp2_with fail
  refine (record_says A1 c1 l w1 hC1 (by omega)).mono ?_
  rintro e w2 ⟨v2, rfl, hr2, hb2⟩
  obtain ⟨A2, c2, e2⟩ := Kd.R_slice hr2
  subst e2
  have hC2 := (Kd.R_reads' hr2)
  have hb02 := below_then hb1 hb1.size hb2
  go_wp2_with fail
  have hfr := frame_Frame.says A2 c2 (recL l) w2 hC2.2.2 hC2.2.1 (by omega) (hGL.below (below_then hB hB.size hb02))
  have hfl := (show (frameL (recL l)).length = _ from Hfl)
  have hrn := (show R = _ from Hrn)
  clear Hfl Hrn
  generalize frameL (recL l) = ys at hfr hfl hrn
  have Hrn := Lib.hid hrn
  have Hfl := Lib.hid hfl
  clear hrn hfl
  refine hfr.mono ?_
  rintro e w3 ⟨v3, rfl, hr3, hb3⟩
  obtain ⟨A3, c3, e3⟩ := Kd.R_slice hr3
  subst e3
  have hC3 := (Kd.R_reads' hr3)
  have hb03 := below_then hb02 hb02.size hb3
  have hS3 := hS.kept (Tur.of_below hb03 (fun _ => False)) (fun h => h) (fun h => h)
  have hT3 : TpAt w3 base t v T := TapeAt.kept h (Tur.of_below hb03 (fun _ => False)) (fun h => h) (fun _ _ h => h)
  have c0 := blk_cell hS3.blk 0
  have hfl := (show ys.length = _ from Hfl)
  have hrn := (show R = _ from Hrn)
  clear Hfl Hrn
  by_cases hl1 : 32768 < (recL l).length
  · have d1 : decide ((32768 : Int) < ((recL l).length : Int)) = true := decide_eq_true (by omega)
    rw [if_pos (.inl hl1)] at hrn
    subst hrn
    clear hfl
    go_wp2_with fail
    go_ret
    exact ⟨rfl, Tur.of_below hb03 _, v, hT3, Rowd.refl _ _⟩
  · have d1 : decide ((32768 : Int) < ((recL l).length : Int)) = false := decide_eq_false (by omega)
    rw [if_neg (by omega)] at hrn
    have d2 : decide ((65536 : Int) < (ys.length : Int)) = false := decide_eq_false (by omega)
    have hsw := tswap_says base t v T ys A3 c3 w3 hT3 hG.fuse hC3.2.2 (by omega) (by have := hb03.size; omega)
    have Hl := Lib.hid hl1
    clear hfl hl1
    generalize T.swap ys = R2 at hrn hsw
    subst hrn
    go_wp2_with fail
    refine hsw.mono ?_
    rintro e w4 ⟨rfl, hk4, v4, hT4, hv4⟩
    go_wp2_with fail
    go_ret
    refine ⟨rfl, (Tur.of_below hb03 _).then_ hk4 (fun k h => .inl h), v4, hT4, fun k hk => ?_⟩
    rcases hv4 k hk with h | h
    · exact .inl h
    · exact .inr (Nat.le_trans hb03.size h)
end Go.Proofs.YtkmokcfnfhabgaaDoor.X
