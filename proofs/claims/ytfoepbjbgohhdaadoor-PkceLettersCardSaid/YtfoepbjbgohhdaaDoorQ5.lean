-- Written by a program of this session (wip/xprint.py) over the kit's print.py; Lean checks it.
import Derived.Test.YtfoepbjbgohhdaaDoorQ0
import Derived.Test.YtfoepbjbgohhdaaDoorQ2
namespace Go.Proofs.YtfoepbjbgohhdaaDoor.Q
open Go.RowKit Go.Proofs.YtfoepbjbgohhdaaDoorW.PrintWords Go.Proofs.YtfoepbjbgohhdaaDoorW.PrintLast Go.Proofs.YtfoepbjbgohhdaaDoorW.PrintMore
attribute [local go_sem] max2_int min2_int max_two min_two max_three min_three max_four min_four   -- for this text's walks alone
open Go.Proofs.YtfoepbjbgohhdaaDoor.X
set_option linter.unusedVariables false
set_option linter.unusedSimpArgs false

/-! ### text_Encode: function 30, by hand -/
def EncRel (s : ByteArray) (B b : Nat) (k bits h : Nat) (wr : World) : Prop :=
  bits < 4294967296 ∧ B ≤ wr.heap.size ∧ ∃ bs : List UInt8, bs.length * 6 + h ≤ 8 * k ∧ Lib.IsBuilderF 52 5 B b (Lib.byteCells bs) wr ∧ bs ++ encS (s.data.toList.drop k) (bits % 2 ^ h) h = enc s.data.toList

set_option maxHeartbeats 1000000 in
theorem text_Encode.says (s : ByteArray) (w : World) (hs : s.size ≤ 1000000000) : Calls Tryd.prog 30 #[.string s] w fun e w' => e = .returned (.string ⟨(enc s.data.toList).toArray⟩) ∧ Below w.heap.size w w' := by
  go_enter Tryd.func30, Tryd.ntmps30
  go_wp2
  go_loopw [4, 5, 9] (fun v4 v5 v9 wr => ∃ (k bits h : Nat) , k ≤ s.size ∧ v9 = .int .i64 k ∧ v4 = .int .u32 bits ∧ h < 6 ∧ v5 = .int .i64 h ∧ EncRel s w.heap.size w.heap.size k bits h wr ∧ Below w.heap.size w wr) (fun _ _ v9 _ => s.size - (intOf v9).toNat)
  case atStart =>
    exact ⟨0, 0, 0, by omega, rfl, rfl, by omega, rfl, ⟨by omega, by simp, [], by simp, Lib.IsBuilderF.of (Lib.fresh_isBuilder 52 5 w), by simp [enc]⟩, (Below.refl _ _).alloc (Nat.le_refl _) _⟩
  case round =>
    obtain ⟨k, bits, h, hk, rfl, rfl, hh, rfl, hR, hb⟩ := hrel
    by_cases hlt : k < s.size
    · have hx0 := s[k].toNat_lt
      obtain ⟨x, hx⟩ : ∃ x : Nat, x = bits * 256 % 4294967296 + s[k].toNat := ⟨_, rfl⟩
      have e0 : Go.bits BinOp.or IntKind.u32 (↑bits * 256 % 4294967296) (↑s[k].toNat % 4294967296) = (x : Int) := by
        rw [hx, ← u32_or8 (bits * 256 % 4294967296) s[k].toNat (by omega) (by omega) (by omega), show ((s[k].toNat : Nat) : Int) % 4294967296 = (s[k].toNat : Int) from by omega]
        congr 1
      have hxm : x % 2 ^ (h + 8) = bits % 2 ^ h * 256 + s[k].toNat := by rw [hx]; exact enc_put _ _ _ hh hx0
      have hx32 : x < 4294967296 := by omega
      have hR1 : EncRel s w.heap.size w.heap.size (k + 1) x (h + 8) wr := by
        obtain ⟨hbits, hBw, bs, hlen, hB, hbs⟩ := hR
        refine ⟨hx32, hBw, bs, by omega, hB, ?_⟩
        rw [← hbs, hxm]
        congr 1
        rw [show s.data.toList.drop k = s[k] :: s.data.toList.drop (k + 1) from List.drop_eq_getElem_cons (by simpa using hlt), encS_cons _ _ _ _ hh]
      clear hxm hx0
      clear hx hR
      go_wp2
      clear e0
      obtain ⟨wo, rfl⟩ : ∃ wo : World, wo = wr := ⟨_, rfl⟩
      go_loopw [5] (fun v5 wr => ∃ (h2 : Nat) , h2 < 18 ∧ v5 = .int .i64 h2 ∧ EncRel s w.heap.size w.heap.size (k+1) x h2 wr ∧ Below w.heap.size w wr) (fun v5 _ => (intOf v5).toNat)
      case atStart => exact ⟨h + 8, by omega, by go_num, hR1, hb⟩
      case round =>
        clear hR1 hb
        obtain ⟨h2, hh2, rfl, hR2, hb⟩ := hrel
        by_cases h6 : 6 ≤ h2
        · obtain ⟨-, hBw, bs, hlen, hB, hbs⟩ := hR2
          have Hbs := Lib.hid hbs
          clear hbs
          have hdec : decide (6 ≤ (h2 : Int)) = true := by simp; omega
          have e1 : Go.bits BinOp.and IntKind.u32 (↑x / 2 ^ (h2 - 6)) 63 = ((x / 2 ^ (h2 - 6) % 64 : Nat) : Int) := by
            rw [← u32_and63 (x / 2 ^ (h2 - 6)) (Nat.lt_of_le_of_lt (Nat.div_le_self _ _) hx32)]; simp
          obtain ⟨j, hj⟩ : ∃ j, j = x / 2 ^ (h2 - 6) % 64 := ⟨_, rfl⟩
          rw [← hj] at e1
          have hj64 : j < 64 := by omega
          have Hj := Lib.hid hj
          clear hj
          have hat := alph_at j hj64
          unfold alphS at hat
          go_wp2_with fail
          refine (bld_byte w.heap.size w.heap.size (Lib.byteCells bs) ((al j).toNat) _ hB ?_ hBw).mono ?_
          · rw [Lib.byteCells_length]; omega
          rintro e w1 ⟨rfl, hB1, hb1, -⟩
          go_wp2
          go_roundw
          case measure => simp [intOf]; omega
          case rel =>
            refine ⟨h2 - 6, by omega, by go_num, ⟨hx32, Nat.le_trans hBw hb1.size, bs ++ [al j], ?_, .inr (by rw [← enc_one_put]; exact hB1), ?_⟩, hb.trans hb1⟩
            · simp; omega
            · rw [← Hbs.out, encS_emit _ _ _ h6, ← enc_digit _ _ h6 hh2, ← Hj.out, enc_rest _ _ h6]
              simp
        · have hdec : decide (6 ≤ (h2 : Int)) = false := by simp; omega
          go_wp2
          go_roundw
          case measure => simp [intOf]; omega
          case rel => exact ⟨k + 1, x, h2, by omega, by go_num, rfl, by omega, rfl, hR2, hb⟩
    · obtain rfl : k = s.size := by omega
      obtain ⟨hbits, hBw, bs, hlen, hB, hbs⟩ := hR
      rw [List.drop_of_length_le (by simp), encS_nil _ _ hh] at hbs
      have Hbs := Lib.hid hbs
      clear hbs
      by_cases h0 : h = 0
      · subst h0
        go_wp2_with fail
        refine (Tryd.Builder_String_any_k w.heap.size w.heap.size bs _ hB hBw).mono ?_
        rintro e w1 ⟨rfl, -, hb1, -⟩
        go_wp2
        go_ret
        refine ⟨?_, hb.trans hb1⟩
        rw [← Hbs.out]; simp
      · have e1 : Go.bits BinOp.and IntKind.u32 (↑bits * 2 ^ (6 - h) % 4294967296) 63 = ((bits * 2 ^ (6 - h) % 4294967296 % 64 : Nat) : Int) := by
          rw [← u32_and63 (bits * 2 ^ (6 - h) % 4294967296) (by omega)]; simp
        obtain ⟨j, hj⟩ : ∃ j, j = bits * 2 ^ (6 - h) % 4294967296 % 64 := ⟨_, rfl⟩
        rw [← hj] at e1
        have hj64 : j < 64 := by omega
        have Hj := Lib.hid hj
        clear hj
        have hat := alph_at j hj64
        unfold alphS at hat
        have hpos : decide (0 < h) = true := by simp; omega
        go_wp2_with fail
        refine (bld_byte w.heap.size w.heap.size (Lib.byteCells bs) ((al j).toNat) _ hB ?_ hBw).mono ?_
        · rw [Lib.byteCells_length]; omega
        rintro e w1 ⟨rfl, hB1, hb1, -⟩
        go_wp2_with fail
        refine (Tryd.Builder_String_any_k w.heap.size w.heap.size (bs ++ [al j]) _ (.inr (by rw [← enc_one_put]; exact hB1)) (Nat.le_trans hBw hb1.size)).mono ?_
        rintro e w2 ⟨rfl, -, hb2, -⟩
        go_wp2
        go_ret
        refine ⟨?_, (hb.trans hb1).trans hb2⟩
        rw [← Hbs.out, if_neg h0, ← enc_last _ _ hh, ← Hj.out]
        rfl

def text_Encode.f (a0 : ByteArray) : Option (ByteArray) := if a0.size ≤ 1000000000 then some ⟨(enc a0.data.toList).toArray⟩ else none
theorem text_Encode.calls (a0 : ByteArray) (r : ByteArray) (w : World) (h : text_Encode.f a0 = some r) :
    Calls Tryd.prog 30 #[.string a0] w fun e w' => e = .returned (.string r) ∧ Below w.heap.size w w' := by
  unfold text_Encode.f at h
  split at h
  case isTrue hs =>
    obtain rfl := Option.some.inj h
    exact text_Encode.says a0 w hs
  case isFalse hs => exact absurd h (by simp)

/-! ### pkce_Challenge: function 18 -/
def pkce_Challenge.f (a0 : ByteArray) : Option (ByteArray) := (hash_Sum.f a0).bind fun t140 => ((text_Encode.f t140).bind fun t141 => (some t141))
set_option maxHeartbeats 8000000 in
set_option maxRecDepth 100000 in
theorem pkce_Challenge.calls (a0 : ByteArray) (r : ByteArray) (w : World) (h : pkce_Challenge.f a0 = some r) (hGL : GL w) :
    Calls Tryd.prog 18 #[.string a0] w fun e w' => e = .returned (.string r) ∧ Below w.heap.size w w' := by
  have HGL := Aside0.mk hGL
  clear hGL
  have HB := Aside0.mk (Below.refl w.heap.size w)
  have H : ((hash_Sum.f a0).bind fun t140 => ((text_Encode.f t140).bind fun t141 => (some t141))) = some r := h
  clear h
  replace H := Option.bind_eq_some_iff.mp H
  obtain ⟨t140, A20, H⟩ := H
  replace H : ((text_Encode.f t140).bind fun t141 => (some t141)) = some r := H
  have A2 := Aside0.mk A20
  clear A20
  replace H := Option.bind_eq_some_iff.mp H
  obtain ⟨t141, A30, H⟩ := H
  replace H : (some t141) = some r := H
  have A3 := Aside0.mk A30
  clear A30
  obtain rfl := Option.some.inj H
  go_enter Tryd.func18, Tryd.ntmps18
  go_wp2_with (first | ((with_reducible refine gate_callee (f := 9) rfl ?_); refine goesL_ (some 4) rfl rfl Tryd.func9 (by kernel_rfl) rfl #[.string a0] rfl (by (try simp only [List.map_toArray, List.map_cons, List.map_nil]); first | done | rfl | (simp only [List.length_drop, List.length_take]; rfl)) ?_; (with_reducible refine (hash_Sum.calls a0 t140 _ A2.out (GL.below HGL.out (by repeat (first | (with_reducible first | exact HB.out | apply below_alloc | apply pw_below_drewN | apply below_drew1) | exact HB.out)))).mono ?_); rintro e w4 ⟨rfl, hb⟩; refine ⟨_, rfl, ?_⟩; have n0_ := Aside0.mk (below_step (by repeat (first | (with_reducible first | exact HB.out | apply below_alloc | apply pw_below_drewN | apply below_drew1) | exact HB.out)) hb); clear HB; have HB := n0_; clear n0_; (try clear hb); (try clear hb2); (try clear hk); (try clear hi)) | ((with_reducible refine gate_callee (f := 30) rfl ?_); refine goesL_ (some 5) rfl rfl Tryd.func30 (by kernel_rfl) rfl #[.string t140] rfl (by (try simp only [List.map_toArray, List.map_cons, List.map_nil]); first | done | rfl | (simp only [List.length_drop, List.length_take]; rfl)) ?_; (with_reducible refine (text_Encode.calls t140 t141 _ A3.out).mono ?_); rintro e w5 ⟨rfl, hb⟩; refine ⟨_, rfl, ?_⟩; have n0_ := Aside0.mk (below_step (by repeat (first | (with_reducible first | exact HB.out | apply below_alloc | apply pw_below_drewN | apply below_drew1) | exact HB.out)) hb); clear HB; have HB := n0_; clear n0_; (try clear hb); (try clear hb2); (try clear hk); (try clear hi)))
  go_ret
  exact ⟨by first | rfl | (simp [errW_none, errW_some] <;> rfl) | (simp [*, errW_none, errW_some] <;> rfl), by repeat (first | (with_reducible first | exact HB.out | apply below_alloc | apply pw_below_drewN | apply below_drew1) | exact HB.out)⟩

-- NOT PRINTED: function 54 (bytealg_IndexByteString)

-- NOT PRINTED: function 48 (stringslite_IndexByte)

/-! ### strings_IndexByte: function 38, by hand -/
def strings_IndexByte.f (a0 : ByteArray) (a1 : Int) : Option (Int) := some (Lib.indexByte a0.data.toList a1.toNat.toUInt8)
theorem strings_IndexByte.calls (a0 : ByteArray) (a1 : Int) (r : Int) (w : World) (h : strings_IndexByte.f a0 a1 = some r) :
    Calls Tryd.prog 38 #[.string a0, .int .u8 a1] w fun e w' => e = .returned (.int .i64 r) ∧ Drawn0 w w' := by
  refine (Tryd.strings_IndexByte a0 a1 w).mono ?_
  rintro e w' ⟨rfl, rfl⟩
  unfold strings_IndexByte.f at h
  obtain rfl := Option.some.inj h
  exact ⟨rfl, Drawn0.refl _⟩

/-! ### text_Word: function 47 -/
def text_Word.f (a0 : Int) : Option (Bool) := if a0 ≥ 97 then (if a0 ≤ 122 then (some true) else (if a0 ≥ 65 then (if a0 ≤ 90 then (some true) else (if a0 ≥ 48 then (some (decide (a0 ≤ 57))) else (some false))) else (if a0 ≥ 48 then (some (decide (a0 ≤ 57))) else (some false)))) else (if a0 ≥ 65 then (if a0 ≤ 90 then (some true) else (if a0 ≥ 48 then (some (decide (a0 ≤ 57))) else (some false))) else (if a0 ≥ 48 then (some (decide (a0 ≤ 57))) else (some false)))
set_option maxHeartbeats 8000000 in
set_option maxRecDepth 100000 in
theorem text_Word.calls (a0 : Int) (r : Bool) (w : World) (h : text_Word.f a0 = some r) :
    Calls Tryd.prog 47 #[.int .u8 a0] w fun e w' => e = .returned (.bool r) ∧ Drawn0 w w' := by
  have H : (if a0 ≥ 97 then (if a0 ≤ 122 then (some true) else (if a0 ≥ 65 then (if a0 ≤ 90 then (some true) else (if a0 ≥ 48 then (some (decide (a0 ≤ 57))) else (some false))) else (if a0 ≥ 48 then (some (decide (a0 ≤ 57))) else (some false)))) else (if a0 ≥ 65 then (if a0 ≤ 90 then (some true) else (if a0 ≥ 48 then (some (decide (a0 ≤ 57))) else (some false))) else (if a0 ≥ 48 then (some (decide (a0 ≤ 57))) else (some false)))) = some r := h
  clear h
  by_cases c2 : a0 ≥ 97
  · rw [if_pos c2] at H
    have c2b0 : decide (97 ≤ a0) = true := decide_eq_true c2
    clear c2
    by_cases c3 : a0 ≤ 122
    · rw [if_pos c3] at H
      have c3b0 : decide (a0 ≤ 122) = true := decide_eq_true c3
      clear c3
      obtain rfl := Option.some.inj H
      go_enter Tryd.func47, Tryd.ntmps47
      go_wp2
      go_ret
      exact ⟨by first | rfl | (simp; done) | (simp [*]; done), by repeat (first | exact Drawn0.refl _ | apply Drawn0.step)⟩
    · rw [if_neg c3] at H
      have c3b0 : decide (a0 ≤ 122) = false := decide_eq_false c3
      clear c3
      by_cases c4 : a0 ≥ 65
      · rw [if_pos c4] at H
        have c4b0 : decide (65 ≤ a0) = true := decide_eq_true c4
        clear c4
        by_cases c5 : a0 ≤ 90
        · rw [if_pos c5] at H
          have c5b0 : decide (a0 ≤ 90) = true := decide_eq_true c5
          clear c5
          obtain rfl := Option.some.inj H
          go_enter Tryd.func47, Tryd.ntmps47
          go_wp2
          go_ret
          exact ⟨by first | rfl | (simp; done) | (simp [*]; done), by repeat (first | exact Drawn0.refl _ | apply Drawn0.step)⟩
        · rw [if_neg c5] at H
          have c5b0 : decide (a0 ≤ 90) = false := decide_eq_false c5
          clear c5
          by_cases c6 : a0 ≥ 48
          · rw [if_pos c6] at H
            have c6b0 : decide (48 ≤ a0) = true := decide_eq_true c6
            clear c6
            obtain rfl := Option.some.inj H
            go_enter Tryd.func47, Tryd.ntmps47
            go_wp2
            go_ret
            exact ⟨by first | rfl | (simp; done) | (simp [*]; done), by repeat (first | exact Drawn0.refl _ | apply Drawn0.step)⟩
          · rw [if_neg c6] at H
            have c6b0 : decide (48 ≤ a0) = false := decide_eq_false c6
            clear c6
            obtain rfl := Option.some.inj H
            go_enter Tryd.func47, Tryd.ntmps47
            go_wp2
            go_ret
            exact ⟨by first | rfl | (simp; done) | (simp [*]; done), by repeat (first | exact Drawn0.refl _ | apply Drawn0.step)⟩
      · rw [if_neg c4] at H
        have c4b0 : decide (65 ≤ a0) = false := decide_eq_false c4
        clear c4
        by_cases c7 : a0 ≥ 48
        · rw [if_pos c7] at H
          have c7b0 : decide (48 ≤ a0) = true := decide_eq_true c7
          clear c7
          obtain rfl := Option.some.inj H
          go_enter Tryd.func47, Tryd.ntmps47
          go_wp2
          go_ret
          exact ⟨by first | rfl | (simp; done) | (simp [*]; done), by repeat (first | exact Drawn0.refl _ | apply Drawn0.step)⟩
        · rw [if_neg c7] at H
          have c7b0 : decide (48 ≤ a0) = false := decide_eq_false c7
          clear c7
          obtain rfl := Option.some.inj H
          go_enter Tryd.func47, Tryd.ntmps47
          go_wp2
          go_ret
          exact ⟨by first | rfl | (simp; done) | (simp [*]; done), by repeat (first | exact Drawn0.refl _ | apply Drawn0.step)⟩
  · rw [if_neg c2] at H
    have c2b0 : decide (97 ≤ a0) = false := decide_eq_false c2
    clear c2
    by_cases c8 : a0 ≥ 65
    · rw [if_pos c8] at H
      have c8b0 : decide (65 ≤ a0) = true := decide_eq_true c8
      clear c8
      by_cases c9 : a0 ≤ 90
      · rw [if_pos c9] at H
        have c9b0 : decide (a0 ≤ 90) = true := decide_eq_true c9
        clear c9
        obtain rfl := Option.some.inj H
        go_enter Tryd.func47, Tryd.ntmps47
        go_wp2
        go_ret
        exact ⟨by first | rfl | (simp; done) | (simp [*]; done), by repeat (first | exact Drawn0.refl _ | apply Drawn0.step)⟩
      · rw [if_neg c9] at H
        have c9b0 : decide (a0 ≤ 90) = false := decide_eq_false c9
        clear c9
        by_cases c10 : a0 ≥ 48
        · rw [if_pos c10] at H
          have c10b0 : decide (48 ≤ a0) = true := decide_eq_true c10
          clear c10
          obtain rfl := Option.some.inj H
          go_enter Tryd.func47, Tryd.ntmps47
          go_wp2
          go_ret
          exact ⟨by first | rfl | (simp; done) | (simp [*]; done), by repeat (first | exact Drawn0.refl _ | apply Drawn0.step)⟩
        · rw [if_neg c10] at H
          have c10b0 : decide (48 ≤ a0) = false := decide_eq_false c10
          clear c10
          obtain rfl := Option.some.inj H
          go_enter Tryd.func47, Tryd.ntmps47
          go_wp2
          go_ret
          exact ⟨by first | rfl | (simp; done) | (simp [*]; done), by repeat (first | exact Drawn0.refl _ | apply Drawn0.step)⟩
    · rw [if_neg c8] at H
      have c8b0 : decide (65 ≤ a0) = false := decide_eq_false c8
      clear c8
      by_cases c11 : a0 ≥ 48
      · rw [if_pos c11] at H
        have c11b0 : decide (48 ≤ a0) = true := decide_eq_true c11
        clear c11
        obtain rfl := Option.some.inj H
        go_enter Tryd.func47, Tryd.ntmps47
        go_wp2
        go_ret
        exact ⟨by first | rfl | (simp; done) | (simp [*]; done), by repeat (first | exact Drawn0.refl _ | apply Drawn0.step)⟩
      · rw [if_neg c11] at H
        have c11b0 : decide (48 ≤ a0) = false := decide_eq_false c11
        clear c11
        obtain rfl := Option.some.inj H
        go_enter Tryd.func47, Tryd.ntmps47
        go_wp2
        go_ret
        exact ⟨by first | rfl | (simp; done) | (simp [*]; done), by repeat (first | exact Drawn0.refl _ | apply Drawn0.step)⟩

/-! ### text_Plain: function 36 -/
def text_Plain.f (a0 : Int) : Option (Bool) := (text_Word.f a0).bind fun t142 => (if t142 = true then (some true) else ((strings_IndexByte.f (⟨#[45, 46, 95, 126]⟩ : ByteArray) a0).bind fun t143 => (some (decide (t143 ≥ 0)))))
set_option maxHeartbeats 8000000 in
set_option maxRecDepth 100000 in
theorem text_Plain.calls (a0 : Int) (r : Bool) (w : World) (h : text_Plain.f a0 = some r) :
    Calls Tryd.prog 36 #[.int .u8 a0] w fun e w' => e = .returned (.bool r) ∧ Drawn0 w w' := by
  have H : ((text_Word.f a0).bind fun t142 => (if t142 = true then (some true) else ((strings_IndexByte.f (⟨#[45, 46, 95, 126]⟩ : ByteArray) a0).bind fun t143 => (some (decide (t143 ≥ 0)))))) = some r := h
  clear h
  replace H := Option.bind_eq_some_iff.mp H
  obtain ⟨t142, A20, H⟩ := H
  replace H : (if t142 = true then (some true) else ((strings_IndexByte.f (⟨#[45, 46, 95, 126]⟩ : ByteArray) a0).bind fun t143 => (some (decide (t143 ≥ 0))))) = some r := H
  have A2 := Aside0.mk A20
  clear A20
  by_cases c3 : t142 = true
  · subst c3
    have H1 : (some true) = some r := by rw [if_pos rfl] at H; exact H
    clear H
    have H := H1
    clear H1
    obtain rfl := Option.some.inj H
    go_enter Tryd.func36, Tryd.ntmps36
    go_wp2_with (first | ((with_reducible refine gate_callee (f := 47) rfl ?_); refine goesL_ (some 4) rfl rfl Tryd.func47 (by kernel_rfl) rfl #[.int .u8 a0] rfl (by (try simp only [List.map_toArray, List.map_cons, List.map_nil]); first | done | rfl | (simp only [List.length_drop, List.length_take]; rfl)) ?_; (with_reducible refine (text_Word.calls a0 true _ A2.out).mono ?_); rintro e w' ⟨rfl, ⟨nd, rfl⟩⟩; refine ⟨_, rfl, ?_⟩))
    go_ret
    exact ⟨by first | rfl | (simp; done) | (simp [*]; done), by repeat (first | exact Drawn0.refl _ | apply Drawn0.step)⟩
  · replace c3 := Bool.eq_false_iff.mpr c3
    subst c3
    have H1 : ((strings_IndexByte.f (⟨#[45, 46, 95, 126]⟩ : ByteArray) a0).bind fun t143 => (some (decide (t143 ≥ 0)))) = some r := by rw [if_neg (show ¬ (false = true) by decide)] at H; exact H
    clear H
    have H := H1
    clear H1
    replace H := Option.bind_eq_some_iff.mp H
    obtain ⟨t143, A40, H⟩ := H
    replace H : (some (decide (t143 ≥ 0))) = some r := H
    have A4 := Aside0.mk A40
    clear A40
    obtain rfl := Option.some.inj H
    go_enter Tryd.func36, Tryd.ntmps36
    go_wp2_with (first | ((with_reducible refine gate_callee (f := 47) rfl ?_); refine goesL_ (some 4) rfl rfl Tryd.func47 (by kernel_rfl) rfl #[.int .u8 a0] rfl (by (try simp only [List.map_toArray, List.map_cons, List.map_nil]); first | done | rfl | (simp only [List.length_drop, List.length_take]; rfl)) ?_; (with_reducible refine (text_Word.calls a0 false _ A2.out).mono ?_); rintro e w' ⟨rfl, ⟨nd, rfl⟩⟩; refine ⟨_, rfl, ?_⟩) | (go_at_call 38; (with_reducible refine (strings_IndexByte.calls (⟨#[45, 46, 95, 126]⟩ : ByteArray) a0 t143 _ A4.out).mono ?_); rintro e w' ⟨rfl, ⟨nd, rfl⟩⟩))
    go_ret
    exact ⟨by first | rfl | (simp; done) | (simp [*]; done), by repeat (first | exact Drawn0.refl _ | apply Drawn0.step)⟩

/-! ### pkce_plain: function 25 -/
def pkce_plain.l0 : Nat → ByteArray → Int → Int → Option (Bool)
  | 0, _, _, _ => none
  | k + 1, x0, x5, x6 => if x6 < x5 then (if 0 ≤ x6 then (if x6 < (x0.size : Int) then ((text_Plain.f (bt x0 x6)).bind fun t144 => (if t144 = true then (pkce_plain.l0 k x0 x5 (wrap64 (x6 + 1))) else (some false))) else (none)) else (none)) else (some true)
def pkce_plain.f (k : Nat) (a0 : ByteArray) : Option (Bool) := pkce_plain.l0 k a0 (a0.size : Int) 0
theorem pkce_plain.mono_l : ∀ k, (∀ y0 y1 y2, LeO (pkce_plain.l0 k y0 y1 y2) (pkce_plain.l0 (k + 1) y0 y1 y2))
  | 0 => fun _ _ _ r h => by simp [pkce_plain.l0] at h
  | k + 1 => by
    have ih0 := pkce_plain.mono_l k
    · intro y0 y1 y2
      unfold pkce_plain.l0
      repeat' first
      | (with_reducible exact ih0 _ _ _)
      | (with_reducible exact LeO.refl _)
      | (with_reducible exact LeO.none _)
      | (with_reducible refine LeO.ite ?_ ?_)
      | (with_reducible refine LeO.bind ?_ (fun _ => ?_))
      | exact ih0 _ _ _
      | exact LeO.none _
      | refine LeO.ite ?_ ?_
      | refine LeO.bind ?_ (fun _ => ?_)
theorem pkce_plain.mono : ∀ a0 k, LeO (pkce_plain.f k a0) (pkce_plain.f (k + 1) a0) := by
  intro a0 k
  have ih0 := pkce_plain.mono_l k
  unfold pkce_plain.f
  repeat' first
      | (with_reducible exact ih0 _ _ _)
      | (with_reducible exact LeO.refl _)
      | (with_reducible exact LeO.none _)
      | (with_reducible refine LeO.ite ?_ ?_)
      | (with_reducible refine LeO.bind ?_ (fun _ => ?_))
      | exact ih0 _ _ _
      | exact LeO.none _
      | refine LeO.ite ?_ ?_
      | refine LeO.bind ?_ (fun _ => ?_)
set_option maxHeartbeats 8000000 in
set_option maxRecDepth 100000 in
theorem pkce_plain.calls (k : Nat) (a0 : ByteArray) (r : Bool) (w : World) (h : pkce_plain.f k a0 = some r) :
    Calls Tryd.prog 25 #[.string a0] w fun e w' => e = .returned (.bool r) ∧ Drawn0 w w' := by
  have H : (pkce_plain.l0 k a0 (a0.size : Int) 0) = some r := h
  clear h
  have H' := Aside0.mk H
  clear H
  go_enter Tryd.func25, Tryd.ntmps25
  go_wp2
  go_loopg [6] k (fun kq v6 w' => ∃ (x6_1 : Int), v6 = .int .i64 x6_1 ∧ Aside0 (pkce_plain.l0 kq a0 (a0.size : Int) x6_1 = some r) ∧ Aside0 (kq ≤ k) ∧ Drawn0 w w')
  case atStart => exact ⟨(0), (by first | rfl | (simp; done) | (simp [*]; done)), H', ⟨Nat.le_refl _⟩, by repeat (first | exact Drawn0.refl _ | apply Drawn0.step)⟩
  case round =>
    clear H'
    obtain ⟨x6_1, rfl, HA, HK1, ⟨m1, rfl⟩⟩ := hrel
    cases gk with
    | zero => exact absurd HA.out (by simp [pkce_plain.l0])
    | succ k1 =>
      have H := HA.out
      clear HA
      simp only [pkce_plain.l0] at H
      by_cases c2 : x6_1 < (a0.size : Int)
      · rw [if_pos c2] at H
        have c2b0 : decide (x6_1 < (a0.size : Int)) = true := decide_eq_true c2
        clear c2
        by_cases c3 : 0 ≤ x6_1
        · rw [if_pos c3] at H
          have c3b0 : decide (0 ≤ x6_1) = true := decide_eq_true c3
          clear c3
          by_cases c4 : x6_1 < (a0.size : Int)
          · rw [if_pos c4] at H
            have c4b0 : decide (x6_1 < (a0.size : Int)) = true := decide_eq_true c4
            clear c4
            replace H := Option.bind_eq_some_iff.mp H
            obtain ⟨t144, A60, H⟩ := H
            replace H : (if t144 = true then (pkce_plain.l0 k1 a0 (a0.size : Int) (wrap64 (x6_1 + 1))) else (some false)) = some r := H
            have A6 := Aside0.mk A60
            clear A60
            by_cases c7 : t144 = true
            · subst c7
              have H1 : (pkce_plain.l0 k1 a0 (a0.size : Int) (wrap64 (x6_1 + 1))) = some r := by rw [if_pos rfl] at H; exact H
              clear H
              have H := H1
              clear H1
              have H' := Aside0.mk H
              clear H
              have p5 : 0 ≤ (x6_1 : Int) := of_decide_eq_true (by first | (with_reducible assumption) | assumption)
              have q5 : x6_1 < (a0.size : Int) := of_decide_eq_true (by first | (with_reducible assumption) | assumption)
              have hx5 := bt_at a0 x6_1
              replace p5 := eq_true p5
              replace q5 := eq_true q5
              go_wp2_with (first | ((with_reducible refine gate_callee (f := 36) rfl ?_); refine goesL_ (some 12) rfl rfl Tryd.func36 (by kernel_rfl) rfl #[.int .u8 (bt a0 x6_1)] rfl (by (try simp only [List.map_toArray, List.map_cons, List.map_nil]); first | done | rfl | (simp only [List.length_drop, List.length_take]; rfl)) ?_; (with_reducible refine (text_Plain.calls (bt a0 x6_1) true _ A6.out).mono ?_); rintro e w' ⟨rfl, ⟨nd, rfl⟩⟩; refine ⟨_, rfl, ?_⟩))
              go_roundg k1
              case measure => have := HK1.out; omega
              case rel => exact ⟨(wrap64 (x6_1 + 1)), (by first | rfl | (simp; done) | (simp [*]; done)), H', ⟨by have := HK1.out; omega⟩, by repeat (first | exact Drawn0.refl _ | apply Drawn0.step)⟩
            · replace c7 := Bool.eq_false_iff.mpr c7
              subst c7
              have H1 : (some false) = some r := by rw [if_neg (show ¬ (false = true) by decide)] at H; exact H
              clear H
              have H := H1
              clear H1
              obtain rfl := Option.some.inj H
              have p5 : 0 ≤ (x6_1 : Int) := of_decide_eq_true (by first | (with_reducible assumption) | assumption)
              have q5 : x6_1 < (a0.size : Int) := of_decide_eq_true (by first | (with_reducible assumption) | assumption)
              have hx5 := bt_at a0 x6_1
              replace p5 := eq_true p5
              replace q5 := eq_true q5
              go_wp2_with (first | ((with_reducible refine gate_callee (f := 36) rfl ?_); refine goesL_ (some 12) rfl rfl Tryd.func36 (by kernel_rfl) rfl #[.int .u8 (bt a0 x6_1)] rfl (by (try simp only [List.map_toArray, List.map_cons, List.map_nil]); first | done | rfl | (simp only [List.length_drop, List.length_take]; rfl)) ?_; (with_reducible refine (text_Plain.calls (bt a0 x6_1) false _ A6.out).mono ?_); rintro e w' ⟨rfl, ⟨nd, rfl⟩⟩; refine ⟨_, rfl, ?_⟩))
              go_ret
              exact ⟨by first | rfl | (simp; done) | (simp [*]; done), by repeat (first | exact Drawn0.refl _ | apply Drawn0.step)⟩
          · rw [if_neg c4] at H
            exact absurd H (by simp)
        · rw [if_neg c3] at H
          exact absurd H (by simp)
      · rw [if_neg c2] at H
        have c2b0 : decide (x6_1 < (a0.size : Int)) = false := decide_eq_false c2
        clear c2
        obtain rfl := Option.some.inj H
        go_wp2
        go_ret
        exact ⟨by first | rfl | (simp; done) | (simp [*]; done), by repeat (first | exact Drawn0.refl _ | apply Drawn0.step)⟩

/-! ### text_Equal: function 26 -/
def text_Equal.l0 : Nat → ByteArray → ByteArray → Int → Int → Int → Option (Bool)
  | 0, _, _, _, _, _ => none
  | k + 1, x0, x1, x5, x14, x15 => if x15 < x14 then (if x15 < (x1.size : Int) then (if 0 ≤ x15 then (if x15 < (x0.size : Int) then (text_Equal.l0 k x0 x1 (Go.bits .or .i64 x5 (wrap64 (Go.bits .xor .u8 (bt x0 x15) (bt x1 x15)))) x14 (wrap64 (x15 + 1))) else (none)) else (none)) else (if 0 ≤ x15 then (if x15 < (x0.size : Int) then (text_Equal.l0 k x0 x1 (Go.bits .or .i64 x5 (wrap64 (Go.bits .xor .u8 (bt x0 x15) 0))) x14 (wrap64 (x15 + 1))) else (none)) else (none))) else (some (x5 == 0))
def text_Equal.f (k : Nat) (a0 : ByteArray) (a1 : ByteArray) : Option (Bool) := text_Equal.l0 k a0 a1 (Go.bits .xor .i64 (a0.size : Int) (a1.size : Int)) (a0.size : Int) 0
theorem text_Equal.mono_l : ∀ k, (∀ y0 y1 y2 y3 y4, LeO (text_Equal.l0 k y0 y1 y2 y3 y4) (text_Equal.l0 (k + 1) y0 y1 y2 y3 y4))
  | 0 => fun _ _ _ _ _ r h => by simp [text_Equal.l0] at h
  | k + 1 => by
    have ih0 := text_Equal.mono_l k
    · intro y0 y1 y2 y3 y4
      unfold text_Equal.l0
      repeat' first
      | (with_reducible exact ih0 _ _ _ _ _)
      | (with_reducible exact LeO.refl _)
      | (with_reducible exact LeO.none _)
      | (with_reducible refine LeO.ite ?_ ?_)
      | (with_reducible refine LeO.bind ?_ (fun _ => ?_))
      | exact ih0 _ _ _ _ _
      | exact LeO.none _
      | refine LeO.ite ?_ ?_
      | refine LeO.bind ?_ (fun _ => ?_)
theorem text_Equal.mono : ∀ a0 a1 k, LeO (text_Equal.f k a0 a1) (text_Equal.f (k + 1) a0 a1) := by
  intro a0 a1 k
  have ih0 := text_Equal.mono_l k
  unfold text_Equal.f
  repeat' first
      | (with_reducible exact ih0 _ _ _ _ _)
      | (with_reducible exact LeO.refl _)
      | (with_reducible exact LeO.none _)
      | (with_reducible refine LeO.ite ?_ ?_)
      | (with_reducible refine LeO.bind ?_ (fun _ => ?_))
      | exact ih0 _ _ _ _ _
      | exact LeO.none _
      | refine LeO.ite ?_ ?_
      | refine LeO.bind ?_ (fun _ => ?_)
set_option maxHeartbeats 8000000 in
set_option maxRecDepth 100000 in
theorem text_Equal.calls (k : Nat) (a0 : ByteArray) (a1 : ByteArray) (r : Bool) (w : World) (h : text_Equal.f k a0 a1 = some r) :
    Calls Tryd.prog 26 #[.string a0, .string a1] w fun e w' => e = .returned (.bool r) ∧ Drawn0 w w' := by
  have H : (text_Equal.l0 k a0 a1 (Go.bits .xor .i64 (a0.size : Int) (a1.size : Int)) (a0.size : Int) 0) = some r := h
  clear h
  have H' := Aside0.mk H
  clear H
  go_enter Tryd.func26, Tryd.ntmps26
  go_wp2
  go_loopg [5, 15] k (fun kq v5 v15 w' => ∃ (x5_1 : Int) (x15_1 : Int), v5 = .int .i64 x5_1 ∧ v15 = .int .i64 x15_1 ∧ Aside0 (text_Equal.l0 kq a0 a1 x5_1 (a0.size : Int) x15_1 = some r) ∧ Aside0 (kq ≤ k) ∧ Drawn0 w w')
  case atStart => exact ⟨(Go.bits .xor .i64 (a0.size : Int) (a1.size : Int)), (0), (by first | rfl | (simp; done) | (simp [*]; done)), (by first | rfl | (simp; done) | (simp [*]; done)), H', ⟨Nat.le_refl _⟩, by repeat (first | exact Drawn0.refl _ | apply Drawn0.step)⟩
  case round =>
    clear H'
    try clear c2
    try clear p2
    obtain ⟨x5_1, x15_1, rfl, rfl, HA, HK1, ⟨m1, rfl⟩⟩ := hrel
    cases gk with
    | zero => exact absurd HA.out (by simp [text_Equal.l0])
    | succ k1 =>
      have H := HA.out
      clear HA
      simp only [text_Equal.l0] at H
      by_cases c3 : x15_1 < (a0.size : Int)
      · rw [if_pos c3] at H
        have c3b0 : decide (x15_1 < (a0.size : Int)) = true := decide_eq_true c3
        clear c3
        by_cases c4 : x15_1 < (a1.size : Int)
        · rw [if_pos c4] at H
          have c4b0 : decide (x15_1 < (a1.size : Int)) = true := decide_eq_true c4
          clear c4
          by_cases c5 : 0 ≤ x15_1
          · rw [if_pos c5] at H
            have c5b0 : decide (0 ≤ x15_1) = true := decide_eq_true c5
            clear c5
            by_cases c7 : x15_1 < (a0.size : Int)
            · rw [if_pos c7] at H
              have c7b0 : decide (x15_1 < (a0.size : Int)) = true := decide_eq_true c7
              clear c7
              have H' := Aside0.mk H
              clear H
              have p6 : 0 ≤ (x15_1 : Int) := of_decide_eq_true (by first | (with_reducible assumption) | assumption)
              have q6 : x15_1 < (a1.size : Int) := of_decide_eq_true (by first | (with_reducible assumption) | assumption)
              have hx6 := bt_at a1 x15_1
              replace p6 := eq_true p6
              replace q6 := eq_true q6
              have p8 : 0 ≤ (x15_1 : Int) := of_decide_eq_true (by first | (with_reducible assumption) | assumption)
              have q8 : x15_1 < (a0.size : Int) := of_decide_eq_true (by first | (with_reducible assumption) | assumption)
              have hx8 := bt_at a0 x15_1
              replace p8 := eq_true p8
              replace q8 := eq_true q8
              go_wp2
              go_roundg k1
              case measure => have := HK1.out; omega
              case rel => exact ⟨(Go.bits .or .i64 x5_1 (wrap64 (Go.bits .xor .u8 (bt a0 x15_1) (bt a1 x15_1)))), (wrap64 (x15_1 + 1)), (by first | rfl | (simp; done) | (simp [*]; done)), (by first | rfl | (simp; done) | (simp [*]; done)), H', ⟨by have := HK1.out; omega⟩, by repeat (first | exact Drawn0.refl _ | apply Drawn0.step)⟩
            · rw [if_neg c7] at H
              exact absurd H (by simp)
          · rw [if_neg c5] at H
            exact absurd H (by simp)
        · rw [if_neg c4] at H
          have c4b0 : decide (x15_1 < (a1.size : Int)) = false := decide_eq_false c4
          clear c4
          by_cases c9 : 0 ≤ x15_1
          · rw [if_pos c9] at H
            have c9b0 : decide (0 ≤ x15_1) = true := decide_eq_true c9
            clear c9
            by_cases c10 : x15_1 < (a0.size : Int)
            · rw [if_pos c10] at H
              have c10b0 : decide (x15_1 < (a0.size : Int)) = true := decide_eq_true c10
              clear c10
              have H' := Aside0.mk H
              clear H
              have p11 : 0 ≤ (x15_1 : Int) := of_decide_eq_true (by first | (with_reducible assumption) | assumption)
              have q11 : x15_1 < (a0.size : Int) := of_decide_eq_true (by first | (with_reducible assumption) | assumption)
              have hx11 := bt_at a0 x15_1
              replace p11 := eq_true p11
              replace q11 := eq_true q11
              go_wp2
              go_roundg k1
              case measure => have := HK1.out; omega
              case rel => exact ⟨(Go.bits .or .i64 x5_1 (wrap64 (Go.bits .xor .u8 (bt a0 x15_1) 0))), (wrap64 (x15_1 + 1)), (by first | rfl | (simp; done) | (simp [*]; done)), (by first | rfl | (simp; done) | (simp [*]; done)), H', ⟨by have := HK1.out; omega⟩, by repeat (first | exact Drawn0.refl _ | apply Drawn0.step)⟩
            · rw [if_neg c10] at H
              exact absurd H (by simp)
          · rw [if_neg c9] at H
            exact absurd H (by simp)
      · rw [if_neg c3] at H
        have c3b0 : decide (x15_1 < (a0.size : Int)) = false := decide_eq_false c3
        clear c3
        obtain rfl := Option.some.inj H
        go_wp2
        go_ret
        exact ⟨by first | rfl | (simp; done) | (simp [*]; done), by repeat (first | exact Drawn0.refl _ | apply Drawn0.step)⟩

/-! ### pkce_Right: function 14 -/
def pkce_Right.f (k : Nat) (a0 : ByteArray) (a1 : ByteArray) : Option (Bool) := if (a1.size : Int) ≥ 43 then (if (a1.size : Int) ≤ 128 then ((pkce_plain.f k a1).bind fun t145 => (if t145 = true then ((pkce_Challenge.f a1).bind fun t146 => ((text_Equal.f k t146 a0).bind fun t147 => (some t147))) else (some false))) else (some false)) else (some false)
theorem pkce_Right.mono : ∀ a0 a1 k, LeO (pkce_Right.f k a0 a1) (pkce_Right.f (k + 1) a0 a1) := by
  intro a0 a1 k
  unfold pkce_Right.f
  repeat' first
      | (with_reducible exact pkce_plain.mono _ _)
      | (with_reducible exact text_Equal.mono _ _ _)
      | (with_reducible exact LeO.refl _)
      | (with_reducible exact LeO.none _)
      | (with_reducible refine LeO.ite ?_ ?_)
      | (with_reducible refine LeO.bind ?_ (fun _ => ?_))
      | exact pkce_plain.mono _ _
      | exact text_Equal.mono _ _ _
      | exact LeO.none _
      | refine LeO.ite ?_ ?_
      | refine LeO.bind ?_ (fun _ => ?_)
set_option maxHeartbeats 8000000 in
set_option maxRecDepth 100000 in
theorem pkce_Right.calls (k : Nat) (a0 : ByteArray) (a1 : ByteArray) (r : Bool) (w : World) (h : pkce_Right.f k a0 a1 = some r) (hGL : GL w) :
    Calls Tryd.prog 14 #[.string a0, .string a1] w fun e w' => e = .returned (.bool r) ∧ Below w.heap.size w w' := by
  have HGL := Aside0.mk hGL
  clear hGL
  have HB := Aside0.mk (Below.refl w.heap.size w)
  have H : (if (a1.size : Int) ≥ 43 then (if (a1.size : Int) ≤ 128 then ((pkce_plain.f k a1).bind fun t145 => (if t145 = true then ((pkce_Challenge.f a1).bind fun t146 => ((text_Equal.f k t146 a0).bind fun t147 => (some t147))) else (some false))) else (some false)) else (some false)) = some r := h
  clear h
  by_cases c3 : (a1.size : Int) ≥ 43
  · rw [if_pos c3] at H
    have c3b0 : decide (43 ≤ (a1.size : Int)) = true := decide_eq_true c3
    have c3b1 : decide (43 ≤ a1.size) = true := decide_eq_true (by omega)
    clear c3
    by_cases c4 : (a1.size : Int) ≤ 128
    · rw [if_pos c4] at H
      have c4b0 : decide ((a1.size : Int) ≤ 128) = true := decide_eq_true c4
      have c4b1 : decide (a1.size ≤ 128) = true := decide_eq_true (by omega)
      clear c4
      replace H := Option.bind_eq_some_iff.mp H
      obtain ⟨t145, A50, H⟩ := H
      replace H : (if t145 = true then ((pkce_Challenge.f a1).bind fun t146 => ((text_Equal.f k t146 a0).bind fun t147 => (some t147))) else (some false)) = some r := H
      have A5 := Aside0.mk A50
      clear A50
      by_cases c6 : t145 = true
      · subst c6
        have H1 : ((pkce_Challenge.f a1).bind fun t146 => ((text_Equal.f k t146 a0).bind fun t147 => (some t147))) = some r := by rw [if_pos rfl] at H; exact H
        clear H
        have H := H1
        clear H1
        replace H := Option.bind_eq_some_iff.mp H
        obtain ⟨t146, A70, H⟩ := H
        replace H : ((text_Equal.f k t146 a0).bind fun t147 => (some t147)) = some r := H
        have A7 := Aside0.mk A70
        clear A70
        replace H := Option.bind_eq_some_iff.mp H
        obtain ⟨t147, A80, H⟩ := H
        replace H : (some t147) = some r := H
        have A8 := Aside0.mk A80
        clear A80
        obtain rfl := Option.some.inj H
        go_enter Tryd.func14, Tryd.ntmps14
        go_wp2_with (first | (go_at_call 25; (with_reducible refine (pkce_plain.calls k a1 true _ A5.out).mono ?_); rintro e w' ⟨rfl, ⟨nd, rfl⟩⟩) | (go_at_call 18; (with_reducible refine (pkce_Challenge.calls a1 t146 _ A7.out (GL.below HGL.out (by repeat (first | (with_reducible first | exact HB.out | apply below_alloc | apply pw_below_drewN | apply below_drew1) | exact HB.out)))).mono ?_); rintro e w9 ⟨rfl, hb⟩; have n0_ := Aside0.mk (below_step (by repeat (first | (with_reducible first | exact HB.out | apply below_alloc | apply pw_below_drewN | apply below_drew1) | exact HB.out)) hb); clear HB; have HB := n0_; clear n0_; (try clear hb); (try clear hb2); (try clear hk); (try clear hi)) | (go_at_call 26; (with_reducible refine (text_Equal.calls k t146 a0 t147 _ A8.out).mono ?_); rintro e w' ⟨rfl, ⟨nd, rfl⟩⟩))
        go_ret
        exact ⟨by first | rfl | (simp [errW_none, errW_some] <;> rfl) | (simp [*, errW_none, errW_some] <;> rfl), by repeat (first | (with_reducible first | exact HB.out | apply below_alloc | apply pw_below_drewN | apply below_drew1) | exact HB.out)⟩
      · replace c6 := Bool.eq_false_iff.mpr c6
        subst c6
        have H1 : (some false) = some r := by rw [if_neg (show ¬ (false = true) by decide)] at H; exact H
        clear H
        have H := H1
        clear H1
        obtain rfl := Option.some.inj H
        go_enter Tryd.func14, Tryd.ntmps14
        go_wp2_with (first | (go_at_call 25; (with_reducible refine (pkce_plain.calls k a1 false _ A5.out).mono ?_); rintro e w' ⟨rfl, ⟨nd, rfl⟩⟩))
        go_ret
        exact ⟨by first | rfl | (simp [errW_none, errW_some] <;> rfl) | (simp [*, errW_none, errW_some] <;> rfl), by repeat (first | (with_reducible first | exact HB.out | apply below_alloc | apply pw_below_drewN | apply below_drew1) | exact HB.out)⟩
    · rw [if_neg c4] at H
      have c4b0 : decide ((a1.size : Int) ≤ 128) = false := decide_eq_false c4
      have c4b1 : decide (a1.size ≤ 128) = false := decide_eq_false (by omega)
      clear c4
      obtain rfl := Option.some.inj H
      go_enter Tryd.func14, Tryd.ntmps14
      go_wp2
      go_ret
      exact ⟨by first | rfl | (simp [errW_none, errW_some] <;> rfl) | (simp [*, errW_none, errW_some] <;> rfl), by repeat (first | (with_reducible first | exact HB.out | apply below_alloc | apply pw_below_drewN | apply below_drew1) | exact HB.out)⟩
  · rw [if_neg c3] at H
    have c3b0 : decide (43 ≤ (a1.size : Int)) = false := decide_eq_false c3
    have c3b1 : decide (43 ≤ a1.size) = false := decide_eq_false (by omega)
    clear c3
    obtain rfl := Option.some.inj H
    go_enter Tryd.func14, Tryd.ntmps14
    go_wp2
    go_ret
    exact ⟨by first | rfl | (simp [errW_none, errW_some] <;> rfl) | (simp [*, errW_none, errW_some] <;> rfl), by repeat (first | (with_reducible first | exact HB.out | apply below_alloc | apply pw_below_drewN | apply below_drew1) | exact HB.out)⟩

/-! ### text_Decode: function 28, by hand -/
def DecRel (s : ByteArray) (B b : Nat) (k bits h : Nat) (wr : World) : Prop :=
  bits < 4294967296 ∧ B ≤ wr.heap.size ∧ ∃ bs : List UInt8, bs.length ≤ k ∧ Lib.IsBuilderF 52 5 B b (Lib.byteCells bs) wr ∧ (decS (s.data.toList.drop k) (bits % 2 ^ h) h).map (bs ++ ·) = decS s.data.toList 0 0

/-- What Decode gives: the bytes, and 0; or nothing, and ErrForm. -/
def decR (l : List UInt8) : ByteArray × Int := match dec l with
  | some o => (⟨o.toArray⟩, 0)
  | none => (⟨#[]⟩, 2)
theorem decR_none {l : List UInt8} (h : decS l 0 0 = none) : decR l = (⟨#[]⟩, 2) := by simp [decR, dec, h]
theorem decR_other {l o : List UInt8} (h : decS l 0 0 = some o) (he : enc o ≠ l) : decR l = (⟨#[]⟩, 2) := by simp [decR, dec, h, he]
theorem decR_some {l o : List UInt8} (h : decS l 0 0 = some o) (he : enc o = l) : decR l = (⟨o.toArray⟩, 0) := by simp [decR, dec, h, he]

set_option maxHeartbeats 2000000 in
theorem text_Decode.says (s : ByteArray) (w : World) (hs : s.size ≤ 1000000000) : Calls Tryd.prog 28 #[.string s] w fun e w' => e = .returned (.tuple #[.string (decR s.data.toList).1, .int .i64 (decR s.data.toList).2]) ∧ Below w.heap.size w w' := by
  go_enter Tryd.func28, Tryd.ntmps28
  go_wp2
  go_loopw [5, 6, 11] (fun v5 v6 v11 wr => ∃ (k bits h : Nat) , k ≤ s.size ∧ v11 = .int .i64 k ∧ v5 = .int .u32 bits ∧ h < 8 ∧ v6 = .int .i64 h ∧ DecRel s w.heap.size w.heap.size k bits h wr ∧ Below w.heap.size w wr) (fun _ _ v11 _ => s.size - (intOf v11).toNat)
  case atStart =>
    exact ⟨0, 0, 0, by omega, rfl, rfl, by omega, rfl, ⟨by omega, by simp, [], by simp, Lib.IsBuilderF.of (Lib.fresh_isBuilder 52 5 w), by simp⟩, (Below.refl _ _).alloc (Nat.le_refl _) _⟩
  case round =>
    obtain ⟨k, bits, h, hk, rfl, rfl, hh, rfl, hR, hb⟩ := hrel
    obtain ⟨hbits, hBw, bs, hlen, hB, hbs⟩ := hR
    by_cases hlt : k < s.size
    · rw [show s.data.toList.drop k = s[k] :: s.data.toList.drop (k + 1) from List.drop_eq_getElem_cons (by simpa using hlt)] at hbs
      have hx0 := s[k].toNat_lt
      obtain ⟨v, hv⟩ : ∃ v : Int, v = Lib.indexByte alph s[k] := ⟨_, rfl⟩
      have hv64 := ix64 s[k]
      rw [← hv] at hv64
      have Hv := Lib.hid hv
      have Hbs := Lib.hid hbs
      clear hv hbs
      go_wp2_with fail
      refine (Tryd.strings_IndexByte _ _ _).mono ?_
      rintro e w1 ⟨rfl, rfl⟩
      rw [show Lib.indexByte (⟨#[65, 66, 67, 68, 69, 70, 71, 72, 73, 74, 75, 76, 77, 78, 79, 80, 81, 82, 83, 84, 85, 86, 87, 88, 89, 90, 97, 98, 99, 100, 101, 102, 103, 104, 105, 106, 107, 108, 109, 110, 111, 112, 113, 114, 115, 116, 117, 118, 119, 120, 121, 122, 48, 49, 50, 51, 52, 53, 54, 55, 56, 57, 45, 95]⟩ : ByteArray).data.toList ((s[k].toNat : Int)).toNat.toUInt8 = v from by rw [Hv.out]; congr 1; simp]
      by_cases hneg : v < 0
      · have hd : decS s.data.toList 0 0 = none := by
          rw [← Hbs.out, decS_no _ _ _ (by rw [← Hv.out]; exact hneg)]; rfl
        have HR := Lib.hid (decR_none hd)
        clear hd
        go_wp2
        go_ret2
        rw [HR.out]
        exact ⟨rfl, hb⟩
      · obtain ⟨i, rfl⟩ : ∃ i : Nat, v = i := ⟨v.toNat, by omega⟩
        obtain ⟨x, hx⟩ : ∃ x : Nat, x = bits * 64 % 4294967296 + i := ⟨_, rfl⟩
        have e0 : Go.bits BinOp.or IntKind.u32 (↑bits * 64 % 4294967296) (i : Int) = (x : Int) := by
          rw [hx, ← u32_or6 (bits * 64 % 4294967296) i (by omega) (by omega) (by omega)]
          congr 1
        have hxm : x % 2 ^ (h + 6) = bits % 2 ^ h * 64 + i := by rw [hx]; exact dec_put _ _ _ hh (by omega)
        have hx32 : x < 4294967296 := by omega
        have Hxm := Lib.hid hxm
        clear hx hxm
        by_cases h8 : 8 ≤ h + 6
        · have hd8 : decide (8 ≤ (h : Int) + 6) = true := by simp; omega
          obtain ⟨h', rfl⟩ : ∃ h', h = h' + 2 := ⟨h - 2, by omega⟩
          have e8 : ((h' : Int) + 2 + 6 - 8) = (h' : Int) := by omega
          go_wp2_with fail
          rw [show ((x : Int) / 2 ^ (h') % 256) = ((UInt8.ofNat (x / 2 ^ h' % 256)).toNat : Int) from by simp]
          refine (bld_byte w.heap.size w.heap.size (Lib.byteCells bs) ((UInt8.ofNat (x / 2 ^ h' % 256)).toNat) _ hB ?_ hBw).mono ?_
          · rw [Lib.byteCells_length]; omega
          rintro e w1 ⟨rfl, hB1, hb1, -⟩
          go_wp2
          go_roundw
          case measure => simp [intOf]; omega
          case rel =>
            refine ⟨k + 1, x, h', by omega, by go_num, rfl, by omega, rfl, ⟨hx32, Nat.le_trans hBw hb1.size, bs ++ [UInt8.ofNat (x / 2 ^ h' % 256)], ?_, .inr (by simpa [Lib.byteCells] using hB1), ?_⟩, hb.trans hb1⟩
            · simp; omega
            · rw [← Hbs.out, decS_out _ _ _ _ Hv.out.symm h8, ← Hxm.out]
              have d1 := dec_digit x (h' + 2) (by omega) hh
              have d2 := dec_rest x (h' + 2) (by omega)
              rw [show h' + 2 - 2 = h' from rfl] at d1 d2
              rw [show h' + 2 - 2 = h' from rfl, d2, ← d1, Option.map_map]
              congr 1
              funext y
              simp
        · have hd8 : decide (8 ≤ (h : Int) + 6) = false := by simp; omega
          go_wp2
          go_roundw
          case measure => simp [intOf]; omega
          case rel =>
            refine ⟨k + 1, x, h + 6, by omega, by go_num, rfl, by omega, by go_num, ⟨hx32, hBw, bs, by omega, hB, ?_⟩, hb⟩
            rw [← Hbs.out, decS_in _ _ _ _ Hv.out.symm h8, ← Hxm.out]
    · obtain rfl : k = s.size := by omega
      rw [List.drop_of_length_le (by simp), decS, Option.map_some, List.append_nil] at hbs
      have Hbs := Lib.hid hbs
      clear hbs
      go_wp2_with fail
      refine (Tryd.Builder_String_any_k w.heap.size w.heap.size bs _ hB hBw).mono ?_
      rintro e w1 ⟨rfl, hB1, hb1, -⟩
      go_wp2_with fail
      have hbsz : (⟨bs.toArray⟩ : ByteArray).size ≤ 1000000000 := by show bs.toArray.size ≤ _; simp; omega
      refine (text_Encode.says ⟨bs.toArray⟩ w1 hbsz).mono ?_
      rintro e w2 ⟨rfl, hb2⟩
      rw [show (⟨bs.toArray⟩ : ByteArray).data.toList = bs from rfl]
      have hds : decS s.data.toList 0 0 = some bs := Hbs.out.symm
      by_cases he : enc bs = s.data.toList
      · have heq : (enc bs == s.toList) = true := by rw [ByteArray.toList_eq, he]; simp
        have HR := Lib.hid (decR_some hds he)
        clear hds he
        go_wp2_with fail
        refine (Tryd.Builder_String_any_k w.heap.size w.heap.size bs _ (bldF_below hB1 hb2) (Nat.le_trans (Nat.le_trans hBw hb1.size) hb2.size)).mono ?_
        rintro e w3 ⟨rfl, -, hb3, -⟩
        go_wp2
        go_ret2
        rw [HR.out]
        exact ⟨rfl, ((hb.trans hb1).trans (hb2.mono (Nat.le_trans hBw hb1.size))).trans hb3⟩
      · have heq : (enc bs == s.toList) = false := by rw [ByteArray.toList_eq]; simpa using he
        have HR := Lib.hid (decR_other hds he)
        clear hds he
        go_wp2
        go_ret2
        rw [HR.out]
        exact ⟨rfl, (hb.trans hb1).trans (hb2.mono (Nat.le_trans hBw hb1.size))⟩

def text_Decode.f (a0 : ByteArray) : Option (ByteArray × Int) := if a0.size ≤ 1000000000 then some (decR a0.data.toList) else none
theorem text_Decode.calls (a0 : ByteArray) (r1 : ByteArray) (r2 : Int) (w : World) (h : text_Decode.f a0 = some (r1, r2)) :
    Calls Tryd.prog 28 #[.string a0] w fun e w' => e = .returned (.tuple #[.string r1, .int .i64 r2]) ∧ Below w.heap.size w w' := by
  unfold text_Decode.f at h
  split at h
  case isTrue hs =>
    have hr := Option.some.inj h
    have := text_Decode.says a0 w hs
    rw [hr] at this
    exact this
  case isFalse hs => exact absurd h (by simp)

/-! ### pkce_Good: function 16 -/
def pkce_Good.f (a0 : ByteArray) : Option (Bool) := (text_Decode.f a0).bind fun bt148 => (if bt148.2 = 0 then (some ((bt148.1.size : Int) == 32)) else (some false))
set_option maxHeartbeats 8000000 in
set_option maxRecDepth 100000 in
theorem pkce_Good.calls (a0 : ByteArray) (r : Bool) (w : World) (h : pkce_Good.f a0 = some r) :
    Calls Tryd.prog 16 #[.string a0] w fun e w' => e = .returned (.bool r) ∧ Below w.heap.size w w' := by
  have HB := Aside0.mk (Below.refl w.heap.size w)
  have H : ((text_Decode.f a0).bind fun bt148 => (if bt148.2 = 0 then (some ((bt148.1.size : Int) == 32)) else (some false))) = some r := h
  clear h
  replace H := Option.bind_eq_some_iff.mp H
  obtain ⟨⟨t148, t149⟩, A20, H⟩ := H
  replace H : (if t149 = 0 then (some ((t148.size : Int) == 32)) else (some false)) = some r := H
  have A2 := Aside0.mk A20
  clear A20
  by_cases c3 : t149 = 0
  · rw [if_pos c3] at H
    have c3b0 : (t149 == 0) = true := beq_iff_eq.mpr c3
    have c3b1 : (t149 != 0) = false := bne_eq_false_iff_eq.mpr c3
    clear c3
    obtain rfl := Option.some.inj H
    go_enter Tryd.func16, Tryd.ntmps16
    go_wp2_with (first | ((with_reducible refine gate_callee (f := 28) rfl ?_); refine goesL_ (some 7) rfl rfl Tryd.func28 (by kernel_rfl) rfl #[.string a0] rfl (by (try simp only [List.map_toArray, List.map_cons, List.map_nil]); first | done | rfl | (simp only [List.length_drop, List.length_take]; rfl)) ?_; (with_reducible refine (text_Decode.calls a0 t148 t149 _ A2.out).mono ?_); rintro e w4 ⟨rfl, hb⟩; refine ⟨_, rfl, ?_⟩; have n0_ := Aside0.mk (below_step (by repeat (first | (with_reducible first | exact HB.out | apply below_alloc | apply pw_below_drewN | apply below_drew1) | exact HB.out)) hb); clear HB; have HB := n0_; clear n0_; (try clear hb); (try clear hb2); (try clear hk); (try clear hi)))
    go_ret
    exact ⟨by first | rfl | (simp [errW_none, errW_some] <;> rfl) | (simp [*, errW_none, errW_some] <;> rfl), by repeat (first | (with_reducible first | exact HB.out | apply below_alloc | apply pw_below_drewN | apply below_drew1) | exact HB.out)⟩
  · rw [if_neg c3] at H
    have c3b0 : (t149 == 0) = false := beq_eq_false_iff_ne.mpr c3
    have c3b1 : (t149 != 0) = true := bne_iff_ne.mpr c3
    obtain rfl := Option.some.inj H
    go_enter Tryd.func16, Tryd.ntmps16
    go_wp2_with (first | ((with_reducible refine gate_callee (f := 28) rfl ?_); refine goesL_ (some 7) rfl rfl Tryd.func28 (by kernel_rfl) rfl #[.string a0] rfl (by (try simp only [List.map_toArray, List.map_cons, List.map_nil]); first | done | rfl | (simp only [List.length_drop, List.length_take]; rfl)) ?_; (with_reducible refine (text_Decode.calls a0 t148 t149 _ A2.out).mono ?_); rintro e w5 ⟨rfl, hb⟩; refine ⟨_, rfl, ?_⟩; have n0_ := Aside0.mk (below_step (by repeat (first | (with_reducible first | exact HB.out | apply below_alloc | apply pw_below_drewN | apply below_drew1) | exact HB.out)) hb); clear HB; have HB := n0_; clear n0_; (try clear hb); (try clear hb2); (try clear hk); (try clear hi)))
    go_ret
    exact ⟨by first | rfl | (simp [errW_none, errW_some] <;> rfl) | (simp [*, errW_none, errW_some] <;> rfl), by repeat (first | (with_reducible first | exact HB.out | apply below_alloc | apply pw_below_drewN | apply below_drew1) | exact HB.out)⟩

/-! ### exequaturlaw09_answers: function 13 -/
def exequaturlaw09_answers.f (k : Nat)  : Option (Bool) := (pkce_Challenge.f (⟨#[48, 49, 50, 51, 52, 53, 54, 55, 56, 57, 48, 49, 50, 51, 52, 53, 54, 55, 56, 57, 48, 49, 50, 51, 52, 53, 54, 55, 56, 57, 48, 49, 50, 51, 52, 53, 54, 55, 56, 57, 48, 49, 50]⟩ : ByteArray)).bind fun t150 => ((pkce_Right.f k t150 (⟨#[48, 49, 50, 51, 52, 53, 54, 55, 56, 57, 48, 49, 50, 51, 52, 53, 54, 55, 56, 57, 48, 49, 50, 51, 52, 53, 54, 55, 56, 57, 48, 49, 50, 51, 52, 53, 54, 55, 56, 57, 48, 49, 50]⟩ : ByteArray)).bind fun t151 => (if t151 = true then ((pkce_Challenge.f (⟨#[]⟩ : ByteArray)).bind fun t152 => ((pkce_Good.f t152).bind fun t153 => (some t153))) else (some false)))
theorem exequaturlaw09_answers.mono : ∀ k, LeO (exequaturlaw09_answers.f k ) (exequaturlaw09_answers.f (k + 1) ) := by
  intro  k
  unfold exequaturlaw09_answers.f
  repeat' first
      | (with_reducible exact pkce_Right.mono _ _ _)
      | (with_reducible exact LeO.refl _)
      | (with_reducible exact LeO.none _)
      | (with_reducible refine LeO.ite ?_ ?_)
      | (with_reducible refine LeO.bind ?_ (fun _ => ?_))
      | exact pkce_Right.mono _ _ _
      | exact LeO.none _
      | refine LeO.ite ?_ ?_
      | refine LeO.bind ?_ (fun _ => ?_)
set_option maxHeartbeats 8000000 in
set_option maxRecDepth 100000 in
theorem exequaturlaw09_answers.calls (k : Nat)  (r : Bool) (w : World) (h : exequaturlaw09_answers.f k  = some r) (hGL : GL w) :
    Calls Tryd.prog 13 #[] w fun e w' => e = .returned (.bool r) ∧ Below w.heap.size w w' := by
  have HGL := Aside0.mk hGL
  clear hGL
  have HB := Aside0.mk (Below.refl w.heap.size w)
  have H : ((pkce_Challenge.f (⟨#[48, 49, 50, 51, 52, 53, 54, 55, 56, 57, 48, 49, 50, 51, 52, 53, 54, 55, 56, 57, 48, 49, 50, 51, 52, 53, 54, 55, 56, 57, 48, 49, 50, 51, 52, 53, 54, 55, 56, 57, 48, 49, 50]⟩ : ByteArray)).bind fun t150 => ((pkce_Right.f k t150 (⟨#[48, 49, 50, 51, 52, 53, 54, 55, 56, 57, 48, 49, 50, 51, 52, 53, 54, 55, 56, 57, 48, 49, 50, 51, 52, 53, 54, 55, 56, 57, 48, 49, 50, 51, 52, 53, 54, 55, 56, 57, 48, 49, 50]⟩ : ByteArray)).bind fun t151 => (if t151 = true then ((pkce_Challenge.f (⟨#[]⟩ : ByteArray)).bind fun t152 => ((pkce_Good.f t152).bind fun t153 => (some t153))) else (some false)))) = some r := h
  clear h
  replace H := Option.bind_eq_some_iff.mp H
  obtain ⟨t150, A10, H⟩ := H
  replace H : ((pkce_Right.f k t150 (⟨#[48, 49, 50, 51, 52, 53, 54, 55, 56, 57, 48, 49, 50, 51, 52, 53, 54, 55, 56, 57, 48, 49, 50, 51, 52, 53, 54, 55, 56, 57, 48, 49, 50, 51, 52, 53, 54, 55, 56, 57, 48, 49, 50]⟩ : ByteArray)).bind fun t151 => (if t151 = true then ((pkce_Challenge.f (⟨#[]⟩ : ByteArray)).bind fun t152 => ((pkce_Good.f t152).bind fun t153 => (some t153))) else (some false))) = some r := H
  have A1 := Aside0.mk A10
  clear A10
  replace H := Option.bind_eq_some_iff.mp H
  obtain ⟨t151, A20, H⟩ := H
  replace H : (if t151 = true then ((pkce_Challenge.f (⟨#[]⟩ : ByteArray)).bind fun t152 => ((pkce_Good.f t152).bind fun t153 => (some t153))) else (some false)) = some r := H
  have A2 := Aside0.mk A20
  clear A20
  by_cases c3 : t151 = true
  · subst c3
    have H1 : ((pkce_Challenge.f (⟨#[]⟩ : ByteArray)).bind fun t152 => ((pkce_Good.f t152).bind fun t153 => (some t153))) = some r := by rw [if_pos rfl] at H; exact H
    clear H
    have H := H1
    clear H1
    replace H := Option.bind_eq_some_iff.mp H
    obtain ⟨t152, A40, H⟩ := H
    replace H : ((pkce_Good.f t152).bind fun t153 => (some t153)) = some r := H
    have A4 := Aside0.mk A40
    clear A40
    replace H := Option.bind_eq_some_iff.mp H
    obtain ⟨t153, A50, H⟩ := H
    replace H : (some t153) = some r := H
    have A5 := Aside0.mk A50
    clear A50
    obtain rfl := Option.some.inj H
    go_enter Tryd.func13, Tryd.ntmps13
    go_wp2_with (first | ((with_reducible refine gate_callee (f := 18) rfl ?_); refine goesL_ (some 3) rfl rfl Tryd.func18 (by kernel_rfl) rfl #[.string (⟨#[48, 49, 50, 51, 52, 53, 54, 55, 56, 57, 48, 49, 50, 51, 52, 53, 54, 55, 56, 57, 48, 49, 50, 51, 52, 53, 54, 55, 56, 57, 48, 49, 50, 51, 52, 53, 54, 55, 56, 57, 48, 49, 50]⟩ : ByteArray)] rfl (by (try simp only [List.map_toArray, List.map_cons, List.map_nil]); first | done | rfl | (simp only [List.length_drop, List.length_take]; rfl)) ?_; (with_reducible refine (pkce_Challenge.calls (⟨#[48, 49, 50, 51, 52, 53, 54, 55, 56, 57, 48, 49, 50, 51, 52, 53, 54, 55, 56, 57, 48, 49, 50, 51, 52, 53, 54, 55, 56, 57, 48, 49, 50, 51, 52, 53, 54, 55, 56, 57, 48, 49, 50]⟩ : ByteArray) t150 _ A1.out (GL.below HGL.out (by repeat (first | (with_reducible first | exact HB.out | apply below_alloc | apply pw_below_drewN | apply below_drew1) | exact HB.out)))).mono ?_); rintro e w6 ⟨rfl, hb⟩; refine ⟨_, rfl, ?_⟩; have n0_ := Aside0.mk (below_step (by repeat (first | (with_reducible first | exact HB.out | apply below_alloc | apply pw_below_drewN | apply below_drew1) | exact HB.out)) hb); clear HB; have HB := n0_; clear n0_; (try clear hb); (try clear hb2); (try clear hk); (try clear hi)) | ((with_reducible refine gate_callee (f := 14) rfl ?_); refine goesL_ (some 5) rfl rfl Tryd.func14 (by kernel_rfl) rfl #[.string t150, .string (⟨#[48, 49, 50, 51, 52, 53, 54, 55, 56, 57, 48, 49, 50, 51, 52, 53, 54, 55, 56, 57, 48, 49, 50, 51, 52, 53, 54, 55, 56, 57, 48, 49, 50, 51, 52, 53, 54, 55, 56, 57, 48, 49, 50]⟩ : ByteArray)] rfl (by (try simp only [List.map_toArray, List.map_cons, List.map_nil]); first | done | rfl | (simp only [List.length_drop, List.length_take]; rfl)) ?_; (with_reducible refine (pkce_Right.calls k t150 (⟨#[48, 49, 50, 51, 52, 53, 54, 55, 56, 57, 48, 49, 50, 51, 52, 53, 54, 55, 56, 57, 48, 49, 50, 51, 52, 53, 54, 55, 56, 57, 48, 49, 50, 51, 52, 53, 54, 55, 56, 57, 48, 49, 50]⟩ : ByteArray) true _ A2.out (GL.below HGL.out (by repeat (first | (with_reducible first | exact HB.out | apply below_alloc | apply pw_below_drewN | apply below_drew1) | exact HB.out)))).mono ?_); rintro e w7 ⟨rfl, hb⟩; refine ⟨_, rfl, ?_⟩; have n0_ := Aside0.mk (below_step (by repeat (first | (with_reducible first | exact HB.out | apply below_alloc | apply pw_below_drewN | apply below_drew1) | exact HB.out)) hb); clear HB; have HB := n0_; clear n0_; (try clear hb); (try clear hb2); (try clear hk); (try clear hi)) | (go_at_call 18; (with_reducible refine (pkce_Challenge.calls (⟨#[]⟩ : ByteArray) t152 _ A4.out (GL.below HGL.out (by repeat (first | (with_reducible first | exact HB.out | apply below_alloc | apply pw_below_drewN | apply below_drew1) | exact HB.out)))).mono ?_); rintro e w8 ⟨rfl, hb⟩; have n0_ := Aside0.mk (below_step (by repeat (first | (with_reducible first | exact HB.out | apply below_alloc | apply pw_below_drewN | apply below_drew1) | exact HB.out)) hb); clear HB; have HB := n0_; clear n0_; (try clear hb); (try clear hb2); (try clear hk); (try clear hi)) | (go_at_call 16; (with_reducible refine (pkce_Good.calls t152 t153 _ A5.out).mono ?_); rintro e w9 ⟨rfl, hb⟩; have n0_ := Aside0.mk (below_step (by repeat (first | (with_reducible first | exact HB.out | apply below_alloc | apply pw_below_drewN | apply below_drew1) | exact HB.out)) hb); clear HB; have HB := n0_; clear n0_; (try clear hb); (try clear hb2); (try clear hk); (try clear hi)))
    go_ret
    exact ⟨by first | rfl | (simp [errW_none, errW_some] <;> rfl) | (simp [*, errW_none, errW_some] <;> rfl), by repeat (first | (with_reducible first | exact HB.out | apply below_alloc | apply pw_below_drewN | apply below_drew1) | exact HB.out)⟩
  · replace c3 := Bool.eq_false_iff.mpr c3
    subst c3
    have H1 : (some false) = some r := by rw [if_neg (show ¬ (false = true) by decide)] at H; exact H
    clear H
    have H := H1
    clear H1
    obtain rfl := Option.some.inj H
    go_enter Tryd.func13, Tryd.ntmps13
    go_wp2_with (first | ((with_reducible refine gate_callee (f := 18) rfl ?_); refine goesL_ (some 3) rfl rfl Tryd.func18 (by kernel_rfl) rfl #[.string (⟨#[48, 49, 50, 51, 52, 53, 54, 55, 56, 57, 48, 49, 50, 51, 52, 53, 54, 55, 56, 57, 48, 49, 50, 51, 52, 53, 54, 55, 56, 57, 48, 49, 50, 51, 52, 53, 54, 55, 56, 57, 48, 49, 50]⟩ : ByteArray)] rfl (by (try simp only [List.map_toArray, List.map_cons, List.map_nil]); first | done | rfl | (simp only [List.length_drop, List.length_take]; rfl)) ?_; (with_reducible refine (pkce_Challenge.calls (⟨#[48, 49, 50, 51, 52, 53, 54, 55, 56, 57, 48, 49, 50, 51, 52, 53, 54, 55, 56, 57, 48, 49, 50, 51, 52, 53, 54, 55, 56, 57, 48, 49, 50, 51, 52, 53, 54, 55, 56, 57, 48, 49, 50]⟩ : ByteArray) t150 _ A1.out (GL.below HGL.out (by repeat (first | (with_reducible first | exact HB.out | apply below_alloc | apply pw_below_drewN | apply below_drew1) | exact HB.out)))).mono ?_); rintro e w10 ⟨rfl, hb⟩; refine ⟨_, rfl, ?_⟩; have n0_ := Aside0.mk (below_step (by repeat (first | (with_reducible first | exact HB.out | apply below_alloc | apply pw_below_drewN | apply below_drew1) | exact HB.out)) hb); clear HB; have HB := n0_; clear n0_; (try clear hb); (try clear hb2); (try clear hk); (try clear hi)) | ((with_reducible refine gate_callee (f := 14) rfl ?_); refine goesL_ (some 5) rfl rfl Tryd.func14 (by kernel_rfl) rfl #[.string t150, .string (⟨#[48, 49, 50, 51, 52, 53, 54, 55, 56, 57, 48, 49, 50, 51, 52, 53, 54, 55, 56, 57, 48, 49, 50, 51, 52, 53, 54, 55, 56, 57, 48, 49, 50, 51, 52, 53, 54, 55, 56, 57, 48, 49, 50]⟩ : ByteArray)] rfl (by (try simp only [List.map_toArray, List.map_cons, List.map_nil]); first | done | rfl | (simp only [List.length_drop, List.length_take]; rfl)) ?_; (with_reducible refine (pkce_Right.calls k t150 (⟨#[48, 49, 50, 51, 52, 53, 54, 55, 56, 57, 48, 49, 50, 51, 52, 53, 54, 55, 56, 57, 48, 49, 50, 51, 52, 53, 54, 55, 56, 57, 48, 49, 50, 51, 52, 53, 54, 55, 56, 57, 48, 49, 50]⟩ : ByteArray) false _ A2.out (GL.below HGL.out (by repeat (first | (with_reducible first | exact HB.out | apply below_alloc | apply pw_below_drewN | apply below_drew1) | exact HB.out)))).mono ?_); rintro e w11 ⟨rfl, hb⟩; refine ⟨_, rfl, ?_⟩; have n0_ := Aside0.mk (below_step (by repeat (first | (with_reducible first | exact HB.out | apply below_alloc | apply pw_below_drewN | apply below_drew1) | exact HB.out)) hb); clear HB; have HB := n0_; clear n0_; (try clear hb); (try clear hb2); (try clear hk); (try clear hi)))
    go_ret
    exact ⟨by first | rfl | (simp [errW_none, errW_some] <;> rfl) | (simp [*, errW_none, errW_some] <;> rfl), by repeat (first | (with_reducible first | exact HB.out | apply below_alloc | apply pw_below_drewN | apply below_drew1) | exact HB.out)⟩

end Go.Proofs.YtfoepbjbgohhdaaDoor.Q
