-- Written by a program of this session (wip/xprint.py) over the kit's print.py; Lean checks it.
import Derived.Test.YtfoepbjbgohhdaaQ0
namespace Go.Proofs.Ytfoepbjbgohhdaa.Q
open Go.RowKit Go.Proofs.YtfoepbjbgohhdaaW.PrintWords Go.Proofs.YtfoepbjbgohhdaaW.PrintLast Go.Proofs.YtfoepbjbgohhdaaW.PrintMore
attribute [local go_sem] max2_int min2_int max_two min_two max_three min_three max_four min_four   -- for this text's walks alone
open Go.Proofs.Ytfoepbjbgohhdaa.X
set_option linter.unusedVariables false
set_option linter.unusedSimpArgs false

-- NOT PRINTED: function 33 (abi_NoEscape)

-- NOT PRINTED: function 29 (strings_Builder_copyCheck)

-- NOT PRINTED: function 20 (strings_Builder_WriteByte)

-- NOT PRINTED: function 21 (strings_Builder_String)

/-! ### text_Encode: function 11, by hand -/
def EncRel (s : ByteArray) (B b : Nat) (k bits h : Nat) (wr : World) : Prop :=
  bits < 4294967296 ∧ B ≤ wr.heap.size ∧ ∃ bs : List UInt8, bs.length * 6 + h ≤ 8 * k ∧ Lib.IsBuilderF 35 5 B b (Lib.byteCells bs) wr ∧ bs ++ encS (s.data.toList.drop k) (bits % 2 ^ h) h = enc s.data.toList

set_option maxHeartbeats 1000000 in
theorem text_Encode.says (s : ByteArray) (w : World) (hs : s.size ≤ 1000000000) : Calls Try.prog 11 #[.string s] w fun e w' => e = .returned (.string ⟨(enc s.data.toList).toArray⟩) ∧ Below w.heap.size w w' := by
  go_enter Try.func11, Try.ntmps11
  go_wp2
  go_loopw [4, 5, 9] (fun v4 v5 v9 wr => ∃ (k bits h : Nat) , k ≤ s.size ∧ v9 = .int .i64 k ∧ v4 = .int .u32 bits ∧ h < 6 ∧ v5 = .int .i64 h ∧ EncRel s w.heap.size w.heap.size k bits h wr ∧ Below w.heap.size w wr) (fun _ _ v9 _ => s.size - (intOf v9).toNat)
  case atStart =>
    exact ⟨0, 0, 0, by omega, rfl, rfl, by omega, rfl, ⟨by omega, by simp, [], by simp, Lib.IsBuilderF.of (Lib.fresh_isBuilder 35 5 w), by simp [enc]⟩, (Below.refl _ _).alloc (Nat.le_refl _) _⟩
  case round =>
    obtain ⟨k, bits, h, hk, rfl, rfl, hh, rfl, hR, hb⟩ := hrel
    by_cases hlt : k < s.size
    · have hx0 := s[k].toNat_lt
      obtain ⟨x, hx⟩ : ∃ x : Nat, x = bits * 256 % 4294967296 + s[k].toNat := ⟨_, rfl⟩
      have e0 : Go.bits BinOp.or IntKind.u32 (↑bits * 256 % 4294967296) (↑s[k].toNat % 4294967296) = (x : Int) := by
        rw [hx, ← u32_or8 (bits * 256 % 4294967296) s[k].toNat (by omega) (by omega) (by omega), show ((s[k].toNat : Nat) : Int) % 4294967296 = (s[k].toNat : Int) from by omega]
        congr 1
      have hxm : x % 2 ^ (h + 8) = bits % 2 ^ h * 256 + s[k].toNat := by rw [hx]; exact enc_put _ _ _ hh hx0
      have hx32 : x < 4294967296 := by omega
      have hR1 : EncRel s w.heap.size w.heap.size (k + 1) x (h + 8) wr := by
        obtain ⟨hbits, hBw, bs, hlen, hB, hbs⟩ := hR
        refine ⟨hx32, hBw, bs, by omega, hB, ?_⟩
        rw [← hbs, hxm]
        congr 1
        rw [show s.data.toList.drop k = s[k] :: s.data.toList.drop (k + 1) from List.drop_eq_getElem_cons (by simpa using hlt), encS_cons _ _ _ _ hh]
      clear hxm hx0
      clear hx hR
      go_wp2
      clear e0
      obtain ⟨wo, rfl⟩ : ∃ wo : World, wo = wr := ⟨_, rfl⟩
      go_loopw [5] (fun v5 wr => ∃ (h2 : Nat) , h2 < 18 ∧ v5 = .int .i64 h2 ∧ EncRel s w.heap.size w.heap.size (k+1) x h2 wr ∧ Below w.heap.size w wr) (fun v5 _ => (intOf v5).toNat)
      case atStart => exact ⟨h + 8, by omega, by go_num, hR1, hb⟩
      case round =>
        clear hR1 hb
        obtain ⟨h2, hh2, rfl, hR2, hb⟩ := hrel
        by_cases h6 : 6 ≤ h2
        · obtain ⟨-, hBw, bs, hlen, hB, hbs⟩ := hR2
          have Hbs := Lib.hid hbs
          clear hbs
          have hdec : decide (6 ≤ (h2 : Int)) = true := by simp; omega
          have e1 : Go.bits BinOp.and IntKind.u32 (↑x / 2 ^ (h2 - 6)) 63 = ((x / 2 ^ (h2 - 6) % 64 : Nat) : Int) := by
            rw [← u32_and63 (x / 2 ^ (h2 - 6)) (Nat.lt_of_le_of_lt (Nat.div_le_self _ _) hx32)]; simp
          obtain ⟨j, hj⟩ : ∃ j, j = x / 2 ^ (h2 - 6) % 64 := ⟨_, rfl⟩
          rw [← hj] at e1
          have hj64 : j < 64 := by omega
          have Hj := Lib.hid hj
          clear hj
          have hat := alph_at j hj64
          unfold alphS at hat
          go_wp2_with fail
          refine (bld_byte w.heap.size w.heap.size (Lib.byteCells bs) ((al j).toNat) _ hB ?_ hBw).mono ?_
          · rw [Lib.byteCells_length]; omega
          rintro e w1 ⟨rfl, hB1, hb1, -⟩
          go_wp2
          go_roundw
          case measure => simp [intOf]; omega
          case rel =>
            refine ⟨h2 - 6, by omega, by go_num, ⟨hx32, Nat.le_trans hBw hb1.size, bs ++ [al j], ?_, .inr (by rw [← enc_one_put]; exact hB1), ?_⟩, hb.trans hb1⟩
            · simp; omega
            · rw [← Hbs.out, encS_emit _ _ _ h6, ← enc_digit _ _ h6 hh2, ← Hj.out, enc_rest _ _ h6]
              simp
        · have hdec : decide (6 ≤ (h2 : Int)) = false := by simp; omega
          go_wp2
          go_roundw
          case measure => simp [intOf]; omega
          case rel => exact ⟨k + 1, x, h2, by omega, by go_num, rfl, by omega, rfl, hR2, hb⟩
    · obtain rfl : k = s.size := by omega
      obtain ⟨hbits, hBw, bs, hlen, hB, hbs⟩ := hR
      rw [List.drop_of_length_le (by simp), encS_nil _ _ hh] at hbs
      have Hbs := Lib.hid hbs
      clear hbs
      by_cases h0 : h = 0
      · subst h0
        go_wp2_with fail
        refine (Try.Builder_String_any_k w.heap.size w.heap.size bs _ hB hBw).mono ?_
        rintro e w1 ⟨rfl, -, hb1, -⟩
        go_wp2
        go_ret
        refine ⟨?_, hb.trans hb1⟩
        rw [← Hbs.out]; simp
      · have e1 : Go.bits BinOp.and IntKind.u32 (↑bits * 2 ^ (6 - h) % 4294967296) 63 = ((bits * 2 ^ (6 - h) % 4294967296 % 64 : Nat) : Int) := by
          rw [← u32_and63 (bits * 2 ^ (6 - h) % 4294967296) (by omega)]; simp
        obtain ⟨j, hj⟩ : ∃ j, j = bits * 2 ^ (6 - h) % 4294967296 % 64 := ⟨_, rfl⟩
        rw [← hj] at e1
        have hj64 : j < 64 := by omega
        have Hj := Lib.hid hj
        clear hj
        have hat := alph_at j hj64
        unfold alphS at hat
        have hpos : decide (0 < h) = true := by simp; omega
        go_wp2_with fail
        refine (bld_byte w.heap.size w.heap.size (Lib.byteCells bs) ((al j).toNat) _ hB ?_ hBw).mono ?_
        · rw [Lib.byteCells_length]; omega
        rintro e w1 ⟨rfl, hB1, hb1, -⟩
        go_wp2_with fail
        refine (Try.Builder_String_any_k w.heap.size w.heap.size (bs ++ [al j]) _ (.inr (by rw [← enc_one_put]; exact hB1)) (Nat.le_trans hBw hb1.size)).mono ?_
        rintro e w2 ⟨rfl, -, hb2, -⟩
        go_wp2
        go_ret
        refine ⟨?_, (hb.trans hb1).trans hb2⟩
        rw [← Hbs.out, if_neg h0, ← enc_last _ _ hh, ← Hj.out]
        rfl

def text_Encode.f (a0 : ByteArray) : Option (ByteArray) := if a0.size ≤ 1000000000 then some ⟨(enc a0.data.toList).toArray⟩ else none
theorem text_Encode.calls (a0 : ByteArray) (r : ByteArray) (w : World) (h : text_Encode.f a0 = some r) :
    Calls Try.prog 11 #[.string a0] w fun e w' => e = .returned (.string r) ∧ Below w.heap.size w w' := by
  unfold text_Encode.f at h
  split at h
  case isTrue hs =>
    obtain rfl := Option.some.inj h
    exact text_Encode.says a0 w hs
  case isFalse hs => exact absurd h (by simp)

-- NOT PRINTED: function 34 (bytealg_IndexByteString)

-- NOT PRINTED: function 30 (stringslite_IndexByte)

/-! ### strings_IndexByte: function 22, by hand -/
def strings_IndexByte.f (a0 : ByteArray) (a1 : Int) : Option (Int) := some (Lib.indexByte a0.data.toList a1.toNat.toUInt8)
theorem strings_IndexByte.calls (a0 : ByteArray) (a1 : Int) (r : Int) (w : World) (h : strings_IndexByte.f a0 a1 = some r) :
    Calls Try.prog 22 #[.string a0, .int .u8 a1] w fun e w' => e = .returned (.int .i64 r) ∧ Drawn0 w w' := by
  refine (Try.strings_IndexByte a0 a1 w).mono ?_
  rintro e w' ⟨rfl, rfl⟩
  unfold strings_IndexByte.f at h
  obtain rfl := Option.some.inj h
  exact ⟨rfl, Drawn0.refl _⟩

/-! ### text_Decode: function 12, by hand -/
def DecRel (s : ByteArray) (B b : Nat) (k bits h : Nat) (wr : World) : Prop :=
  bits < 4294967296 ∧ B ≤ wr.heap.size ∧ ∃ bs : List UInt8, bs.length ≤ k ∧ Lib.IsBuilderF 35 5 B b (Lib.byteCells bs) wr ∧ (decS (s.data.toList.drop k) (bits % 2 ^ h) h).map (bs ++ ·) = decS s.data.toList 0 0

/-- What Decode gives: the bytes, and 0; or nothing, and ErrForm. -/
def decR (l : List UInt8) : ByteArray × Int := match dec l with
  | some o => (⟨o.toArray⟩, 0)
  | none => (⟨#[]⟩, 2)
theorem decR_none {l : List UInt8} (h : decS l 0 0 = none) : decR l = (⟨#[]⟩, 2) := by simp [decR, dec, h]
theorem decR_other {l o : List UInt8} (h : decS l 0 0 = some o) (he : enc o ≠ l) : decR l = (⟨#[]⟩, 2) := by simp [decR, dec, h, he]
theorem decR_some {l o : List UInt8} (h : decS l 0 0 = some o) (he : enc o = l) : decR l = (⟨o.toArray⟩, 0) := by simp [decR, dec, h, he]

set_option maxHeartbeats 2000000 in
theorem text_Decode.says (s : ByteArray) (w : World) (hs : s.size ≤ 1000000000) : Calls Try.prog 12 #[.string s] w fun e w' => e = .returned (.tuple #[.string (decR s.data.toList).1, .int .i64 (decR s.data.toList).2]) ∧ Below w.heap.size w w' := by
  go_enter Try.func12, Try.ntmps12
  go_wp2
  go_loopw [5, 6, 11] (fun v5 v6 v11 wr => ∃ (k bits h : Nat) , k ≤ s.size ∧ v11 = .int .i64 k ∧ v5 = .int .u32 bits ∧ h < 8 ∧ v6 = .int .i64 h ∧ DecRel s w.heap.size w.heap.size k bits h wr ∧ Below w.heap.size w wr) (fun _ _ v11 _ => s.size - (intOf v11).toNat)
  case atStart =>
    exact ⟨0, 0, 0, by omega, rfl, rfl, by omega, rfl, ⟨by omega, by simp, [], by simp, Lib.IsBuilderF.of (Lib.fresh_isBuilder 35 5 w), by simp⟩, (Below.refl _ _).alloc (Nat.le_refl _) _⟩
  case round =>
    obtain ⟨k, bits, h, hk, rfl, rfl, hh, rfl, hR, hb⟩ := hrel
    obtain ⟨hbits, hBw, bs, hlen, hB, hbs⟩ := hR
    by_cases hlt : k < s.size
    · rw [show s.data.toList.drop k = s[k] :: s.data.toList.drop (k + 1) from List.drop_eq_getElem_cons (by simpa using hlt)] at hbs
      have hx0 := s[k].toNat_lt
      obtain ⟨v, hv⟩ : ∃ v : Int, v = Lib.indexByte alph s[k] := ⟨_, rfl⟩
      have hv64 := ix64 s[k]
      rw [← hv] at hv64
      have Hv := Lib.hid hv
      have Hbs := Lib.hid hbs
      clear hv hbs
      go_wp2_with fail
      refine (Try.strings_IndexByte _ _ _).mono ?_
      rintro e w1 ⟨rfl, rfl⟩
      rw [show Lib.indexByte (⟨#[65, 66, 67, 68, 69, 70, 71, 72, 73, 74, 75, 76, 77, 78, 79, 80, 81, 82, 83, 84, 85, 86, 87, 88, 89, 90, 97, 98, 99, 100, 101, 102, 103, 104, 105, 106, 107, 108, 109, 110, 111, 112, 113, 114, 115, 116, 117, 118, 119, 120, 121, 122, 48, 49, 50, 51, 52, 53, 54, 55, 56, 57, 45, 95]⟩ : ByteArray).data.toList ((s[k].toNat : Int)).toNat.toUInt8 = v from by rw [Hv.out]; congr 1; simp]
      by_cases hneg : v < 0
      · have hd : decS s.data.toList 0 0 = none := by
          rw [← Hbs.out, decS_no _ _ _ (by rw [← Hv.out]; exact hneg)]; rfl
        have HR := Lib.hid (decR_none hd)
        clear hd
        go_wp2
        go_ret2
        rw [HR.out]
        exact ⟨rfl, hb⟩
      · obtain ⟨i, rfl⟩ : ∃ i : Nat, v = i := ⟨v.toNat, by omega⟩
        obtain ⟨x, hx⟩ : ∃ x : Nat, x = bits * 64 % 4294967296 + i := ⟨_, rfl⟩
        have e0 : Go.bits BinOp.or IntKind.u32 (↑bits * 64 % 4294967296) (i : Int) = (x : Int) := by
          rw [hx, ← u32_or6 (bits * 64 % 4294967296) i (by omega) (by omega) (by omega)]
          congr 1
        have hxm : x % 2 ^ (h + 6) = bits % 2 ^ h * 64 + i := by rw [hx]; exact dec_put _ _ _ hh (by omega)
        have hx32 : x < 4294967296 := by omega
        have Hxm := Lib.hid hxm
        clear hx hxm
        by_cases h8 : 8 ≤ h + 6
        · have hd8 : decide (8 ≤ (h : Int) + 6) = true := by simp; omega
          obtain ⟨h', rfl⟩ : ∃ h', h = h' + 2 := ⟨h - 2, by omega⟩
          have e8 : ((h' : Int) + 2 + 6 - 8) = (h' : Int) := by omega
          go_wp2_with fail
          rw [show ((x : Int) / 2 ^ (h') % 256) = ((UInt8.ofNat (x / 2 ^ h' % 256)).toNat : Int) from by simp]
          refine (bld_byte w.heap.size w.heap.size (Lib.byteCells bs) ((UInt8.ofNat (x / 2 ^ h' % 256)).toNat) _ hB ?_ hBw).mono ?_
          · rw [Lib.byteCells_length]; omega
          rintro e w1 ⟨rfl, hB1, hb1, -⟩
          go_wp2
          go_roundw
          case measure => simp [intOf]; omega
          case rel =>
            refine ⟨k + 1, x, h', by omega, by go_num, rfl, by omega, rfl, ⟨hx32, Nat.le_trans hBw hb1.size, bs ++ [UInt8.ofNat (x / 2 ^ h' % 256)], ?_, .inr (by simpa [Lib.byteCells] using hB1), ?_⟩, hb.trans hb1⟩
            · simp; omega
            · rw [← Hbs.out, decS_out _ _ _ _ Hv.out.symm h8, ← Hxm.out]
              have d1 := dec_digit x (h' + 2) (by omega) hh
              have d2 := dec_rest x (h' + 2) (by omega)
              rw [show h' + 2 - 2 = h' from rfl] at d1 d2
              rw [show h' + 2 - 2 = h' from rfl, d2, ← d1, Option.map_map]
              congr 1
              funext y
              simp
        · have hd8 : decide (8 ≤ (h : Int) + 6) = false := by simp; omega
          go_wp2
          go_roundw
          case measure => simp [intOf]; omega
          case rel =>
            refine ⟨k + 1, x, h + 6, by omega, by go_num, rfl, by omega, by go_num, ⟨hx32, hBw, bs, by omega, hB, ?_⟩, hb⟩
            rw [← Hbs.out, decS_in _ _ _ _ Hv.out.symm h8, ← Hxm.out]
    · obtain rfl : k = s.size := by omega
      rw [List.drop_of_length_le (by simp), decS, Option.map_some, List.append_nil] at hbs
      have Hbs := Lib.hid hbs
      clear hbs
      go_wp2_with fail
      refine (Try.Builder_String_any_k w.heap.size w.heap.size bs _ hB hBw).mono ?_
      rintro e w1 ⟨rfl, hB1, hb1, -⟩
      go_wp2_with fail
      have hbsz : (⟨bs.toArray⟩ : ByteArray).size ≤ 1000000000 := by show bs.toArray.size ≤ _; simp; omega
      refine (text_Encode.says ⟨bs.toArray⟩ w1 hbsz).mono ?_
      rintro e w2 ⟨rfl, hb2⟩
      rw [show (⟨bs.toArray⟩ : ByteArray).data.toList = bs from rfl]
      have hds : decS s.data.toList 0 0 = some bs := Hbs.out.symm
      by_cases he : enc bs = s.data.toList
      · have heq : (enc bs == s.toList) = true := by rw [ByteArray.toList_eq, he]; simp
        have HR := Lib.hid (decR_some hds he)
        clear hds he
        go_wp2_with fail
        refine (Try.Builder_String_any_k w.heap.size w.heap.size bs _ (bldF_below hB1 hb2) (Nat.le_trans (Nat.le_trans hBw hb1.size) hb2.size)).mono ?_
        rintro e w3 ⟨rfl, -, hb3, -⟩
        go_wp2
        go_ret2
        rw [HR.out]
        exact ⟨rfl, ((hb.trans hb1).trans (hb2.mono (Nat.le_trans hBw hb1.size))).trans hb3⟩
      · have heq : (enc bs == s.toList) = false := by rw [ByteArray.toList_eq]; simpa using he
        have HR := Lib.hid (decR_other hds he)
        clear hds he
        go_wp2
        go_ret2
        rw [HR.out]
        exact ⟨rfl, (hb.trans hb1).trans (hb2.mono (Nat.le_trans hBw hb1.size))⟩

def text_Decode.f (a0 : ByteArray) : Option (ByteArray × Int) := if a0.size ≤ 1000000000 then some (decR a0.data.toList) else none
theorem text_Decode.calls (a0 : ByteArray) (r1 : ByteArray) (r2 : Int) (w : World) (h : text_Decode.f a0 = some (r1, r2)) :
    Calls Try.prog 12 #[.string a0] w fun e w' => e = .returned (.tuple #[.string r1, .int .i64 r2]) ∧ Below w.heap.size w w' := by
  unfold text_Decode.f at h
  split at h
  case isTrue hs =>
    have hr := Option.some.inj h
    have := text_Decode.says a0 w hs
    rw [hr] at this
    exact this
  case isFalse hs => exact absurd h (by simp)

/-! ### text_Equal: function 15 -/
def text_Equal.l0 : Nat → ByteArray → ByteArray → Int → Int → Int → Option (Bool)
  | 0, _, _, _, _, _ => none
  | k + 1, x0, x1, x5, x14, x15 => if x15 < x14 then (if x15 < (x1.size : Int) then (if 0 ≤ x15 then (if x15 < (x0.size : Int) then (text_Equal.l0 k x0 x1 (Go.bits .or .i64 x5 (wrap64 (Go.bits .xor .u8 (bt x0 x15) (bt x1 x15)))) x14 (wrap64 (x15 + 1))) else (none)) else (none)) else (if 0 ≤ x15 then (if x15 < (x0.size : Int) then (text_Equal.l0 k x0 x1 (Go.bits .or .i64 x5 (wrap64 (Go.bits .xor .u8 (bt x0 x15) 0))) x14 (wrap64 (x15 + 1))) else (none)) else (none))) else (some (x5 == 0))
def text_Equal.f (k : Nat) (a0 : ByteArray) (a1 : ByteArray) : Option (Bool) := text_Equal.l0 k a0 a1 (Go.bits .xor .i64 (a0.size : Int) (a1.size : Int)) (a0.size : Int) 0
theorem text_Equal.mono_l : ∀ k, (∀ y0 y1 y2 y3 y4, LeO (text_Equal.l0 k y0 y1 y2 y3 y4) (text_Equal.l0 (k + 1) y0 y1 y2 y3 y4))
  | 0 => fun _ _ _ _ _ r h => by simp [text_Equal.l0] at h
  | k + 1 => by
    have ih0 := text_Equal.mono_l k
    · intro y0 y1 y2 y3 y4
      unfold text_Equal.l0
      repeat' first
      | (with_reducible exact ih0 _ _ _ _ _)
      | (with_reducible exact LeO.refl _)
      | (with_reducible exact LeO.none _)
      | (with_reducible refine LeO.ite ?_ ?_)
      | (with_reducible refine LeO.bind ?_ (fun _ => ?_))
      | exact ih0 _ _ _ _ _
      | exact LeO.none _
      | refine LeO.ite ?_ ?_
      | refine LeO.bind ?_ (fun _ => ?_)
theorem text_Equal.mono : ∀ a0 a1 k, LeO (text_Equal.f k a0 a1) (text_Equal.f (k + 1) a0 a1) := by
  intro a0 a1 k
  have ih0 := text_Equal.mono_l k
  unfold text_Equal.f
  repeat' first
      | (with_reducible exact ih0 _ _ _ _ _)
      | (with_reducible exact LeO.refl _)
      | (with_reducible exact LeO.none _)
      | (with_reducible refine LeO.ite ?_ ?_)
      | (with_reducible refine LeO.bind ?_ (fun _ => ?_))
      | exact ih0 _ _ _ _ _
      | exact LeO.none _
      | refine LeO.ite ?_ ?_
      | refine LeO.bind ?_ (fun _ => ?_)
set_option maxHeartbeats 8000000 in
set_option maxRecDepth 100000 in
theorem text_Equal.calls (k : Nat) (a0 : ByteArray) (a1 : ByteArray) (r : Bool) (w : World) (h : text_Equal.f k a0 a1 = some r) :
    Calls Try.prog 15 #[.string a0, .string a1] w fun e w' => e = .returned (.bool r) ∧ Drawn0 w w' := by
  have H : (text_Equal.l0 k a0 a1 (Go.bits .xor .i64 (a0.size : Int) (a1.size : Int)) (a0.size : Int) 0) = some r := h
  clear h
  have H' := Aside0.mk H
  clear H
  go_enter Try.func15, Try.ntmps15
  go_wp2
  go_loopg [5, 15] k (fun kq v5 v15 w' => ∃ (x5_1 : Int) (x15_1 : Int), v5 = .int .i64 x5_1 ∧ v15 = .int .i64 x15_1 ∧ Aside0 (text_Equal.l0 kq a0 a1 x5_1 (a0.size : Int) x15_1 = some r) ∧ Aside0 (kq ≤ k) ∧ Drawn0 w w')
  case atStart => exact ⟨(Go.bits .xor .i64 (a0.size : Int) (a1.size : Int)), (0), (by first | rfl | (simp; done) | (simp [*]; done)), (by first | rfl | (simp; done) | (simp [*]; done)), H', ⟨Nat.le_refl _⟩, by repeat (first | exact Drawn0.refl _ | apply Drawn0.step)⟩
  case round =>
    clear H'
    try clear c1
    try clear p2
    obtain ⟨x5_1, x15_1, rfl, rfl, HA, HK1, ⟨m1, rfl⟩⟩ := hrel
    cases gk with
    | zero => exact absurd HA.out (by simp [text_Equal.l0])
    | succ k1 =>
      have H := HA.out
      clear HA
      simp only [text_Equal.l0] at H
      by_cases c3 : x15_1 < (a0.size : Int)
      · rw [if_pos c3] at H
        have c3b0 : decide (x15_1 < (a0.size : Int)) = true := decide_eq_true c3
        clear c3
        by_cases c4 : x15_1 < (a1.size : Int)
        · rw [if_pos c4] at H
          have c4b0 : decide (x15_1 < (a1.size : Int)) = true := decide_eq_true c4
          clear c4
          by_cases c5 : 0 ≤ x15_1
          · rw [if_pos c5] at H
            have c5b0 : decide (0 ≤ x15_1) = true := decide_eq_true c5
            clear c5
            by_cases c7 : x15_1 < (a0.size : Int)
            · rw [if_pos c7] at H
              have c7b0 : decide (x15_1 < (a0.size : Int)) = true := decide_eq_true c7
              clear c7
              have H' := Aside0.mk H
              clear H
              have p6 : 0 ≤ (x15_1 : Int) := of_decide_eq_true (by first | (with_reducible assumption) | assumption)
              have q6 : x15_1 < (a1.size : Int) := of_decide_eq_true (by first | (with_reducible assumption) | assumption)
              have hx6 := bt_at a1 x15_1
              replace p6 := eq_true p6
              replace q6 := eq_true q6
              have p8 : 0 ≤ (x15_1 : Int) := of_decide_eq_true (by first | (with_reducible assumption) | assumption)
              have q8 : x15_1 < (a0.size : Int) := of_decide_eq_true (by first | (with_reducible assumption) | assumption)
              have hx8 := bt_at a0 x15_1
              replace p8 := eq_true p8
              replace q8 := eq_true q8
              go_wp2
              go_roundg k1
              case measure => have := HK1.out; omega
              case rel => exact ⟨(Go.bits .or .i64 x5_1 (wrap64 (Go.bits .xor .u8 (bt a0 x15_1) (bt a1 x15_1)))), (wrap64 (x15_1 + 1)), (by first | rfl | (simp; done) | (simp [*]; done)), (by first | rfl | (simp; done) | (simp [*]; done)), H', ⟨by have := HK1.out; omega⟩, by repeat (first | exact Drawn0.refl _ | apply Drawn0.step)⟩
            · rw [if_neg c7] at H
              exact absurd H (by simp)
          · rw [if_neg c5] at H
            exact absurd H (by simp)
        · rw [if_neg c4] at H
          have c4b0 : decide (x15_1 < (a1.size : Int)) = false := decide_eq_false c4
          clear c4
          by_cases c9 : 0 ≤ x15_1
          · rw [if_pos c9] at H
            have c9b0 : decide (0 ≤ x15_1) = true := decide_eq_true c9
            clear c9
            by_cases c10 : x15_1 < (a0.size : Int)
            · rw [if_pos c10] at H
              have c10b0 : decide (x15_1 < (a0.size : Int)) = true := decide_eq_true c10
              clear c10
              have H' := Aside0.mk H
              clear H
              have p11 : 0 ≤ (x15_1 : Int) := of_decide_eq_true (by first | (with_reducible assumption) | assumption)
              have q11 : x15_1 < (a0.size : Int) := of_decide_eq_true (by first | (with_reducible assumption) | assumption)
              have hx11 := bt_at a0 x15_1
              replace p11 := eq_true p11
              replace q11 := eq_true q11
              go_wp2
              go_roundg k1
              case measure => have := HK1.out; omega
              case rel => exact ⟨(Go.bits .or .i64 x5_1 (wrap64 (Go.bits .xor .u8 (bt a0 x15_1) 0))), (wrap64 (x15_1 + 1)), (by first | rfl | (simp; done) | (simp [*]; done)), (by first | rfl | (simp; done) | (simp [*]; done)), H', ⟨by have := HK1.out; omega⟩, by repeat (first | exact Drawn0.refl _ | apply Drawn0.step)⟩
            · rw [if_neg c10] at H
              exact absurd H (by simp)
          · rw [if_neg c9] at H
            exact absurd H (by simp)
      · rw [if_neg c3] at H
        have c3b0 : decide (x15_1 < (a0.size : Int)) = false := decide_eq_false c3
        clear c3
        obtain rfl := Option.some.inj H
        go_wp2
        go_ret
        exact ⟨by first | rfl | (simp; done) | (simp [*]; done), by repeat (first | exact Drawn0.refl _ | apply Drawn0.step)⟩

/-! ### text_Word: function 31 -/
def text_Word.f (a0 : Int) : Option (Bool) := if a0 ≥ 97 then (if a0 ≤ 122 then (some true) else (if a0 ≥ 65 then (if a0 ≤ 90 then (some true) else (if a0 ≥ 48 then (some (decide (a0 ≤ 57))) else (some false))) else (if a0 ≥ 48 then (some (decide (a0 ≤ 57))) else (some false)))) else (if a0 ≥ 65 then (if a0 ≤ 90 then (some true) else (if a0 ≥ 48 then (some (decide (a0 ≤ 57))) else (some false))) else (if a0 ≥ 48 then (some (decide (a0 ≤ 57))) else (some false)))
set_option maxHeartbeats 8000000 in
set_option maxRecDepth 100000 in
theorem text_Word.calls (a0 : Int) (r : Bool) (w : World) (h : text_Word.f a0 = some r) :
    Calls Try.prog 31 #[.int .u8 a0] w fun e w' => e = .returned (.bool r) ∧ Drawn0 w w' := by
  have H : (if a0 ≥ 97 then (if a0 ≤ 122 then (some true) else (if a0 ≥ 65 then (if a0 ≤ 90 then (some true) else (if a0 ≥ 48 then (some (decide (a0 ≤ 57))) else (some false))) else (if a0 ≥ 48 then (some (decide (a0 ≤ 57))) else (some false)))) else (if a0 ≥ 65 then (if a0 ≤ 90 then (some true) else (if a0 ≥ 48 then (some (decide (a0 ≤ 57))) else (some false))) else (if a0 ≥ 48 then (some (decide (a0 ≤ 57))) else (some false)))) = some r := h
  clear h
  by_cases c2 : a0 ≥ 97
  · rw [if_pos c2] at H
    have c2b0 : decide (97 ≤ a0) = true := decide_eq_true c2
    clear c2
    by_cases c3 : a0 ≤ 122
    · rw [if_pos c3] at H
      have c3b0 : decide (a0 ≤ 122) = true := decide_eq_true c3
      clear c3
      obtain rfl := Option.some.inj H
      go_enter Try.func31, Try.ntmps31
      go_wp2
      go_ret
      exact ⟨by first | rfl | (simp; done) | (simp [*]; done), by repeat (first | exact Drawn0.refl _ | apply Drawn0.step)⟩
    · rw [if_neg c3] at H
      have c3b0 : decide (a0 ≤ 122) = false := decide_eq_false c3
      clear c3
      by_cases c4 : a0 ≥ 65
      · rw [if_pos c4] at H
        have c4b0 : decide (65 ≤ a0) = true := decide_eq_true c4
        clear c4
        by_cases c5 : a0 ≤ 90
        · rw [if_pos c5] at H
          have c5b0 : decide (a0 ≤ 90) = true := decide_eq_true c5
          clear c5
          obtain rfl := Option.some.inj H
          go_enter Try.func31, Try.ntmps31
          go_wp2
          go_ret
          exact ⟨by first | rfl | (simp; done) | (simp [*]; done), by repeat (first | exact Drawn0.refl _ | apply Drawn0.step)⟩
        · rw [if_neg c5] at H
          have c5b0 : decide (a0 ≤ 90) = false := decide_eq_false c5
          clear c5
          by_cases c6 : a0 ≥ 48
          · rw [if_pos c6] at H
            have c6b0 : decide (48 ≤ a0) = true := decide_eq_true c6
            clear c6
            obtain rfl := Option.some.inj H
            go_enter Try.func31, Try.ntmps31
            go_wp2
            go_ret
            exact ⟨by first | rfl | (simp; done) | (simp [*]; done), by repeat (first | exact Drawn0.refl _ | apply Drawn0.step)⟩
          · rw [if_neg c6] at H
            have c6b0 : decide (48 ≤ a0) = false := decide_eq_false c6
            clear c6
            obtain rfl := Option.some.inj H
            go_enter Try.func31, Try.ntmps31
            go_wp2
            go_ret
            exact ⟨by first | rfl | (simp; done) | (simp [*]; done), by repeat (first | exact Drawn0.refl _ | apply Drawn0.step)⟩
      · rw [if_neg c4] at H
        have c4b0 : decide (65 ≤ a0) = false := decide_eq_false c4
        clear c4
        by_cases c7 : a0 ≥ 48
        · rw [if_pos c7] at H
          have c7b0 : decide (48 ≤ a0) = true := decide_eq_true c7
          clear c7
          obtain rfl := Option.some.inj H
          go_enter Try.func31, Try.ntmps31
          go_wp2
          go_ret
          exact ⟨by first | rfl | (simp; done) | (simp [*]; done), by repeat (first | exact Drawn0.refl _ | apply Drawn0.step)⟩
        · rw [if_neg c7] at H
          have c7b0 : decide (48 ≤ a0) = false := decide_eq_false c7
          clear c7
          obtain rfl := Option.some.inj H
          go_enter Try.func31, Try.ntmps31
          go_wp2
          go_ret
          exact ⟨by first | rfl | (simp; done) | (simp [*]; done), by repeat (first | exact Drawn0.refl _ | apply Drawn0.step)⟩
  · rw [if_neg c2] at H
    have c2b0 : decide (97 ≤ a0) = false := decide_eq_false c2
    clear c2
    by_cases c8 : a0 ≥ 65
    · rw [if_pos c8] at H
      have c8b0 : decide (65 ≤ a0) = true := decide_eq_true c8
      clear c8
      by_cases c9 : a0 ≤ 90
      · rw [if_pos c9] at H
        have c9b0 : decide (a0 ≤ 90) = true := decide_eq_true c9
        clear c9
        obtain rfl := Option.some.inj H
        go_enter Try.func31, Try.ntmps31
        go_wp2
        go_ret
        exact ⟨by first | rfl | (simp; done) | (simp [*]; done), by repeat (first | exact Drawn0.refl _ | apply Drawn0.step)⟩
      · rw [if_neg c9] at H
        have c9b0 : decide (a0 ≤ 90) = false := decide_eq_false c9
        clear c9
        by_cases c10 : a0 ≥ 48
        · rw [if_pos c10] at H
          have c10b0 : decide (48 ≤ a0) = true := decide_eq_true c10
          clear c10
          obtain rfl := Option.some.inj H
          go_enter Try.func31, Try.ntmps31
          go_wp2
          go_ret
          exact ⟨by first | rfl | (simp; done) | (simp [*]; done), by repeat (first | exact Drawn0.refl _ | apply Drawn0.step)⟩
        · rw [if_neg c10] at H
          have c10b0 : decide (48 ≤ a0) = false := decide_eq_false c10
          clear c10
          obtain rfl := Option.some.inj H
          go_enter Try.func31, Try.ntmps31
          go_wp2
          go_ret
          exact ⟨by first | rfl | (simp; done) | (simp [*]; done), by repeat (first | exact Drawn0.refl _ | apply Drawn0.step)⟩
    · rw [if_neg c8] at H
      have c8b0 : decide (65 ≤ a0) = false := decide_eq_false c8
      clear c8
      by_cases c11 : a0 ≥ 48
      · rw [if_pos c11] at H
        have c11b0 : decide (48 ≤ a0) = true := decide_eq_true c11
        clear c11
        obtain rfl := Option.some.inj H
        go_enter Try.func31, Try.ntmps31
        go_wp2
        go_ret
        exact ⟨by first | rfl | (simp; done) | (simp [*]; done), by repeat (first | exact Drawn0.refl _ | apply Drawn0.step)⟩
      · rw [if_neg c11] at H
        have c11b0 : decide (48 ≤ a0) = false := decide_eq_false c11
        clear c11
        obtain rfl := Option.some.inj H
        go_enter Try.func31, Try.ntmps31
        go_wp2
        go_ret
        exact ⟨by first | rfl | (simp; done) | (simp [*]; done), by repeat (first | exact Drawn0.refl _ | apply Drawn0.step)⟩

/-! ### text_Plain: function 24 -/
def text_Plain.f (a0 : Int) : Option (Bool) := (text_Word.f a0).bind fun t101 => (if t101 = true then (some true) else ((strings_IndexByte.f (⟨#[45, 46, 95, 126]⟩ : ByteArray) a0).bind fun t102 => (some (decide (t102 ≥ 0)))))
set_option maxHeartbeats 8000000 in
set_option maxRecDepth 100000 in
theorem text_Plain.calls (a0 : Int) (r : Bool) (w : World) (h : text_Plain.f a0 = some r) :
    Calls Try.prog 24 #[.int .u8 a0] w fun e w' => e = .returned (.bool r) ∧ Drawn0 w w' := by
  have H : ((text_Word.f a0).bind fun t101 => (if t101 = true then (some true) else ((strings_IndexByte.f (⟨#[45, 46, 95, 126]⟩ : ByteArray) a0).bind fun t102 => (some (decide (t102 ≥ 0)))))) = some r := h
  clear h
  replace H := Option.bind_eq_some_iff.mp H
  obtain ⟨t101, A20, H⟩ := H
  replace H : (if t101 = true then (some true) else ((strings_IndexByte.f (⟨#[45, 46, 95, 126]⟩ : ByteArray) a0).bind fun t102 => (some (decide (t102 ≥ 0))))) = some r := H
  have A2 := Aside0.mk A20
  clear A20
  by_cases c3 : t101 = true
  · subst c3
    have H1 : (some true) = some r := by rw [if_pos rfl] at H; exact H
    clear H
    have H := H1
    clear H1
    obtain rfl := Option.some.inj H
    go_enter Try.func24, Try.ntmps24
    go_wp2_with (first | ((with_reducible refine gate_callee (f := 31) rfl ?_); refine goesL_ (some 4) rfl rfl Try.func31 (by kernel_rfl) rfl #[.int .u8 a0] rfl (by (try simp only [List.map_toArray, List.map_cons, List.map_nil]); first | done | rfl | (simp only [List.length_drop, List.length_take]; rfl)) ?_; (with_reducible refine (text_Word.calls a0 true _ A2.out).mono ?_); rintro e w' ⟨rfl, ⟨nd, rfl⟩⟩; refine ⟨_, rfl, ?_⟩))
    go_ret
    exact ⟨by first | rfl | (simp; done) | (simp [*]; done), by repeat (first | exact Drawn0.refl _ | apply Drawn0.step)⟩
  · replace c3 := Bool.eq_false_iff.mpr c3
    subst c3
    have H1 : ((strings_IndexByte.f (⟨#[45, 46, 95, 126]⟩ : ByteArray) a0).bind fun t102 => (some (decide (t102 ≥ 0)))) = some r := by rw [if_neg (show ¬ (false = true) by decide)] at H; exact H
    clear H
    have H := H1
    clear H1
    replace H := Option.bind_eq_some_iff.mp H
    obtain ⟨t102, A40, H⟩ := H
    replace H : (some (decide (t102 ≥ 0))) = some r := H
    have A4 := Aside0.mk A40
    clear A40
    obtain rfl := Option.some.inj H
    go_enter Try.func24, Try.ntmps24
    go_wp2_with (first | ((with_reducible refine gate_callee (f := 31) rfl ?_); refine goesL_ (some 4) rfl rfl Try.func31 (by kernel_rfl) rfl #[.int .u8 a0] rfl (by (try simp only [List.map_toArray, List.map_cons, List.map_nil]); first | done | rfl | (simp only [List.length_drop, List.length_take]; rfl)) ?_; (with_reducible refine (text_Word.calls a0 false _ A2.out).mono ?_); rintro e w' ⟨rfl, ⟨nd, rfl⟩⟩; refine ⟨_, rfl, ?_⟩) | (go_at_call 22; (with_reducible refine (strings_IndexByte.calls (⟨#[45, 46, 95, 126]⟩ : ByteArray) a0 t102 _ A4.out).mono ?_); rintro e w' ⟨rfl, ⟨nd, rfl⟩⟩))
    go_ret
    exact ⟨by first | rfl | (simp; done) | (simp [*]; done), by repeat (first | exact Drawn0.refl _ | apply Drawn0.step)⟩

-- NOT PRINTED: function 25 (strings_Builder_WriteString)

/-! ### text_Quote: function 16, by hand -/
theorem Plain_says (c : UInt8) : text_Plain.f (c.toNat : Int) = some (plainB c) := by
  have h : ∀ n : Fin 256, text_Plain.f (n.val : Int) = some (plainB (UInt8.ofNat n.val)) := by decide +kernel
  have := h ⟨c.toNat, c.toNat_lt⟩
  simpa using this

set_option maxHeartbeats 2000000 in
theorem text_Quote.says (s : ByteArray) (w : World) (hs : s.size ≤ 1000000000) : Calls Try.prog 16 #[.string s] w fun e w' => e = .returned (.string ⟨(quo s.data.toList).toArray⟩) ∧ Below w.heap.size w w' := by
  go_enter Try.func16, Try.ntmps16
  go_wp2
  go_loopw [8] (fun v8 wr => ∃ (k : Nat) , k ≤ s.size ∧ v8 = .int .i64 k ∧ w.heap.size ≤ wr.heap.size ∧ Lib.IsBuilderF 35 5 w.heap.size w.heap.size (Lib.byteCells (quo (s.data.toList.take k))) wr ∧ Below w.heap.size w wr) (fun v8 _ => s.size - (intOf v8).toNat)
  case atStart =>
    exact ⟨0, by omega, rfl, by simp, Lib.IsBuilderF.of (Lib.fresh_isBuilder 35 5 w), (Below.refl _ _).alloc (Nat.le_refl _) _⟩
  case round =>
    obtain ⟨k, hk, rfl, hBw, hB, hb⟩ := hrel
    have hlen := quo_le (s.data.toList.take k)
    rw [List.length_take_of_le (by simpa using hk)] at hlen
    by_cases hlt : k < s.size
    · have HT := Lib.hid (quo_snoc (s.data.toList.take k) s[k])
      have ht : s.data.toList.take (k + 1) = s.data.toList.take k ++ [s[k]] := by
        rw [List.take_succ_eq_append_getElem (by simpa using hlt)]; rfl
      have Ht := Lib.hid ht
      clear ht
      have hp := Plain_says s[k]
      cases hc : plainB s[k] with
      | true =>
        rw [hc] at hp
        have Hp := Lib.hid hp
        have Hc := Lib.hid hc
        clear hp hc
        go_wp2_with fail
        refine (text_Plain.calls _ _ _ Hp.out).mono ?_
        rintro e w1 ⟨rfl, ⟨nd, rfl⟩⟩
        have hB0 := bldF_below hB (pw_below_drewN (Below.refl wr.heap.size wr) nd)
        have hb0 := pw_below_drewN hb nd
        have hBw0 : w.heap.size ≤ (wr.drewN nd).heap.size := hBw
        clear hB hb hBw
        generalize wr.drewN nd = w1 at hB0 hb0 hBw0 ⊢
        go_wp2_with fail
        refine (bld_byte w.heap.size w.heap.size _ (s[k].toNat) w1 hB0 (by rw [Lib.byteCells_length]; omega) hBw0).mono ?_
        rintro e w2 ⟨rfl, hB1, hb1, -⟩
        go_wp2
        go_roundw
        case measure => simp [intOf]; omega
        case rel =>
          refine ⟨k + 1, by omega, by go_num, Nat.le_trans hBw0 hb1.size, .inr ?_, hb0.trans hb1⟩
          rw [Ht.out, HT.out, quo1, if_pos Hc.out]
          simpa [Lib.byteCells] using hB1
      | false =>
        rw [hc] at hp
        have Hp := Lib.hid hp
        have Hc := Lib.hid hc
        clear hp hc
        have hx0 := s[k].toNat_lt
        obtain ⟨i, hi⟩ : ∃ i, i = s[k].toNat / 16 := ⟨_, rfl⟩
        obtain ⟨j, hj⟩ : ∃ j, j = s[k].toNat % 16 := ⟨_, rfl⟩
        have ei : ((s[k].toNat : Int) / 16) = (i : Int) := by omega
        have ej : Go.bits BinOp.and IntKind.u8 (s[k].toNat : Int) 15 = (j : Int) := by rw [hj]; exact u8_and15n _
        have hi16 : i < 16 := by omega
        have hj16 : j < 16 := by omega
        have Hi := Lib.hid hi
        have Hj := Lib.hid hj
        have hati := hexs_at i hi16
        have hatj := hexs_at j hj16
        unfold hexS at hati hatj
        clear hi hj
        go_wp2_with fail
        refine (text_Plain.calls _ _ _ Hp.out).mono ?_
        rintro e w1 ⟨rfl, ⟨nd, rfl⟩⟩
        have hB0 := bldF_below hB (pw_below_drewN (Below.refl wr.heap.size wr) nd)
        have hb0 := pw_below_drewN hb nd
        have hBw0 : w.heap.size ≤ (wr.drewN nd).heap.size := hBw
        clear hB hb hBw
        generalize wr.drewN nd = w1 at hB0 hb0 hBw0 ⊢
        go_wp2_with fail
        refine (bld_string w.heap.size w.heap.size _ _ w1 hB0 (by rw [Lib.byteCells_length]; show _ + 1 ≤ _; omega) hBw0).mono ?_
        rintro e w2 ⟨rfl, hB1, hb1, -⟩
        go_wp2_with fail
        refine (bld_byte w.heap.size w.heap.size _ ((hx i).toNat) w2 (.inr hB1) ?_ (Nat.le_trans hBw0 hb1.size)).mono ?_
        · rw [List.length_append, Lib.byteCells_length, Lib.strCells_length]; show _ + 1 + 1 ≤ _; omega
        rintro e w3 ⟨rfl, hB2, hb2, -⟩
        go_wp2_with fail
        refine (bld_byte w.heap.size w.heap.size _ ((hx j).toNat) w3 (.inr hB2) ?_ (Nat.le_trans (Nat.le_trans hBw0 hb1.size) hb2.size)).mono ?_
        · rw [List.length_append, List.length_append, Lib.byteCells_length, Lib.strCells_length]; show _ + 1 + 1 + 1 ≤ _; omega
        rintro e w4 ⟨rfl, hB3, hb3, -⟩
        go_wp2
        go_roundw
        case measure => simp [intOf]; omega
        case rel =>
          refine ⟨k + 1, by omega, by go_num, Nat.le_trans (Nat.le_trans (Nat.le_trans hBw0 hb1.size) hb2.size) hb3.size, .inr ?_, ((hb0.trans hb1).trans hb2).trans hb3⟩
          rw [Ht.out, HT.out, quo1, if_neg (by rw [Hc.out]; simp), ← Hi.out, ← Hj.out]
          simpa [Lib.byteCells, Lib.strCells] using hB3
    · obtain rfl : k = s.size := by omega
      have ht : s.data.toList.take s.size = s.data.toList := List.take_of_length_le (by simp)
      rw [ht] at hB
      clear ht hlen
      go_wp2_with fail
      refine (Try.Builder_String_any_k w.heap.size w.heap.size _ _ hB hBw).mono ?_
      rintro e w1 ⟨rfl, -, hb1, -⟩
      go_wp2
      go_ret
      exact ⟨rfl, hb.trans hb1⟩

def text_Quote.f (a0 : ByteArray) : Option (ByteArray) := if a0.size ≤ 1000000000 then some ⟨(quo a0.data.toList).toArray⟩ else none
theorem text_Quote.calls (a0 : ByteArray) (r : ByteArray) (w : World) (h : text_Quote.f a0 = some r) :
    Calls Try.prog 16 #[.string a0] w fun e w' => e = .returned (.string r) ∧ Below w.heap.size w w' := by
  unfold text_Quote.f at h
  split at h
  case isTrue hs =>
    obtain rfl := Option.some.inj h
    exact text_Quote.says a0 w hs
  case isFalse hs => exact absurd h (by simp)

/-! ### exequaturlaw01_answers: function 10 -/
def exequaturlaw01_answers.f (k : Nat)  : Option (Bool) := (text_Decode.f (⟨#[95, 119]⟩ : ByteArray)).bind fun bt103 => ((text_Encode.f (⟨#[255]⟩ : ByteArray)).bind fun t105 => (if t105.toList = ([95, 119] : List UInt8) then (if bt103.2 = 0 then (if bt103.1.toList = ([255] : List UInt8) then ((text_Equal.f k (⟨#[97]⟩ : ByteArray) (⟨#[97]⟩ : ByteArray)).bind fun t106 => (if t106 = true then ((text_Quote.f (⟨#[97, 32, 98]⟩ : ByteArray)).bind fun t107 => (some (t107.toList == ([97, 37, 50, 48, 98] : List UInt8)))) else (some false))) else (some false)) else (some false)) else (some false)))
theorem exequaturlaw01_answers.mono : ∀ k, LeO (exequaturlaw01_answers.f k ) (exequaturlaw01_answers.f (k + 1) ) := by
  intro  k
  unfold exequaturlaw01_answers.f
  repeat' first
      | (with_reducible exact text_Equal.mono _ _ _)
      | (with_reducible exact LeO.refl _)
      | (with_reducible exact LeO.none _)
      | (with_reducible refine LeO.ite ?_ ?_)
      | (with_reducible refine LeO.bind ?_ (fun _ => ?_))
      | exact text_Equal.mono _ _ _
      | exact LeO.none _
      | refine LeO.ite ?_ ?_
      | refine LeO.bind ?_ (fun _ => ?_)
set_option maxHeartbeats 8000000 in
set_option maxRecDepth 100000 in
theorem exequaturlaw01_answers.calls (k : Nat)  (r : Bool) (w : World) (h : exequaturlaw01_answers.f k  = some r) :
    Calls Try.prog 10 #[] w fun e w' => e = .returned (.bool r) ∧ Below w.heap.size w w' := by
  have HB := Aside0.mk (Below.refl w.heap.size w)
  have H : ((text_Decode.f (⟨#[95, 119]⟩ : ByteArray)).bind fun bt103 => ((text_Encode.f (⟨#[255]⟩ : ByteArray)).bind fun t105 => (if t105.toList = ([95, 119] : List UInt8) then (if bt103.2 = 0 then (if bt103.1.toList = ([255] : List UInt8) then ((text_Equal.f k (⟨#[97]⟩ : ByteArray) (⟨#[97]⟩ : ByteArray)).bind fun t106 => (if t106 = true then ((text_Quote.f (⟨#[97, 32, 98]⟩ : ByteArray)).bind fun t107 => (some (t107.toList == ([97, 37, 50, 48, 98] : List UInt8)))) else (some false))) else (some false)) else (some false)) else (some false)))) = some r := h
  clear h
  replace H := Option.bind_eq_some_iff.mp H
  obtain ⟨⟨t103, t104⟩, A10, H⟩ := H
  replace H : ((text_Encode.f (⟨#[255]⟩ : ByteArray)).bind fun t105 => (if t105.toList = ([95, 119] : List UInt8) then (if t104 = 0 then (if t103.toList = ([255] : List UInt8) then ((text_Equal.f k (⟨#[97]⟩ : ByteArray) (⟨#[97]⟩ : ByteArray)).bind fun t106 => (if t106 = true then ((text_Quote.f (⟨#[97, 32, 98]⟩ : ByteArray)).bind fun t107 => (some (t107.toList == ([97, 37, 50, 48, 98] : List UInt8)))) else (some false))) else (some false)) else (some false)) else (some false))) = some r := H
  have A1 := Aside0.mk A10
  clear A10
  replace H := Option.bind_eq_some_iff.mp H
  obtain ⟨t105, A20, H⟩ := H
  replace H : (if t105.toList = ([95, 119] : List UInt8) then (if t104 = 0 then (if t103.toList = ([255] : List UInt8) then ((text_Equal.f k (⟨#[97]⟩ : ByteArray) (⟨#[97]⟩ : ByteArray)).bind fun t106 => (if t106 = true then ((text_Quote.f (⟨#[97, 32, 98]⟩ : ByteArray)).bind fun t107 => (some (t107.toList == ([97, 37, 50, 48, 98] : List UInt8)))) else (some false))) else (some false)) else (some false)) else (some false)) = some r := H
  have A2 := Aside0.mk A20
  clear A20
  by_cases c3 : t105.toList = ([95, 119] : List UInt8)
  · rw [if_pos c3] at H
    have c3b0 : (t105.toList == ([95, 119] : List UInt8)) = true := beq_iff_eq.mpr c3
    have c3b1 : (t105.toList != ([95, 119] : List UInt8)) = false := bne_eq_false_iff_eq.mpr c3
    clear c3
    by_cases c4 : t104 = 0
    · rw [if_pos c4] at H
      have c4b0 : (t104 == 0) = true := beq_iff_eq.mpr c4
      have c4b1 : (t104 != 0) = false := bne_eq_false_iff_eq.mpr c4
      clear c4
      by_cases c5 : t103.toList = ([255] : List UInt8)
      · rw [if_pos c5] at H
        have c5b0 : (t103.toList == ([255] : List UInt8)) = true := beq_iff_eq.mpr c5
        have c5b1 : (t103.toList != ([255] : List UInt8)) = false := bne_eq_false_iff_eq.mpr c5
        clear c5
        replace H := Option.bind_eq_some_iff.mp H
        obtain ⟨t106, A60, H⟩ := H
        replace H : (if t106 = true then ((text_Quote.f (⟨#[97, 32, 98]⟩ : ByteArray)).bind fun t107 => (some (t107.toList == ([97, 37, 50, 48, 98] : List UInt8)))) else (some false)) = some r := H
        have A6 := Aside0.mk A60
        clear A60
        by_cases c7 : t106 = true
        · subst c7
          have H1 : ((text_Quote.f (⟨#[97, 32, 98]⟩ : ByteArray)).bind fun t107 => (some (t107.toList == ([97, 37, 50, 48, 98] : List UInt8)))) = some r := by rw [if_pos rfl] at H; exact H
          clear H
          have H := H1
          clear H1
          replace H := Option.bind_eq_some_iff.mp H
          obtain ⟨t107, A80, H⟩ := H
          replace H : (some (t107.toList == ([97, 37, 50, 48, 98] : List UInt8))) = some r := H
          have A8 := Aside0.mk A80
          clear A80
          obtain rfl := Option.some.inj H
          go_enter Try.func10, Try.ntmps10
          go_wp2_with (first | ((with_reducible refine gate_callee (f := 12) rfl ?_); refine goesL_ (some 4) rfl rfl Try.func12 (by kernel_rfl) rfl #[.string (⟨#[95, 119]⟩ : ByteArray)] rfl (by (try simp only [List.map_toArray, List.map_cons, List.map_nil]); first | done | rfl | (simp only [List.length_drop, List.length_take]; rfl)) ?_; (with_reducible refine (text_Decode.calls (⟨#[95, 119]⟩ : ByteArray) t103 t104 _ A1.out).mono ?_); rintro e w9 ⟨rfl, hb⟩; refine ⟨_, rfl, ?_⟩; have n0_ := Aside0.mk (below_step (by repeat (first | (with_reducible first | exact HB.out | apply below_alloc | apply pw_below_drewN | apply below_drew1) | exact HB.out)) hb); clear HB; have HB := n0_; clear n0_; (try clear hb); (try clear hb2); (try clear hk); (try clear hi)) | ((with_reducible refine gate_callee (f := 11) rfl ?_); refine goesL_ (some 7) rfl rfl Try.func11 (by kernel_rfl) rfl #[.string (⟨#[255]⟩ : ByteArray)] rfl (by (try simp only [List.map_toArray, List.map_cons, List.map_nil]); first | done | rfl | (simp only [List.length_drop, List.length_take]; rfl)) ?_; (with_reducible refine (text_Encode.calls (⟨#[255]⟩ : ByteArray) t105 _ A2.out).mono ?_); rintro e w10 ⟨rfl, hb⟩; refine ⟨_, rfl, ?_⟩; have n0_ := Aside0.mk (below_step (by repeat (first | (with_reducible first | exact HB.out | apply below_alloc | apply pw_below_drewN | apply below_drew1) | exact HB.out)) hb); clear HB; have HB := n0_; clear n0_; (try clear hb); (try clear hb2); (try clear hk); (try clear hi)) | (go_at_call 15; (with_reducible refine (text_Equal.calls k (⟨#[97]⟩ : ByteArray) (⟨#[97]⟩ : ByteArray) true _ A6.out).mono ?_); rintro e w' ⟨rfl, ⟨nd, rfl⟩⟩) | (go_at_call 16; (with_reducible refine (text_Quote.calls (⟨#[97, 32, 98]⟩ : ByteArray) t107 _ A8.out).mono ?_); rintro e w11 ⟨rfl, hb⟩; have n0_ := Aside0.mk (below_step (by repeat (first | (with_reducible first | exact HB.out | apply below_alloc | apply pw_below_drewN | apply below_drew1) | exact HB.out)) hb); clear HB; have HB := n0_; clear n0_; (try clear hb); (try clear hb2); (try clear hk); (try clear hi)))
          go_ret
          exact ⟨by first | rfl | (simp [errW_none, errW_some] <;> rfl) | (simp [*, errW_none, errW_some] <;> rfl), by repeat (first | (with_reducible first | exact HB.out | apply below_alloc | apply pw_below_drewN | apply below_drew1) | exact HB.out)⟩
        · replace c7 := Bool.eq_false_iff.mpr c7
          subst c7
          have H1 : (some false) = some r := by rw [if_neg (show ¬ (false = true) by decide)] at H; exact H
          clear H
          have H := H1
          clear H1
          obtain rfl := Option.some.inj H
          go_enter Try.func10, Try.ntmps10
          go_wp2_with (first | ((with_reducible refine gate_callee (f := 12) rfl ?_); refine goesL_ (some 4) rfl rfl Try.func12 (by kernel_rfl) rfl #[.string (⟨#[95, 119]⟩ : ByteArray)] rfl (by (try simp only [List.map_toArray, List.map_cons, List.map_nil]); first | done | rfl | (simp only [List.length_drop, List.length_take]; rfl)) ?_; (with_reducible refine (text_Decode.calls (⟨#[95, 119]⟩ : ByteArray) t103 t104 _ A1.out).mono ?_); rintro e w12 ⟨rfl, hb⟩; refine ⟨_, rfl, ?_⟩; have n0_ := Aside0.mk (below_step (by repeat (first | (with_reducible first | exact HB.out | apply below_alloc | apply pw_below_drewN | apply below_drew1) | exact HB.out)) hb); clear HB; have HB := n0_; clear n0_; (try clear hb); (try clear hb2); (try clear hk); (try clear hi)) | ((with_reducible refine gate_callee (f := 11) rfl ?_); refine goesL_ (some 7) rfl rfl Try.func11 (by kernel_rfl) rfl #[.string (⟨#[255]⟩ : ByteArray)] rfl (by (try simp only [List.map_toArray, List.map_cons, List.map_nil]); first | done | rfl | (simp only [List.length_drop, List.length_take]; rfl)) ?_; (with_reducible refine (text_Encode.calls (⟨#[255]⟩ : ByteArray) t105 _ A2.out).mono ?_); rintro e w13 ⟨rfl, hb⟩; refine ⟨_, rfl, ?_⟩; have n0_ := Aside0.mk (below_step (by repeat (first | (with_reducible first | exact HB.out | apply below_alloc | apply pw_below_drewN | apply below_drew1) | exact HB.out)) hb); clear HB; have HB := n0_; clear n0_; (try clear hb); (try clear hb2); (try clear hk); (try clear hi)) | (go_at_call 15; (with_reducible refine (text_Equal.calls k (⟨#[97]⟩ : ByteArray) (⟨#[97]⟩ : ByteArray) false _ A6.out).mono ?_); rintro e w' ⟨rfl, ⟨nd, rfl⟩⟩))
          go_ret
          exact ⟨by first | rfl | (simp [errW_none, errW_some] <;> rfl) | (simp [*, errW_none, errW_some] <;> rfl), by repeat (first | (with_reducible first | exact HB.out | apply below_alloc | apply pw_below_drewN | apply below_drew1) | exact HB.out)⟩
      · rw [if_neg c5] at H
        have c5b0 : (t103.toList == ([255] : List UInt8)) = false := beq_eq_false_iff_ne.mpr c5
        have c5b1 : (t103.toList != ([255] : List UInt8)) = true := bne_iff_ne.mpr c5
        obtain rfl := Option.some.inj H
        go_enter Try.func10, Try.ntmps10
        go_wp2_with (first | ((with_reducible refine gate_callee (f := 12) rfl ?_); refine goesL_ (some 4) rfl rfl Try.func12 (by kernel_rfl) rfl #[.string (⟨#[95, 119]⟩ : ByteArray)] rfl (by (try simp only [List.map_toArray, List.map_cons, List.map_nil]); first | done | rfl | (simp only [List.length_drop, List.length_take]; rfl)) ?_; (with_reducible refine (text_Decode.calls (⟨#[95, 119]⟩ : ByteArray) t103 t104 _ A1.out).mono ?_); rintro e w14 ⟨rfl, hb⟩; refine ⟨_, rfl, ?_⟩; have n0_ := Aside0.mk (below_step (by repeat (first | (with_reducible first | exact HB.out | apply below_alloc | apply pw_below_drewN | apply below_drew1) | exact HB.out)) hb); clear HB; have HB := n0_; clear n0_; (try clear hb); (try clear hb2); (try clear hk); (try clear hi)) | ((with_reducible refine gate_callee (f := 11) rfl ?_); refine goesL_ (some 7) rfl rfl Try.func11 (by kernel_rfl) rfl #[.string (⟨#[255]⟩ : ByteArray)] rfl (by (try simp only [List.map_toArray, List.map_cons, List.map_nil]); first | done | rfl | (simp only [List.length_drop, List.length_take]; rfl)) ?_; (with_reducible refine (text_Encode.calls (⟨#[255]⟩ : ByteArray) t105 _ A2.out).mono ?_); rintro e w15 ⟨rfl, hb⟩; refine ⟨_, rfl, ?_⟩; have n0_ := Aside0.mk (below_step (by repeat (first | (with_reducible first | exact HB.out | apply below_alloc | apply pw_below_drewN | apply below_drew1) | exact HB.out)) hb); clear HB; have HB := n0_; clear n0_; (try clear hb); (try clear hb2); (try clear hk); (try clear hi)))
        go_ret
        exact ⟨by first | rfl | (simp [errW_none, errW_some] <;> rfl) | (simp [*, errW_none, errW_some] <;> rfl), by repeat (first | (with_reducible first | exact HB.out | apply below_alloc | apply pw_below_drewN | apply below_drew1) | exact HB.out)⟩
    · rw [if_neg c4] at H
      have c4b0 : (t104 == 0) = false := beq_eq_false_iff_ne.mpr c4
      have c4b1 : (t104 != 0) = true := bne_iff_ne.mpr c4
      obtain rfl := Option.some.inj H
      go_enter Try.func10, Try.ntmps10
      go_wp2_with (first | ((with_reducible refine gate_callee (f := 12) rfl ?_); refine goesL_ (some 4) rfl rfl Try.func12 (by kernel_rfl) rfl #[.string (⟨#[95, 119]⟩ : ByteArray)] rfl (by (try simp only [List.map_toArray, List.map_cons, List.map_nil]); first | done | rfl | (simp only [List.length_drop, List.length_take]; rfl)) ?_; (with_reducible refine (text_Decode.calls (⟨#[95, 119]⟩ : ByteArray) t103 t104 _ A1.out).mono ?_); rintro e w16 ⟨rfl, hb⟩; refine ⟨_, rfl, ?_⟩; have n0_ := Aside0.mk (below_step (by repeat (first | (with_reducible first | exact HB.out | apply below_alloc | apply pw_below_drewN | apply below_drew1) | exact HB.out)) hb); clear HB; have HB := n0_; clear n0_; (try clear hb); (try clear hb2); (try clear hk); (try clear hi)) | ((with_reducible refine gate_callee (f := 11) rfl ?_); refine goesL_ (some 7) rfl rfl Try.func11 (by kernel_rfl) rfl #[.string (⟨#[255]⟩ : ByteArray)] rfl (by (try simp only [List.map_toArray, List.map_cons, List.map_nil]); first | done | rfl | (simp only [List.length_drop, List.length_take]; rfl)) ?_; (with_reducible refine (text_Encode.calls (⟨#[255]⟩ : ByteArray) t105 _ A2.out).mono ?_); rintro e w17 ⟨rfl, hb⟩; refine ⟨_, rfl, ?_⟩; have n0_ := Aside0.mk (below_step (by repeat (first | (with_reducible first | exact HB.out | apply below_alloc | apply pw_below_drewN | apply below_drew1) | exact HB.out)) hb); clear HB; have HB := n0_; clear n0_; (try clear hb); (try clear hb2); (try clear hk); (try clear hi)))
      go_ret
      exact ⟨by first | rfl | (simp [errW_none, errW_some] <;> rfl) | (simp [*, errW_none, errW_some] <;> rfl), by repeat (first | (with_reducible first | exact HB.out | apply below_alloc | apply pw_below_drewN | apply below_drew1) | exact HB.out)⟩
  · rw [if_neg c3] at H
    have c3b0 : (t105.toList == ([95, 119] : List UInt8)) = false := beq_eq_false_iff_ne.mpr c3
    have c3b1 : (t105.toList != ([95, 119] : List UInt8)) = true := bne_iff_ne.mpr c3
    obtain rfl := Option.some.inj H
    go_enter Try.func10, Try.ntmps10
    go_wp2_with (first | ((with_reducible refine gate_callee (f := 12) rfl ?_); refine goesL_ (some 4) rfl rfl Try.func12 (by kernel_rfl) rfl #[.string (⟨#[95, 119]⟩ : ByteArray)] rfl (by (try simp only [List.map_toArray, List.map_cons, List.map_nil]); first | done | rfl | (simp only [List.length_drop, List.length_take]; rfl)) ?_; (with_reducible refine (text_Decode.calls (⟨#[95, 119]⟩ : ByteArray) t103 t104 _ A1.out).mono ?_); rintro e w18 ⟨rfl, hb⟩; refine ⟨_, rfl, ?_⟩; have n0_ := Aside0.mk (below_step (by repeat (first | (with_reducible first | exact HB.out | apply below_alloc | apply pw_below_drewN | apply below_drew1) | exact HB.out)) hb); clear HB; have HB := n0_; clear n0_; (try clear hb); (try clear hb2); (try clear hk); (try clear hi)) | ((with_reducible refine gate_callee (f := 11) rfl ?_); refine goesL_ (some 7) rfl rfl Try.func11 (by kernel_rfl) rfl #[.string (⟨#[255]⟩ : ByteArray)] rfl (by (try simp only [List.map_toArray, List.map_cons, List.map_nil]); first | done | rfl | (simp only [List.length_drop, List.length_take]; rfl)) ?_; (with_reducible refine (text_Encode.calls (⟨#[255]⟩ : ByteArray) t105 _ A2.out).mono ?_); rintro e w19 ⟨rfl, hb⟩; refine ⟨_, rfl, ?_⟩; have n0_ := Aside0.mk (below_step (by repeat (first | (with_reducible first | exact HB.out | apply below_alloc | apply pw_below_drewN | apply below_drew1) | exact HB.out)) hb); clear HB; have HB := n0_; clear n0_; (try clear hb); (try clear hb2); (try clear hk); (try clear hi)))
    go_ret
    exact ⟨by first | rfl | (simp [errW_none, errW_some] <;> rfl) | (simp [*, errW_none, errW_some] <;> rfl), by repeat (first | (with_reducible first | exact HB.out | apply below_alloc | apply pw_below_drewN | apply below_drew1) | exact HB.out)⟩

/-! ### exequaturref01_sixty: function 23 -/
def exequaturref01_sixty.f (a0 : Int) : Option (Int) := if 0 ≤ a0 then (if a0 < 64 then (some (bt (⟨#[65, 66, 67, 68, 69, 70, 71, 72, 73, 74, 75, 76, 77, 78, 79, 80, 81, 82, 83, 84, 85, 86, 87, 88, 89, 90, 97, 98, 99, 100, 101, 102, 103, 104, 105, 106, 107, 108, 109, 110, 111, 112, 113, 114, 115, 116, 117, 118, 119, 120, 121, 122, 48, 49, 50, 51, 52, 53, 54, 55, 56, 57, 45, 95]⟩ : ByteArray) a0)) else (none)) else (none)
set_option maxHeartbeats 8000000 in
set_option maxRecDepth 100000 in
theorem exequaturref01_sixty.calls (a0 : Int) (r : Int) (w : World) (h : exequaturref01_sixty.f a0 = some r) :
    Calls Try.prog 23 #[.int .i64 a0] w fun e w' => e = .returned (.int .u8 r) ∧ Drawn0 w w' := by
  have H : (if 0 ≤ a0 then (if a0 < 64 then (some (bt (⟨#[65, 66, 67, 68, 69, 70, 71, 72, 73, 74, 75, 76, 77, 78, 79, 80, 81, 82, 83, 84, 85, 86, 87, 88, 89, 90, 97, 98, 99, 100, 101, 102, 103, 104, 105, 106, 107, 108, 109, 110, 111, 112, 113, 114, 115, 116, 117, 118, 119, 120, 121, 122, 48, 49, 50, 51, 52, 53, 54, 55, 56, 57, 45, 95]⟩ : ByteArray) a0)) else (none)) else (none)) = some r := h
  clear h
  by_cases c2 : 0 ≤ a0
  · rw [if_pos c2] at H
    have c2b0 : decide (0 ≤ a0) = true := decide_eq_true c2
    clear c2
    by_cases c3 : a0 < 64
    · rw [if_pos c3] at H
      have c3b0 : decide (a0 < 64) = true := decide_eq_true c3
      clear c3
      obtain rfl := Option.some.inj H
      have p4 : 0 ≤ (a0 : Int) := of_decide_eq_true (by first | (with_reducible assumption) | assumption)
      have q4 : a0 < (64 : Int) := of_decide_eq_true (by first | (with_reducible assumption) | assumption)
      have hx4 := bt_at (⟨#[65, 66, 67, 68, 69, 70, 71, 72, 73, 74, 75, 76, 77, 78, 79, 80, 81, 82, 83, 84, 85, 86, 87, 88, 89, 90, 97, 98, 99, 100, 101, 102, 103, 104, 105, 106, 107, 108, 109, 110, 111, 112, 113, 114, 115, 116, 117, 118, 119, 120, 121, 122, 48, 49, 50, 51, 52, 53, 54, 55, 56, 57, 45, 95]⟩ : ByteArray) a0
      replace p4 := eq_true p4
      replace q4 := eq_true q4
      go_enter Try.func23, Try.ntmps23
      go_wp2
      go_ret
      exact ⟨by first | rfl | (simp; done) | (simp [*]; done), by repeat (first | exact Drawn0.refl _ | apply Drawn0.step)⟩
    · rw [if_neg c3] at H
      exact absurd H (by simp)
  · rw [if_neg c2] at H
    exact absurd H (by simp)

end Go.Proofs.Ytfoepbjbgohhdaa.Q
