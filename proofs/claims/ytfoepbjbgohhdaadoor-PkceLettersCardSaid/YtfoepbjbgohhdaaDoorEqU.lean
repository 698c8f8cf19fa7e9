/- The reference's Decode, in plain lists: what decS reads, held against enc. -/
import Derived.Test.YtfoepbjbgohhdaaDoorEq
set_option linter.unusedVariables false
set_option linter.unusedSimpArgs false
namespace Go.Proofs.YtfoepbjbgohhdaaDoor.X
open Go.RowKit Go.Proofs.YtfoepbjbgohhdaaDoorW.PrintWords Go.Proofs.YtfoepbjbgohhdaaDoorW.PrintMore Go.Proofs.YtfoepbjbgohhdaaDoor.Q

def srch (c : UInt8) : Nat → Int → Int
  | 0, d => d
  | m + 1, d => srch c m (if (al (63 - m)).toNat = c.toNat then ((63 - m : Nat) : Int) else d)
theorem srch_is (c : UInt8) : srch c 64 (-1) = Lib.indexByte alph c := by
  have h : ∀ n : Fin 256, srch (UInt8.ofNat n.val) 64 (-1) = Lib.indexByte alph (UInt8.ofNat n.val) := by decide +kernel
  have := h ⟨c.toNat, c.toNat_lt⟩
  simpa using this

theorem unb_search (s : ByteArray) (out : List Int) (v n : Int) (i : Nat) (c : UInt8) (t : List UInt8) (hi : i < 2000000000) (h : s.data.toList.drop i = c :: t) (r : ByteArray × Bool) :
    ∀ (m : Nat) (d : Int), m ≤ 64 → Ev (fun k => exequaturref01_UnB64.l1 k s out v n (i : Int) (srch c m d) 64) r → Ev (fun k => exequaturref01_UnB64.l1 k s out v n (i : Int) d ((64 - m : Nat) : Int)) r := by
  obtain ⟨h1, h2, h3⟩ := bt_get s i h
  intro m
  induction m with
  | zero => intro d _ h; exact h
  | succ m ih =>
    intro d hm hk
    refine Ev.step (fun k => by rw [exequaturref01_UnB64.l1]) ?_
    refine evPos (by omega) ?_
    refine evVal (sixty_at (n := 64 - (m + 1)) rfl (by omega)) ?_
    refine evPos (by omega) ?_
    refine evPos (by omega) ?_
    rw [h1, w64 (by omega) (by omega), show (((64 - (m + 1) : Nat) : Int) + 1) = ((64 - m : Nat) : Int) from by omega]
    simp only [srch] at hk
    have hm63 : 64 - (m + 1) = 63 - m := by omega
    rw [hm63]
    by_cases he : (al (63 - m)).toNat = c.toNat
    · rw [if_pos he] at hk
      exact evPos (by omega) (ih _ (by omega) hk)
    · rw [if_neg he] at hk
      exact evNeg (by omega) (ih _ (by omega) hk)

def unbR (ob : List UInt8) (l : List UInt8) : Option (List UInt8) → ByteArray × Bool
  | none => (⟨#[]⟩, false)
  | some o => (⟨(ob ++ o).toArray⟩, decide (enc (ob ++ o) = l))

theorem unb_loop (s : ByteArray) (hs : s.size ≤ 1000000000) : ∀ (l : List UInt8) (i v h : Nat) (ob : List UInt8), s.data.toList.drop i = l → i ≤ s.size → h < 8 → v < 2 ^ h → ob.length ≤ i →
    Ev (fun k => exequaturref01_UnB64.l0 k s (nb ob) (v : Int) (h : Int) (i : Int)) (unbR ob s.data.toList (decS l v h)) := by
  intro l
  induction l with
  | nil =>
    intro i v h ob hl hi hh hv ho
    have hge := drop_nil_ge s i hl
    refine Ev.step (fun k => by rw [exequaturref01_UnB64.l0]) ?_
    refine evNeg (by omega) ?_
    rw [strOf_nb]
    refine Ev.bind (b64_is ⟨ob.toArray⟩ (by show ob.toArray.size ≤ _; simp; omega)) ?_
    refine evNow ?_
    simp only [decS, unbR, List.append_nil, Prod.mk.injEq, true_and]
    rw [ByteArray.toList_eq, ByteArray.toList_eq, Bool.eq_iff_iff]
    simp
  | cons c t ih =>
    intro i v h ob hl hi hh hv ho
    obtain ⟨h1, h2, h3⟩ := bt_get s i hl
    clear h1
    refine Ev.step (fun k => by rw [exequaturref01_UnB64.l0]) ?_
    refine evPos (by omega) ?_
    refine unb_search s (nb ob) v h i c t (by omega) hl _ 64 (-1) (by omega) ?_
    rw [srch_is]
    refine Ev.step (fun k => by rw [exequaturref01_UnB64.l1]) ?_
    refine evNeg (by decide) ?_
    have hv7 : v < 128 := Nat.lt_of_lt_of_le hv (Nat.pow_le_pow_right (by omega) (by omega : h ≤ 7))
    by_cases hneg : Lib.indexByte alph c < 0
    · exact evPos hneg (evNow (by rw [decS_no _ _ _ hneg]; rfl))
    · refine evNeg hneg ?_
      have h64 := ix64 c
      obtain ⟨d, hd⟩ : ∃ d : Nat, Lib.indexByte alph c = d := ⟨(Lib.indexByte alph c).toNat, by omega⟩
      have hd64 : d < 64 := by omega
      clear h64 hneg
      rw [hd, w64 (x := (h : Int) + 6) (by omega) (by omega), w64 (x := (v : Int) * 64) (by omega) (by omega), w64 (x := (v : Int) * 64 + (d : Int)) (by omega) (by omega), w64 (x := (i : Int) + 1) (by omega) (by omega)]
      by_cases h8 : 8 ≤ h + 6
      · rw [decS_out _ _ _ _ hd h8]
        obtain ⟨h', rfl⟩ : ∃ h', h = h' + 2 := ⟨h - 2, by omega⟩
        rw [show h' + 2 - 2 = h' from rfl]
        have e1 : wrap64 (((h' + 2 : Nat) : Int) + 6 - 8) = (h' : Int) := by rw [w64 (by omega) (by omega)]; omega
        have e2 : IntKind.u64.wrap (h' : Int) = (h' : Int) := by simp [IntKind.wrap, IntKind.bits, IntKind.signed]; omega
        have e3 : shl .i64 1 (h' : Int) = ((2 ^ h' : Nat) : Int) := by
          obtain rfl | rfl | rfl | rfl | rfl | rfl : h' = 0 ∨ h' = 1 ∨ h' = 2 ∨ h' = 3 ∨ h' = 4 ∨ h' = 5 := by omega
          all_goals rfl
        have e4 : shr .i64 ((v : Int) * 64 + (d : Int)) (h' : Int) % 256 = (((UInt8.ofNat ((v * 64 + d) / 2 ^ h' % 256)).toNat : Nat) : Int) := by
          unfold shr
          rw [show min (h' : Int).toNat (IntKind.bits .i64) = h' from by simp [IntKind.bits]; omega]
          have : (((v * 64 + d) / 2 ^ h' % 256 : Nat) : Int) = ((v : Int) * 64 + (d : Int)) / 2 ^ h' % 256 := by simp
          rw [← this]; simp
        have e5 : Int.tmod ((v : Int) * 64 + (d : Int)) ((2 ^ h' : Nat) : Int) = (((v * 64 + d) % 2 ^ h' : Nat) : Int) := by
          rw [Int.tmod_eq_emod_of_nonneg (by omega)]; simp
        have hpos : 0 < 2 ^ h' := Nat.two_pow_pos h'
        rw [e1, e2, e3, e4, e5]
        clear e1 e2 e3 e4 e5
        refine evPos (by omega) (evPos (by omega) (evPos (by rw [nb_length]; omega) (evNeg (by omega) ?_)))
        have hk := ih (i + 1) ((v * 64 + d) % 2 ^ h') h' (ob ++ [UInt8.ofNat ((v * 64 + d) / 2 ^ h' % 256)]) h3 (by omega) (by omega) (Nat.mod_lt _ hpos) (by simp; omega)
        rw [nb_append] at hk
        refine evEq hk ?_
        cases decS t ((v * 64 + d) % 2 ^ h') h' <;> simp [unbR]
      · rw [decS_in _ _ _ _ hd h8]
        refine evNeg (by omega) ?_
        refine ih (i + 1) (v * 64 + d) (h + 6) ob h3 (by omega) (by omega) ?_ (by omega)
        rw [Nat.pow_add]; omega

/-- The reference's Decode. -/
theorem unb64_is (s : ByteArray) (hs : s.size ≤ 1000000000) : Ev (fun k => exequaturref01_UnB64.f k s) (unbR [] s.data.toList (decS s.data.toList 0 0)) :=
  unb_loop s hs _ 0 0 0 [] (List.drop_zero ..) (by omega) (by omega) (by decide) (by simp)

end Go.Proofs.YtfoepbjbgohhdaaDoor.X
