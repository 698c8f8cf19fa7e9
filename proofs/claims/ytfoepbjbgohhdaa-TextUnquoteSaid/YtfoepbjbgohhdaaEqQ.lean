/- The reference's Quote and Unquote, in plain lists; what was quoted is read back. -/
import Derived.Test.YtfoepbjbgohhdaaQ4
import Derived.Test.YtfoepbjbgohhdaaQ6
import Derived.Test.YtfoepbjbgohhdaaAns
set_option linter.unusedVariables false
set_option linter.unusedSimpArgs false
namespace Go.Proofs.Ytfoepbjbgohhdaa.X
open Go.RowKit Go.Proofs.YtfoepbjbgohhdaaW.PrintWords Go.Proofs.YtfoepbjbgohhdaaW.PrintMore Go.Proofs.Ytfoepbjbgohhdaa.Q

theorem rplain_is (c : UInt8) : exequaturref01_plain.f (c.toNat : Int) = some (plainB c) := by
  have h : ∀ n : Fin 256, exequaturref01_plain.f (n.val : Int) = some (plainB (UInt8.ofNat n.val)) := by decide +kernel
  have := h ⟨c.toNat, c.toNat_lt⟩
  simpa using this
theorem rhex_is (c : UInt8) : Ev (fun k => exequaturref01_hex.f k (c.toNat : Int)) (dig c) := by
  have h : ∀ n : Fin 256, exequaturref01_hex.f 3 (n.val : Int) = some (dig (UInt8.ofNat n.val)) := by decide +kernel
  have := h ⟨c.toNat, c.toNat_lt⟩
  exact Ev.of (fun k => exequaturref01_hex.mono _ k) (k := 3) (by simpa using this)
theorem hexs_bt (n : Nat) (h : n < 16) : bt (⟨#[48, 49, 50, 51, 52, 53, 54, 55, 56, 57, 65, 66, 67, 68, 69, 70]⟩ : ByteArray) (n : Int) = ((hx n).toNat : Int) := by
  have := (by decide +kernel : ∀ n : Fin 16, bt (⟨#[48, 49, 50, 51, 52, 53, 54, 55, 56, 57, 65, 66, 67, 68, 69, 70]⟩ : ByteArray) (n.val : Int) = ((hx n.val).toNat : Int))
  exact this ⟨n, h⟩

theorem rquote_loop (s : ByteArray) (hs : s.size ≤ 1000000000) : ∀ (l : List UInt8) (i : Nat) (ob : List UInt8), s.data.toList.drop i = l → i ≤ s.size → ob.length ≤ 3 * i →
    Ev (fun k => exequaturref01_Quote.l0 k s (nb ob) (i : Int)) ⟨(ob ++ quo l).toArray⟩ := by
  intro l
  induction l with
  | nil =>
    intro i ob hl hi ho
    have hge := drop_nil_ge s i hl
    refine Ev.step (fun k => by rw [exequaturref01_Quote.l0]) ?_
    refine evNeg (by omega) (evNow ?_)
    rw [strOf_nb]; simp [quo]
  | cons c t ih =>
    intro i ob hl hi ho
    obtain ⟨h1, h2, h3⟩ := bt_get s i hl
    have hc := c.toNat_lt
    refine Ev.step (fun k => by rw [exequaturref01_Quote.l0]) ?_
    refine evPos (by omega) (evPos (by omega) ?_)
    rw [h1, w64 (x := (i : Int) + 1) (by omega) (by omega)]
    clear h1
    refine evVal (rplain_is c) ?_
    cases hp : plainB c with
    | true =>
      refine evPos rfl (evPos (by rw [nb_length]; omega) ?_)
      have hk := ih (i + 1) (ob ++ [c]) h3 (by omega) (by simp; omega)
      rw [nb_append] at hk
      refine evEq hk ?_
      simp [quo, quo1, hp]
    | false =>
      have e1 : Int.tdiv (c.toNat : Int) 16 % 256 = ((c.toNat / 16 : Nat) : Int) := by rw [Int.tdiv_eq_ediv_of_nonneg (by omega)]; omega
      have e2 : Int.tmod (c.toNat : Int) 16 = ((c.toNat % 16 : Nat) : Int) := by rw [Int.tmod_eq_emod_of_nonneg (by omega)]; omega
      rw [e1, e2, hexs_bt _ (by omega), hexs_bt _ (by omega)]
      clear e1 e2
      refine evNeg (by decide) (evPos (by omega) (evPos (by omega) (evPos (by omega) (evPos (by omega) ?_))))
      refine evVal rfl (evPos (by simp only [nb_length, List.length_cons, List.length_nil]; omega) ?_)
      have hk := ih (i + 1) (ob ++ [37, hx (c.toNat / 16), hx (c.toNat % 16)]) h3 (by omega) (by simp; omega)
      rw [nb_append] at hk
      refine evEq hk ?_
      simp [quo, quo1, hp]
/-- The reference's Quote. -/
theorem rquote_is (s : ByteArray) (hs : s.size ≤ 1000000000) : Ev (fun k => exequaturref01_Quote.f k s) ⟨(quo s.data.toList).toArray⟩ := by
  have h := rquote_loop s hs _ 0 [] (List.drop_zero ..) (by omega) (by simp)
  show Ev (fun k => exequaturref01_Quote.l0 k s [] 0) _
  simpa [nb] using h

def unqB (ob : List UInt8) : Option (List UInt8) → ByteArray × Bool
  | none => (⟨#[]⟩, false)
  | some o => (⟨(ob ++ o).toArray⟩, true)
theorem unqB_cons (ob : List UInt8) (c : UInt8) (o : Option (List UInt8)) : unqB (ob ++ [c]) o = unqB ob (o.map (c :: ·)) := by
  cases o <;> simp [unqB]

theorem runq_loop (s : ByteArray) (hs : s.size ≤ 1000000000) : ∀ (d i : Nat) (ob : List UInt8), s.size = i + d → ob.length ≤ i →
    Ev (fun k => exequaturref01_Unquote.l0 k s (nb ob) (i : Int)) (unqB ob (unq (s.data.toList.drop i))) := by
  intro d
  induction d using Nat.strongRecOn with
  | ind d ih =>
    intro i ob hd ho
    refine Ev.step (fun k => by rw [exequaturref01_Unquote.l0]) ?_
    match hl : s.data.toList.drop i with
    | [] =>
      have hge := drop_nil_ge s i hl
      refine evNeg (by omega) (evNow ?_)
      rw [strOf_nb, unq]; simp [unqB]
    | c :: t =>
      obtain ⟨h1, h2, h3⟩ := bt_get s i hl
      have hc := c.toNat_lt
      refine evPos (by omega) (evPos (by omega) ?_)
      rw [h1]
      by_cases h43 : c = 43
      · subst h43
        refine evPos (by decide) ?_
        refine Ev.step (fun k => by rw [exequaturref01_Unquote.j1]) ?_
        refine evPos (by omega) (evPos (by omega) ?_)
        rw [h1, w64 (x := (i : Int) + 1) (by omega) (by omega)]
        refine evNeg (by decide) (evPos (by rw [nb_length]; omega) ?_)
        have hk := ih (d - 1) (by omega) (i + 1) (ob ++ [32]) (by omega) (by simp; omega)
        rw [nb_append, h3, unqB_cons] at hk
        rw [unq_blank]; exact hk
      · have n43 : ¬ (c.toNat : Int) = 43 := fun h => h43 (by apply UInt8.toNat_inj.1; show _ = 43; omega)
        refine evNeg n43 ?_
        refine Ev.step (fun k => by rw [exequaturref01_Unquote.j1]) ?_
        refine evPos (by omega) (evPos (by omega) ?_)
        rw [h1]
        clear h1
        by_cases h37 : c = 37
        · subst h37
          refine evPos (by decide) ?_
          rw [w64 (x := (i : Int) + 2) (by omega) (by omega), w64 (x := (i : Int) + 1) (by omega) (by omega)]
          match ht : t with
          | [] =>
            have hge := drop_nil_ge s (i + 1) h3
            refine evPos (by omega) (Ev.step (fun k => by rw [exequaturref01_Unquote.j2]) (evPos rfl (evNow ?_)))
            rw [unq_short [] (by decide)]; rfl
          | [a] =>
            obtain ⟨-, g2, g3⟩ := bt_get s (i + 1) h3
            have hge := drop_nil_ge s (i + 1 + 1) g3
            refine evPos (by omega) (Ev.step (fun k => by rw [exequaturref01_Unquote.j2]) (evPos rfl (evNow ?_)))
            rw [unq_short [a] (by simp)]; rfl
          | a :: b :: r =>
            obtain ⟨g1, g2, g3⟩ := bt_get s (i + 1) h3
            obtain ⟨f1, f2, f3⟩ := bt_get s (i + 1 + 1) g3
            have a16 := dig16 a
            have b16 := dig16 b
            refine evNeg (by omega) (evPos (by omega) (evPos (by omega) ?_))
            rw [show (i : Int) + 1 = ((i + 1 : Nat) : Int) from by omega, show (i : Int) + 2 = ((i + 1 + 1 : Nat) : Int) from by omega, g1, f1]
            clear f1 g1
            refine Ev.bind (rhex_is a) ?_
            by_cases ha : dig a < 0
            · refine evPos ha (Ev.step (fun k => by rw [exequaturref01_Unquote.j2]) (evPos rfl (evNow ?_)))
              rw [unq_bad _ _ _ (.inl ha)]; rfl
            · refine evNeg ha (evPos (by omega) (evPos (by omega) ?_))
              refine Ev.bind (rhex_is b) ?_
              refine Ev.step (fun k => by rw [exequaturref01_Unquote.j2]) ?_
              by_cases hb : dig b < 0
              · refine evPos (by simpa using hb) (evNow ?_)
                rw [unq_bad _ _ _ (.inr hb)]; rfl
              · refine evNeg (by simpa using hb) ?_
                obtain ⟨f1, -, -⟩ := bt_get s (i + 1 + 1) g3
                obtain ⟨g1, -, -⟩ := bt_get s (i + 1) h3
                rw [w64 (x := (i : Int) + 1) (by omega) (by omega), w64 (x := (i : Int) + 2) (by omega) (by omega), w64 (x := (i : Int) + 2 + 1) (by omega) (by omega)]
                refine evPos (by omega) (evPos (by omega) ?_)
                rw [show (i : Int) + 1 = ((i + 1 : Nat) : Int) from by omega, show (i : Int) + 2 = ((i + 1 + 1 : Nat) : Int) from by omega, g1, f1]
                clear f1 g1
                refine Ev.bind (rhex_is a) (evPos (by omega) (evPos (by omega) (Ev.bind (rhex_is b) (evPos (by rw [nb_length]; omega) ?_))))
                have hk := ih (d - 3) (by omega) (i + 1 + 1 + 1) (ob ++ [UInt8.ofNat (dig a * 16 + dig b).toNat]) (by omega) (by simp; omega)
                rw [nb_append, f3, unqB_cons] at hk
                rw [unq_hex _ _ _ (by omega) (by omega)]
                rw [w64 (x := 16 * dig a) (by omega) (by omega), w64 (x := 16 * dig a + dig b) (by omega) (by omega), show ((i + 1 + 1 : Nat) : Int) + 1 = ((i + 1 + 1 + 1 : Nat) : Int) from by omega]
                have e : nb [UInt8.ofNat (dig a * 16 + dig b).toNat] = [(16 * dig a + dig b) % 256] := by
                  simp only [nb, List.map_cons, List.map_nil, UInt8.toNat_ofNat']
                  congr 1; omega
                rw [e] at hk
                exact hk
        · have n37 : ¬ (c.toNat : Int) = 37 := fun h => h37 (by apply UInt8.toNat_inj.1; show _ = 37; omega)
          rw [w64 (x := (i : Int) + 1) (by omega) (by omega)]
          refine evNeg n37 (evPos (by rw [nb_length]; omega) ?_)
          have hk := ih (d - 1) (by omega) (i + 1) (ob ++ [c]) (by omega) (by simp; omega)
          rw [nb_append, h3, unqB_cons] at hk
          rw [unq_self _ _ h43 h37]; exact hk
/-- The reference's Unquote. -/
theorem runq_is (s : ByteArray) (hs : s.size ≤ 1000000000) : Ev (fun k => exequaturref01_Unquote.f k s) (unqB [] (unq s.data.toList)) := by
  have h := runq_loop s hs s.size 0 [] (by omega) (by simp)
  show Ev (fun k => exequaturref01_Unquote.l0 k s [] 0) _
  simpa [nb] using h

theorem unq_quo1 (c : UInt8) (r : List UInt8) : unq (quo1 c ++ r) = (unq r).map (c :: ·) := by
  unfold quo1
  by_cases hp : plainB c
  · rw [if_pos hp]
    refine unq_self c r ?_ ?_ <;> (rintro rfl; exact absurd hp (by decide))
  · rw [if_neg hp]
    have h : ∀ n : Fin 256, 0 ≤ dig (hx (n.val / 16)) ∧ 0 ≤ dig (hx (n.val % 16)) ∧ UInt8.ofNat (dig (hx (n.val / 16)) * 16 + dig (hx (n.val % 16))).toNat = UInt8.ofNat n.val := by decide +kernel
    obtain ⟨h1, h2, h3⟩ := h ⟨c.toNat, c.toNat_lt⟩
    simp only at h1 h2 h3
    show unq (37 :: hx (c.toNat / 16) :: hx (c.toNat % 16) :: r) = _
    rw [unq_hex _ _ _ h1 h2, h3]
    simp
theorem unq_quo (l : List UInt8) : unq (quo l) = some l := by
  induction l with
  | nil => rfl
  | cons c l ih =>
    show unq (quo1 c ++ quo l) = _
    rw [unq_quo1, ih]; rfl

end Go.Proofs.Ytfoepbjbgohhdaa.X
