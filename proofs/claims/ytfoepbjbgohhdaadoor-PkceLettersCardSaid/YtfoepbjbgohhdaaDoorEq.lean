/- What the printed functions of the texts' layer, and of its reference, come to, in plain lists. -/
import Derived.Test.YtfoepbjbgohhdaaDoorQ7
import Derived.Test.YtfoepbjbgohhdaaDoorEv
set_option linter.unusedVariables false
set_option linter.unusedSimpArgs false
namespace Go.Proofs.YtfoepbjbgohhdaaDoor.X
open Go.RowKit Go.Proofs.YtfoepbjbgohhdaaDoorW.PrintWords Go.Proofs.YtfoepbjbgohhdaaDoorW.PrintMore Go.Proofs.YtfoepbjbgohhdaaDoor.Q

theorem sixty_is (n : Nat) (h : n < 64) : exequaturref01_sixty.f (n : Int) = some ((al n).toNat : Int) := by
  have := (by decide +kernel : ∀ n : Fin 64, exequaturref01_sixty.f (n.val : Int) = some ((al n.val).toNat : Int))
  exact this ⟨n, h⟩
theorem sixty_at {x : Int} {n : Nat} (hx : x = n) (h : n < 64) : exequaturref01_sixty.f x = some ((al n).toNat : Int) := by rw [hx]; exact sixty_is n h

/-- The four letters, and so many of them. -/
theorem b64_four (s : ByteArray) (out : List Int) (i n v : Nat) (hv : v < 16777216) (hn : n ≤ 3) (hi : i < 2000000000) (ho : out.length < 8000000000)
    (r : ByteArray) (h : Ev (fun k => exequaturref01_B64.l0 k s (out ++ (nb [al (v / 262144), al (v / 4096 % 64), al (v / 64 % 64), al (v % 64)]).take (n + 1)) ((i + 3 : Nat) : Int)) r) :
    Ev (fun k => exequaturref01_B64.l1 k s out (i : Int) (v : Int) (n : Int) 3) r := by
  refine Ev.step (fun k => by rw [exequaturref01_B64.l1]) ?_
  refine evNeg (by decide) ?_
  have t1 : wrap64 (Int.tdiv (v : Int) 262144) = ((v / 262144 : Nat) : Int) := by
    rw [Int.tdiv_eq_ediv_of_nonneg (by omega), w64 (by omega) (by omega)]; rfl
  have t2 : Int.tmod (wrap64 (Int.tdiv (v : Int) 4096)) 64 = ((v / 4096 % 64 : Nat) : Int) := by
    rw [Int.tdiv_eq_ediv_of_nonneg (by omega), w64 (by omega) (by omega), Int.tmod_eq_emod_of_nonneg (by omega)]; rfl
  have t3 : Int.tmod (wrap64 (Int.tdiv (v : Int) 64)) 64 = ((v / 64 % 64 : Nat) : Int) := by
    rw [Int.tdiv_eq_ediv_of_nonneg (by omega), w64 (by omega) (by omega), Int.tmod_eq_emod_of_nonneg (by omega)]; rfl
  have t4 : Int.tmod (v : Int) 64 = ((v % 64 : Nat) : Int) := by
    rw [Int.tmod_eq_emod_of_nonneg (by omega)]; rfl
  refine evVal (sixty_at t1 (by omega)) ?_
  refine evVal (sixty_at t2 (by omega)) ?_
  refine evVal (sixty_at t3 (by omega)) ?_
  refine evVal (sixty_at t4 (by omega)) ?_
  clear t1 t2 t3 t4
  refine evVal rfl ?_
  have tn : wrap64 ((n : Int) + 1) = ((n + 1 : Nat) : Int) := by rw [w64 (by omega) (by omega)]; rfl
  rw [tn]
  refine evPos (by omega) ?_
  refine evPos (by simp; omega) ?_
  refine evVal rfl ?_
  refine evPos (by simp [List.length_take]; omega) ?_
  rw [w64 (by omega) (by omega)]
  exact h

theorem b64_step (s : ByteArray) (out : List Int) (i j v n : Nat) (a : UInt8) (t : List UInt8) (v' n' j' : Nat) (ev : v' = v * 256 + a.toNat) (en : n' = n + 1) (ej : j' = j + 1) (hj : j < 3) (hi : i < 2000000000) (hv : v < 65536) (hn : n < 3) (h : s.data.toList.drop (i + j) = a :: t) (r : ByteArray)
    (hk : Ev (fun k => exequaturref01_B64.l1 k s out (i : Int) (v' : Int) (n' : Int) (j' : Int)) r) :
    Ev (fun k => exequaturref01_B64.l1 k s out (i : Int) (v : Int) (n : Int) (j : Int)) r := by
  subst ev en ej
  obtain ⟨h1, h2, h3⟩ := bt_get s (i + j) h
  have ha := a.toNat_lt
  refine Ev.step (fun k => by rw [exequaturref01_B64.l1]) ?_
  have e1 : wrap64 ((i : Int) + (j : Int)) = ((i + j : Nat) : Int) := by rw [w64 (by omega) (by omega)]; rfl
  rw [e1, h1, w64 (x := (v : Int) * 256) (by omega) (by omega), w64 (x := ((a.toNat : Nat) : Int)) (by omega) (by omega), w64 (by omega) (by omega), w64 (x := (n : Int) + 1) (by omega) (by omega), w64 (x := (j : Int) + 1) (by omega) (by omega)]
  exact evPos (by omega) (evPos (by omega) (evPos (by omega) hk))
theorem b64_void (s : ByteArray) (out : List Int) (i j v n : Nat) (v' j' : Nat) (ev : v' = v * 256) (ej : j' = j + 1) (hj : j < 3) (hi : i < 2000000000) (hv : v < 65536) (hn : n < 3) (h : s.size ≤ i + j) (r : ByteArray)
    (hk : Ev (fun k => exequaturref01_B64.l1 k s out (i : Int) (v' : Int) (n : Int) (j' : Int)) r) :
    Ev (fun k => exequaturref01_B64.l1 k s out (i : Int) (v : Int) (n : Int) (j : Int)) r := by
  subst ev ej
  refine Ev.step (fun k => by rw [exequaturref01_B64.l1]) ?_
  have e1 : wrap64 ((i : Int) + (j : Int)) = ((i + j : Nat) : Int) := by rw [w64 (by omega) (by omega)]; rfl
  rw [e1, w64 (x := (v : Int) * 256) (by omega) (by omega), w64 (x := (j : Int) + 1) (by omega) (by omega)]
  exact evPos (by omega) (evNeg (by omega) hk)

theorem b64_loop (s : ByteArray) (hs : s.size ≤ 1000000000) : ∀ (d i : Nat) (out : List Int), s.size ≤ i + d → i ≤ 1000000003 → out.length ≤ 4 * i →
    Ev (fun k => exequaturref01_B64.l0 k s out (i : Int)) (strOfNums (out ++ nb (enc (s.data.toList.drop i)))) := by
  intro d
  induction d using Nat.strongRecOn with
  | ind d ih =>
    intro i out hd hi ho
    refine Ev.step (fun k => by rw [exequaturref01_B64.l0]) ?_
    match hl : s.data.toList.drop i with
    | [] =>
      have := drop_nil_ge s i hl
      exact evNeg (by omega) (evNow (by simp [enc_nil, nb]))
    | [a] =>
      obtain ⟨-, h2, h3⟩ := bt_get s i hl
      have ha := a.toNat_lt
      have h4 := drop_nil_ge s (i + 1) h3
      refine evPos (by omega) ?_
      refine b64_step s out i 0 0 0 a [] (a.toNat) 1 1 (by omega) rfl rfl (by omega) (by omega) (by omega) (by omega) hl _ ?_
      refine b64_void s out i 1 (a.toNat) 1 (a.toNat * 256) 2 rfl rfl (by omega) (by omega) (by omega) (by omega) (by omega) _ ?_
      refine b64_void s out i 2 (a.toNat * 256) 1 (a.toNat * 256 * 256) 3 rfl rfl (by omega) (by omega) (by omega) (by omega) (by omega) _ ?_
      refine b64_four s out i 1 (a.toNat * 256 * 256) (by omega) (by omega) (by omega) (by omega) _ ?_
      refine evEq (ih (d - 1) (by omega) (i + 3) _ (by omega) (by omega) (by simp [nb]; omega)) ?_
      rw [List.drop_of_length_le (by rw [data_length]; omega), enc_nil, enc_one]
      congr 1
      simp only [nb, List.map_cons, List.map_nil, List.append_nil, List.take_succ_cons, List.take_zero, Nat.zero_mul, Nat.zero_add]
      rw [show a.toNat * 256 * 256 / 262144 = a.toNat / 4 % 64 from by omega, show a.toNat * 256 * 256 / 4096 % 64 = a.toNat % 4 * 16 % 64 from by omega]
    | [a, b] =>
      obtain ⟨-, h2, h3⟩ := bt_get s i hl
      obtain ⟨-, g2, g3⟩ := bt_get s (i + 1) h3
      have ha := a.toNat_lt
      have hb := b.toNat_lt
      have h4 := drop_nil_ge s (i + 1 + 1) g3
      refine evPos (by omega) ?_
      refine b64_step s out i 0 0 0 a [b] (a.toNat) 1 1 (by omega) rfl rfl (by omega) (by omega) (by omega) (by omega) hl _ ?_
      refine b64_step s out i 1 (a.toNat) 1 b [] (a.toNat * 256 + b.toNat) 2 2 rfl rfl rfl (by omega) (by omega) (by omega) (by omega) h3 _ ?_
      refine b64_void s out i 2 (a.toNat * 256 + b.toNat) 2 ((a.toNat * 256 + b.toNat) * 256) 3 rfl rfl (by omega) (by omega) (by omega) (by omega) (by omega) _ ?_
      refine b64_four s out i 2 ((a.toNat * 256 + b.toNat) * 256) (by omega) (by omega) (by omega) (by omega) _ ?_
      refine evEq (ih (d - 1) (by omega) (i + 3) _ (by omega) (by omega) (by simp [nb]; omega)) ?_
      rw [List.drop_of_length_le (by rw [data_length]; omega), enc_nil, enc_two]
      congr 1
      simp only [nb, List.map_cons, List.map_nil, List.append_nil, List.take_succ_cons, List.take_zero, Nat.zero_mul, Nat.zero_add]
      rw [show (a.toNat * 256 + b.toNat) * 256 / 262144 = a.toNat / 4 % 64 from by omega, show (a.toNat * 256 + b.toNat) * 256 / 4096 % 64 = (a.toNat % 4 * 256 + b.toNat) / 16 % 64 from by omega, show (a.toNat * 256 + b.toNat) * 256 / 64 % 64 = (a.toNat % 4 * 256 + b.toNat) % 16 * 4 % 64 from by omega]
    | a :: b :: c :: t =>
      obtain ⟨-, h2, h3⟩ := bt_get s i hl
      obtain ⟨-, g2, g3⟩ := bt_get s (i + 1) h3
      obtain ⟨-, f2, f3⟩ := bt_get s (i + 1 + 1) g3
      have ha := a.toNat_lt
      have hb := b.toNat_lt
      have hc := c.toNat_lt
      refine evPos (by omega) ?_
      refine b64_step s out i 0 0 0 a _ (a.toNat) 1 1 (by omega) rfl rfl (by omega) (by omega) (by omega) (by omega) hl _ ?_
      refine b64_step s out i 1 (a.toNat) 1 b _ (a.toNat * 256 + b.toNat) 2 2 rfl rfl rfl (by omega) (by omega) (by omega) (by omega) h3 _ ?_
      refine b64_step s out i 2 (a.toNat * 256 + b.toNat) 2 c _ ((a.toNat * 256 + b.toNat) * 256 + c.toNat) 3 3 rfl rfl rfl (by omega) (by omega) (by omega) (by omega) g3 _ ?_
      refine b64_four s out i 3 ((a.toNat * 256 + b.toNat) * 256 + c.toNat) (by omega) (by omega) (by omega) (by omega) _ ?_
      refine evEq (ih (d - 1) (by omega) (i + 3) _ (by omega) (by omega) (by simp [nb]; omega)) ?_
      rw [show i + 3 = i + 1 + 1 + 1 from rfl, f3, enc_three]
      congr 1
      simp only [nb, List.map_cons, List.map_nil, List.take_succ_cons, List.take_zero, Nat.zero_mul, Nat.zero_add, List.append_assoc, List.cons_append, List.nil_append]
      rw [show ((a.toNat * 256 + b.toNat) * 256 + c.toNat) / 262144 = a.toNat / 4 % 64 from by omega, show ((a.toNat * 256 + b.toNat) * 256 + c.toNat) / 4096 % 64 = (a.toNat % 4 * 256 + b.toNat) / 16 % 64 from by omega, show ((a.toNat * 256 + b.toNat) * 256 + c.toNat) / 64 % 64 = ((a.toNat % 4 * 256 + b.toNat) % 16 * 256 + c.toNat) / 64 % 64 from by omega, show ((a.toNat * 256 + b.toNat) * 256 + c.toNat) % 64 = ((a.toNat % 4 * 256 + b.toNat) % 16 * 256 + c.toNat) % 64 from by omega]

/-- The reference's Encode is enc. -/
theorem b64_is (s : ByteArray) (hs : s.size ≤ 1000000000) : Ev (fun k => exequaturref01_B64.f k s) ⟨(enc s.data.toList).toArray⟩ := by
  have h := b64_loop s hs s.size 0 [] (by omega) (by omega) (by simp)
  refine evEq h ?_
  simp only [List.nil_append, List.drop_zero]
  exact strOf_nb _

end Go.Proofs.YtfoepbjbgohhdaaDoor.X
