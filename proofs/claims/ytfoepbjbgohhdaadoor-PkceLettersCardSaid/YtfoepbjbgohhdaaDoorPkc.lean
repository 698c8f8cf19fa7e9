/- Proofs: what both texts answer, in plain lists. -/
import Derived.Test.YtfoepbjbgohhdaaDoorQ7
import Derived.Test.YtfoepbjbgohhdaaDoorEqU
import Derived.Test.YtfoepbjbgohhdaaDoorEqE
import Derived.Test.YtfoepbjbgohhdaaDoorRt
import Derived.Test.YtfoepbjbgohhdaaDoorHsh
set_option linter.unusedVariables false
set_option linter.unusedSimpArgs false
namespace Go.Proofs.YtfoepbjbgohhdaaDoor.X
open Go.RowKit Go.Proofs.YtfoepbjbgohhdaaDoorW.PrintWords Go.Proofs.YtfoepbjbgohhdaaDoorW.PrintMore Go.Proofs.YtfoepbjbgohhdaaDoor.Q

theorem rplain_is (c : UInt8) : exequaturref01_plain.f (c.toNat : Int) = some (plainB c) := by
  have h : ∀ n : Fin 256, exequaturref01_plain.f (n.val : Int) = some (plainB (UInt8.ofNat n.val)) := by decide +kernel
  have := h ⟨c.toNat, c.toNat_lt⟩
  simpa using this
theorem tplain_is (c : UInt8) : text_Plain.f (c.toNat : Int) = some (plainB c) := by
  have h : ∀ n : Fin 256, text_Plain.f (n.val : Int) = some (plainB (UInt8.ofNat n.val)) := by decide +kernel
  have := h ⟨c.toNat, c.toNat_lt⟩
  simpa using this

def encB (b : ByteArray) : ByteArray := ⟨(enc b.data.toList).toArray⟩
def chalS (v : ByteArray) : ByteArray := encB (sumS v.data.toList)
def rightS (c v : ByteArray) : Bool := decide (43 ≤ v.size ∧ v.size ≤ 128) && v.data.toList.all plainB && decide (chalS v = c)

theorem encB_size (b : ByteArray) (h : b.size ≤ 100) : (encB b).size ≤ 200 := by
  show (enc b.data.toList).toArray.size ≤ 200
  rw [List.size_toArray, enc_len, data_length]; omega
theorem chal_is (v : ByteArray) (h : v.size ≤ 1000000000) : pkce_Challenge.f v = some (chalS v) := by
  unfold pkce_Challenge.f hash_Sum.f text_Encode.f
  rw [if_pos h, Option.bind_some, if_pos (by rw [sumS_size]; omega), Option.bind_some]
  rfl
theorem chalS_size (v : ByteArray) : (chalS v).size ≤ 200 := encB_size _ (by rw [sumS_size]; omega)

theorem plain_loop (s : ByteArray) (hs : s.size ≤ 1000000000) : ∀ (l : List UInt8) (i : Nat), s.data.toList.drop i = l → i ≤ s.size →
    Ev (fun k => pkce_plain.l0 k s (s.size : Int) (i : Int)) (l.all plainB) := by
  intro l
  induction l with
  | nil =>
    intro i h hi
    have h2 := drop_nil_ge s i h
    refine Ev.step (fun k => by rw [pkce_plain.l0]) ?_
    exact evNeg (by omega) (evNow rfl)
  | cons c t ih =>
    intro i h hi
    obtain ⟨h1, h2, h3⟩ := bt_get s i h
    refine Ev.step (fun k => by rw [pkce_plain.l0]) ?_
    refine evPos (by omega) (evPos (by omega) (evPos (by omega) ?_))
    refine evVal (a := plainB c) (by rw [h1, tplain_is]) ?_
    by_cases hp : plainB c = true
    · refine evPos hp ?_
      rw [w64 (by omega) (by omega)]
      have := ih (i + 1) h3 (by omega)
      rw [List.all_cons, hp, Bool.true_and]
      exact this
    · refine evNeg hp (evNow ?_)
      rw [List.all_cons]; simp [hp]
theorem plain_is (s : ByteArray) (hs : s.size ≤ 1000000000) : Ev (fun k => pkce_plain.f k s) (s.data.toList.all plainB) :=
  plain_loop s hs _ 0 (List.drop_zero ..) (by omega)

theorem right_is (c v : ByteArray) (hc : c.size ≤ 1000000000) (hv : v.size ≤ 1000000000) : Ev (fun k => pkce_Right.f k c v) (rightS c v) := by
  unfold pkce_Right.f rightS
  by_cases h1 : 43 ≤ v.size
  · refine evPos (by omega) ?_
    by_cases h2 : v.size ≤ 128
    · refine evPos (by omega) ?_
      refine Ev.bind (plain_is v hv) ?_
      by_cases h3 : v.data.toList.all plainB = true
      · refine evPos h3 (evVal (chal_is v hv) ?_)
        refine Ev.bind (equal_is (chalS v) c (by have := chalS_size v; omega) (by omega)) (evNow ?_)
        rw [h3]; simp [h1, h2]
      · refine evNeg h3 (evNow ?_)
        simp only [Bool.not_eq_true] at h3
        rw [h3]; simp
    · exact evNeg (by omega) (evNow (by simp [h1, h2]))
  · exact evNeg (by omega) (evNow (by simp [h1]))

theorem rright_loop (c s : ByteArray) (hs : s.size ≤ 1000000000) : ∀ (l : List UInt8) (i : Nat), s.data.toList.drop i = l → i ≤ s.size →
    Ev (fun k => exequaturref01_Right.l0 k c s (i : Int)) (l.all plainB && (decide (43 ≤ s.size ∧ s.size ≤ 128) && decide (chalS s = c))) := by
  intro l
  induction l with
  | nil =>
    intro i h hi
    have h2 := drop_nil_ge s i h
    refine Ev.step (fun k => by rw [exequaturref01_Right.l0]) ?_
    refine evNeg (by omega) ?_
    by_cases h1 : 43 ≤ s.size
    · refine evPos (by omega) ?_
      by_cases h2 : s.size ≤ 128
      · refine evPos (by omega) ?_
        refine evVal (a := sumS s.data.toList) (by unfold exequaturref01_Sum.f; rw [if_pos hs]) ?_
        refine Ev.bind (b64_is _ (by rw [sumS_size]; omega)) (evNow ?_)
        simp only [h1, h2, and_self, decide_true, List.all_nil, Bool.true_and]
        rw [Bool.eq_iff_iff, beq_iff_eq, decide_eq_true_eq]
        constructor
        · intro h; exact bytes_eq.2 (bytes_list.1 h).symm |>.symm ▸ rfl
        · intro h; rw [← h]; rfl
      · exact evNeg (by omega) (evNow (by simp [h1, h2]))
    · exact evNeg (by omega) (evNow (by simp [h1]))
  | cons d t ih =>
    intro i h hi
    obtain ⟨h1, h2, h3⟩ := bt_get s i h
    refine Ev.step (fun k => by rw [exequaturref01_Right.l0]) ?_
    refine evPos (by omega) (evPos (by omega) ?_)
    refine evVal (a := plainB d) (by rw [h1, rplain_is]) ?_
    by_cases hp : plainB d = true
    · refine evPos hp ?_
      rw [w64 (by omega) (by omega)]
      have := ih (i + 1) h3 (by omega)
      rw [List.all_cons, hp, Bool.true_and]
      exact this
    · refine evNeg hp (evNow ?_)
      rw [List.all_cons]; simp [hp]
theorem rright_is (c v : ByteArray) (hv : v.size ≤ 1000000000) : Ev (fun k => exequaturref01_Right.f k c v) (rightS c v) := by
  refine evEq (rright_loop c v hv _ 0 (List.drop_zero ..) (by omega)) ?_
  unfold rightS
  cases v.data.toList.all plainB <;> simp

def goodS (c : ByteArray) : Bool := decide ((decR c.data.toList).2 = 0) && decide ((decR c.data.toList).1.size = 32)
theorem good_is (c : ByteArray) (hc : c.size ≤ 1000000000) : pkce_Good.f c = some (goodS c) := by
  unfold pkce_Good.f text_Decode.f goodS
  rw [if_pos hc, Option.bind_some]
  by_cases h : (decR c.data.toList).2 = 0
  · rw [if_pos h, h]
    simp only [decide_true, Bool.true_and, Option.some.injEq]
    rw [Bool.eq_iff_iff, beq_iff_eq, decide_eq_true_eq]
    omega
  · rw [if_neg h]; simp [h]
theorem rgood_is (c : ByteArray) (hc : c.size ≤ 1000000000) : Ev (fun k => exequaturref01_Good.f k c) (goodS c) := by
  unfold exequaturref01_Good.f goodS
  refine Ev.bind (unb64_is c hc) ?_
  cases hd : decS c.data.toList 0 0 with
  | none => rw [decR_none hd]; exact evNeg (by simp [unbR]) (evNow (by simp))
  | some o =>
    by_cases he : enc o = c.data.toList
    · rw [decR_some hd he]
      refine evPos (by simp [unbR, he]) (evNow ?_)
      simp only [unbR, List.nil_append, decide_true, Bool.true_and]
      rw [Bool.eq_iff_iff, beq_iff_eq, decide_eq_true_eq]
      omega
    · rw [decR_other hd he]
      exact evNeg (by simp [unbR, he]) (evNow (by simp))
theorem decR_enc (l : List UInt8) : decR (enc l) = (⟨l.toArray⟩, 0) := by
  have h := dec_of_enc l
  simp [decR, h]
theorem goodS_chal (v : ByteArray) : goodS (chalS v) = true := by
  unfold goodS chalS encB
  rw [show (⟨(enc (sumS v.data.toList).data.toList).toArray⟩ : ByteArray).data.toList = enc (sumS v.data.toList).data.toList by simp, decR_enc]
  have := sumS_size v.data.toList
  simp
  exact this
end Go.Proofs.YtfoepbjbgohhdaaDoor.X
