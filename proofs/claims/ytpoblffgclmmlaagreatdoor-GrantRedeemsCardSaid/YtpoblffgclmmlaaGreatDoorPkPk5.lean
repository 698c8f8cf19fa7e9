/- A part of the proof of a card: what some functions of the program come to, each under the conditions that its theorem names. -/
import Derived.Test.YtpoblffgclmmlaaGreatDoorPkPk1
import Derived.Test.YtpoblffgclmmlaaGreatDoorPkPk3
import Derived.Test.YtpoblffgclmmlaaGreatDoorPkPk4
section
set_option linter.unusedVariables false
set_option linter.unusedSimpArgs false
namespace Go.Proofs.YtpoblffgclmmlaaGreatDoor.X
open Go.RowKit Go.Proofs.YtpoblffgclmmlaaGreatDoorW.PrintWords Go.Proofs.YtpoblffgclmmlaaGreatDoorW.PrintMore

theorem evPos {α : Type} {c : Prop} [Decidable c] {a b : Nat → Option α} {r : α} (hc : c) (h : Ev a r) : Ev (fun k => if c then a k else b k) r := by
 obtain ⟨K, h⟩ := h
 exact ⟨K, fun k hk => by show (if c then a k else b k) = some r; rw [if_pos hc]; exact h k hk⟩
theorem evNeg {α : Type} {c : Prop} [Decidable c] {a b : Nat → Option α} {r : α} (hc : ¬ c) (h : Ev b r) : Ev (fun k => if c then a k else b k) r := by
 obtain ⟨K, h⟩ := h
 exact ⟨K, fun k hk => by show (if c then a k else b k) = some r; rw [if_neg hc]; exact h k hk⟩
theorem evVal {α β : Type} {x : Option α} {f : Nat → α → Option β} {a : α} {r : β} (hx : x = some a) (h : Ev (fun k => f k a) r) : Ev (fun k => x.bind (f k)) r := by
 subst hx
 obtain ⟨K, h⟩ := h
 exact ⟨K, fun k hk => by simpa using h k hk⟩
theorem evNow {α : Type} {r r' : α} (h : r' = r) : Ev (fun _ => some r') r := by subst h; exact Ev.now _
theorem evEq {α : Type} {g : Nat → Option α} {r r' : α} (h : Ev g r) (e : r = r') : Ev g r' := e ▸ h
/-- One answer alone. -/
theorem Ev.one {α : Type} {g : Nat → Option α} {r r' : α} (h : Ev g r) (h' : Ev g r') : r = r' := by
 obtain ⟨K, h⟩ := h
 obtain ⟨K', h'⟩ := h'
 have a := h (max K K') (by omega)
 have b := h' (max K K') (by omega)
 rw [a] at b
 exact Option.some.inj b

theorem w64 {x : Int} (h0 : -9223372036854775808 ≤ x) (h1 : x < 9223372036854775808) : wrap64 x = x := by unfold wrap64; omega
def nb (l : List UInt8) : List Int := l.map fun b => (b.toNat : Int)
theorem strOf_nb (l : List UInt8) : strOfNums (nb l) = ⟨l.toArray⟩ := by
 unfold strOfNums nb
 rw [List.map_map, show ((fun n : Int => UInt8.ofNat n.toNat) ∘ fun b : UInt8 => (b.toNat : Int)) = id from by funext b; simp, List.map_id]
theorem bt_get (s : ByteArray) (i : Nat) {a : UInt8} {r : List UInt8} (h : s.data.toList.drop i = a :: r) : bt s (i : Int) = a.toNat ∧ i < s.size ∧ s.data.toList.drop (i + 1) = r := by
 have hlt : i < s.data.toList.length := by
  rcases Nat.lt_or_ge i s.data.toList.length with h' | h'
  ·
   exact h'
  ·
   rw [List.drop_of_length_le h'] at h; cases h
 rw [List.drop_eq_getElem_cons hlt] at h
 injection h with h1 h2
 refine ⟨?_, by rw [← data_length]; exact hlt, h2⟩
 rw [← h1]
 unfold bt
 rw [dif_pos (by rw [← data_length]; simpa using hlt)]
 rfl
theorem drop_nil_ge (s : ByteArray) (i : Nat) (h : s.data.toList.drop i = []) : s.size ≤ i := by
 rw [← data_length]; exact List.drop_eq_nil_iff.1 h
theorem bytes_list {a b : ByteArray} : a.toList = b.toList ↔ a.data.toList = b.data.toList := by
 rw [ByteArray.toList_eq, ByteArray.toList_eq]
theorem bytes_eq {a : ByteArray} {l : List UInt8} : a = ⟨l.toArray⟩ ↔ a.data.toList = l := by
 constructor
 ·
  intro h; rw [h]
 ·
  intro h; cases a; simp at h ⊢; exact Array.ext' (by simpa using h)

end Go.Proofs.YtpoblffgclmmlaaGreatDoor.X
end
