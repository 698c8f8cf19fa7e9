/- A part of the proof of a card: what some functions of the program come to, each under the conditions that its theorem names. -/
import Derived.Test.YtpoblffgclmmlaaGreatDoorPkPk0
import Derived.Test.YtpoblffgclmmlaaGreatDoorPkPk2
import Derived.Test.YtpoblffgclmmlaaGreatDoorPkPk4
section
set_option linter.unusedVariables false
set_option linter.unusedSimpArgs false
namespace Go.Proofs.YtpoblffgclmmlaaGreatDoor.X
open Go.RowKit Go.Proofs.YtpoblffgclmmlaaGreatDoorW.PrintWords Go.Proofs.YtpoblffgclmmlaaGreatDoorW.PrintMore

/-- One answer alone. -/
theorem Ev.one {α : Type} {g : Nat → Option α} {r r' : α} (h : Ev g r) (h' : Ev g r') : r = r' := by
 obtain ⟨K, h⟩ := h
 obtain ⟨K', h'⟩ := h'
 have a := h (max K K') (by omega)
 have b := h' (max K K') (by omega)
 rw [a] at b
 exact Option.some.inj b

theorem w64 {x : Int} (h0 : -9223372036854775808 ≤ x) (h1 : x < 9223372036854775808) : wrap64 x = x := by unfold wrap64; omega
theorem bytes_list {a b : ByteArray} : a.toList = b.toList ↔ a.data.toList = b.data.toList := by
 rw [ByteArray.toList_eq, ByteArray.toList_eq]
end Go.Proofs.YtpoblffgclmmlaaGreatDoor.X
end
