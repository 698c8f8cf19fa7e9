/- A part of the proof of a card: what some functions of the program come to, each under the conditions that its theorem names. -/
import Derived.Test.YtpoblffgclmmlaaGreatDoorPkPk7
import Derived.Test.YtpoblffgclmmlaaGreatDoorPkPk9
import Derived.Test.YtpoblffgclmmlaaGreatDoorPkPk13
import Derived.Test.YtpoblffgclmmlaaGreatDoorPkPk15
import Derived.Test.YtpoblffgclmmlaaGreatDoorPkPk18
section
set_option linter.unusedVariables false
set_option linter.unusedSimpArgs false
namespace Go.Proofs.YtpoblffgclmmlaaGreatDoor.X
open Go.RowKit Go.Proofs.YtpoblffgclmmlaaGreatDoorW.PrintWords Go.Proofs.YtpoblffgclmmlaaGreatDoorW.PrintLast Go.Proofs.YtpoblffgclmmlaaGreatDoorW.PrintMore Go.Proofs.YtpoblffgclmmlaaGreatDoor.Q

theorem wrap_i64 (x : Int) : I64 (wrap64 x) := by unfold I64 wrap64; omega
instance decDig (c : UInt8) : Decidable (IsDig c) := by unfold IsDig; infer_instance
theorem toList_inj {a b : ByteArray} (h : a.toList = b.toList) : a = b := by
 rw [ByteArray.toList_eq, ByteArray.toList_eq] at h
 exact ByteArray.ext (Array.toList_inj.1 h)
end Go.Proofs.YtpoblffgclmmlaaGreatDoor.X
end
