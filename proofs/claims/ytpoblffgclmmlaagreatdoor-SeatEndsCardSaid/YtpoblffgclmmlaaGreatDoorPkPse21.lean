/- SeatEnds: the tied card: whatever the input the law answers true and leaves it alone, the listed tables being as the program's text lays them; conditions: as the row's cells say ('laid') (part 22 of 28). -/
import Derived.Deep.RegionHeld3
import Derived.Test.YtpoblffgclmmlaaGreatDoorPkPse15
import Derived.Test.YtpoblffgclmmlaaGreatDoorPkPse17
import Derived.Test.YtpoblffgclmmlaaGreatDoorPkPse19
import Derived.Test.YtpoblffgclmmlaaGreatDoorPkPse20
section
set_option linter.unusedVariables false
set_option linter.unusedSimpArgs false
namespace Go.Proofs.YtpoblffgclmmlaaGreatDoor.X
open Go.RowKit Go.WideMaps Go.Maps Go.Proofs.YtpoblffgclmmlaaGreatDoorW.PrintWords Go.Proofs.YtpoblffgclmmlaaGreatDoorW.PrintLast Go.Proofs.YtpoblffgclmmlaaGreatDoorW.PrintMore Go.Proofs.YtpoblffgclmmlaaGreatDoor.Q

theorem mkB_size (l : List UInt8) : (⟨l.toArray⟩ : ByteArray).size = l.length := by show (List.toArray _).size = _; simp
def cnt (r : List S82) (p : ByteArray) : List ByteArray := (r.map fun x => x.f0).filter fun k => preB k p
end Go.Proofs.YtpoblffgclmmlaaGreatDoor.X
end
