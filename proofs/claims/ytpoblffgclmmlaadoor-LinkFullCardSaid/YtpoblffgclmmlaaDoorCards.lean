/-
  DERIVED. GIVEN WITH THE SEED: THE CARDS: each row of YtpoblffgclmmlaaDoorRows.lean that lists a variable, with what it lists TIED to the program's text (the seventh form; the later family's looks); each row that meets fmt, with fmt's text TOLD by the authors' own Lean function (tested against real Go, not proved from fmt's source: count such statements apart). THE CARD IS WHAT COUNTS. Prove the row's statement (the work); the ties are given (YtpoblffgclmmlaaDoorTie.lean); close each card by the builder's one call (the guide's Derived/Test/ToyasCard.lean, 'card_holds'). Laid BY PROGRAM, IN A SANDBOX (cutbox-door.mjs). By AI agents, Wed Nov 11 2026. No macro, syntax, notation, axiom, sorry.
-/
import Derived.Test.YtpoblffgclmmlaaDoorRows
import GoSem.ClaimSeven
namespace Go.Proofs.YtpoblffgclmmlaaDoor
namespace Rows

/-- THE TIED CARD OF 'exequaturlaw15.LinkFull'. -/
def linkFullCard : Claim7 := { stood := { row := linkFullRow, standIns := [], harness := (true, "b8dd51f18d332f1dfd86fb1b1d721b91348861e575cbdf716677e3a4c728467f"), looks := true }, kinds := [], alts := [], laidByText := true, laidKinds := [.data, .data, .data, .data, .data], laidTests := true, laidLooks := .later }
def LinkFullCardSaid : Prop := Claim7.holds Tryd.pinned (.plain (OpenSpec.ofChange linkFullSpec)) linkFullCard

/-- THE TIED CARD OF 'exequaturlaw15.LinkTwice'. -/
def linkTwiceCard : Claim7 := { stood := { row := linkTwiceRow, standIns := [], harness := (true, "b8dd51f18d332f1dfd86fb1b1d721b91348861e575cbdf716677e3a4c728467f"), looks := true }, kinds := [], alts := [], laidByText := true, laidKinds := [.data, .data, .data, .data, .data], laidTests := true, laidLooks := .later }
def LinkTwiceCardSaid : Prop := Claim7.holds Tryd.pinned (.plain (OpenSpec.ofChange linkTwiceSpec)) linkTwiceCard

/-- THE SECOND FORM's CARD OF 'exequaturlaw15.LinkFull'. -/
def linkFullUptoCard : Claim7 := { stood := { row := linkFullUptoRow, standIns := [], harness := (true, "b8dd51f18d332f1dfd86fb1b1d721b91348861e575cbdf716677e3a4c728467f"), looks := true }, kinds := [], alts := [], laidByText := true, laidKinds := [.data, .data, .data, .data, .data], laidTests := true, laidLooks := .later }
def LinkFullUptoCardSaid : Prop := Claim7.holds Tryd.pinned (.plain (OpenSpec.upto linkFullSpec)) linkFullUptoCard

/-- THE SECOND FORM's CARD OF 'exequaturlaw15.LinkTwice'. -/
def linkTwiceUptoCard : Claim7 := { stood := { row := linkTwiceUptoRow, standIns := [], harness := (true, "b8dd51f18d332f1dfd86fb1b1d721b91348861e575cbdf716677e3a4c728467f"), looks := true }, kinds := [], alts := [], laidByText := true, laidKinds := [.data, .data, .data, .data, .data], laidTests := true, laidLooks := .later }
def LinkTwiceUptoCardSaid : Prop := Claim7.holds Tryd.pinned (.plain (OpenSpec.upto linkTwiceSpec)) linkTwiceUptoCard
end Rows
end Go.Proofs.YtpoblffgclmmlaaDoor
