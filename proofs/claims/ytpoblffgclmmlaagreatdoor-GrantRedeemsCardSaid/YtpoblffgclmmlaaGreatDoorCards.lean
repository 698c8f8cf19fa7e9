/-
  DERIVED. GIVEN WITH THE SEED: THE CARDS: each row of YtpoblffgclmmlaaGreatDoorRows.lean that lists a variable, with what it lists TIED to the program's text (the seventh form; the later family's looks); each row that meets fmt, with fmt's text TOLD by the authors' own Lean function (tested against real Go, not proved from fmt's source: count such statements apart). THE CARD IS WHAT COUNTS. Prove the row's statement (the work); the ties are given (YtpoblffgclmmlaaGreatDoorTie.lean); close each card by the builder's one call (the guide's Derived/Test/ToyasCard.lean, 'card_holds'). Laid BY PROGRAM, IN A SANDBOX (cutbox-door.mjs). By AI agents, Wed Nov 11 2026. No macro, syntax, notation, axiom, sorry.
-/
import Derived.Test.YtpoblffgclmmlaaGreatDoorRows
import GoSem.ClaimSeven
namespace Go.Proofs.YtpoblffgclmmlaaGreatDoor
namespace Rows

/-- THE TIED CARD OF 'exequaturlaw12.StorePlays'. -/
def storePlaysCard : Claim7 := { stood := { row := storePlaysRow, standIns := [], harness := (true, "b30eec05ff95a8f29b1ac54e94f6f38516c657bd0d873b5473fa018812c9596f"), looks := true }, kinds := [], alts := [], laidByText := true, laidKinds := [.data, .data], laidTests := true, laidLooks := .later }
def StorePlaysCardSaid : Prop := Claim7.holds Tryz.pinned (.plain (OpenSpec.ofChange storePlaysSpec)) storePlaysCard

/-- THE TIED CARD OF 'exequaturlaw15.LinkResolves'. -/
def linkResolvesCard : Claim7 := { stood := { row := linkResolvesRow, standIns := [], harness := (true, "b30eec05ff95a8f29b1ac54e94f6f38516c657bd0d873b5473fa018812c9596f"), looks := true }, kinds := [], alts := [], laidByText := true, laidKinds := [.data, .data, .data, .data, .data], laidTests := true, laidLooks := .later }
def LinkResolvesCardSaid : Prop := Claim7.holds Tryz.pinned (.plain (OpenSpec.ofChange linkResolvesSpec)) linkResolvesCard

/-- THE TIED CARD OF 'exequaturlaw15.LinkFinds'. -/
def linkFindsCard : Claim7 := { stood := { row := linkFindsRow, standIns := [], harness := (true, "b30eec05ff95a8f29b1ac54e94f6f38516c657bd0d873b5473fa018812c9596f"), looks := true }, kinds := [], alts := [], laidByText := true, laidKinds := [.data, .data, .data, .data, .data], laidTests := true, laidLooks := .later }
def LinkFindsCardSaid : Prop := Claim7.holds Tryz.pinned (.plain (OpenSpec.ofChange linkFindsSpec)) linkFindsCard

/-- THE TIED CARD OF 'exequaturlaw19.SeatSaves'. -/
def seatSavesCard : Claim7 := { stood := { row := seatSavesRow, standIns := [], harness := (true, "b30eec05ff95a8f29b1ac54e94f6f38516c657bd0d873b5473fa018812c9596f"), looks := true }, kinds := [], alts := [], laidByText := true, laidKinds := [.data, .data, .data, .sentinel, .sentinel, .data, .data], laidTests := true, laidLooks := .later }
def SeatSavesCardSaid : Prop := Claim7.holds Tryz.pinned (.plain (OpenSpec.ofChange seatSavesSpec)) seatSavesCard

/-- THE TIED CARD OF 'exequaturlaw19.SeatFinds'. -/
def seatFindsCard : Claim7 := { stood := { row := seatFindsRow, standIns := [], harness := (true, "b30eec05ff95a8f29b1ac54e94f6f38516c657bd0d873b5473fa018812c9596f"), looks := true }, kinds := [], alts := [], laidByText := true, laidKinds := [.data, .data, .data, .sentinel, .sentinel, .data, .data], laidTests := true, laidLooks := .later }
def SeatFindsCardSaid : Prop := Claim7.holds Tryz.pinned (.plain (OpenSpec.ofChange seatFindsSpec)) seatFindsCard

/-- THE TIED CARD OF 'exequaturlaw19.SeatSweeps'. -/
def seatSweepsCard : Claim7 := { stood := { row := seatSweepsRow, standIns := [], harness := (true, "b30eec05ff95a8f29b1ac54e94f6f38516c657bd0d873b5473fa018812c9596f"), looks := true }, kinds := [], alts := [], laidByText := true, laidKinds := [.data, .data, .data, .sentinel, .sentinel, .data, .data], laidTests := true, laidLooks := .later }
def SeatSweepsCardSaid : Prop := Claim7.holds Tryz.pinned (.plain (OpenSpec.ofChange seatSweepsSpec)) seatSweepsCard

/-- THE TIED CARD OF 'exequaturlaw19.SeatEnds'. -/
def seatEndsCard : Claim7 := { stood := { row := seatEndsRow, standIns := [], harness := (true, "b30eec05ff95a8f29b1ac54e94f6f38516c657bd0d873b5473fa018812c9596f"), looks := true }, kinds := [], alts := [], laidByText := true, laidKinds := [.data, .data, .data, .sentinel, .sentinel, .data, .data], laidTests := true, laidLooks := .later }
def SeatEndsCardSaid : Prop := Claim7.holds Tryz.pinned (.plain (OpenSpec.ofChange seatEndsSpec)) seatEndsCard

/-- THE TIED CARD OF 'exequaturlaw20.GrantOld'. -/
def grantOldCard : Claim7 := { stood := { row := grantOldRow, standIns := [], harness := (true, "b30eec05ff95a8f29b1ac54e94f6f38516c657bd0d873b5473fa018812c9596f"), looks := true }, kinds := [], alts := [], laidByText := true, laidKinds := [.data, .data, .data, .sentinel, .sentinel, .data, .data], laidTests := true, laidLooks := .later }
def GrantOldCardSaid : Prop := Claim7.holds Tryz.pinned (.plain (OpenSpec.ofChange grantOldSpec)) grantOldCard

/-- THE TIED CARD OF 'exequaturlaw20.GrantSpends'. -/
def grantSpendsCard : Claim7 := { stood := { row := grantSpendsRow, standIns := [], harness := (true, "b30eec05ff95a8f29b1ac54e94f6f38516c657bd0d873b5473fa018812c9596f"), looks := true }, kinds := [], alts := [], laidByText := true, laidKinds := [.data, .data, .data, .sentinel, .sentinel, .data, .data], laidTests := true, laidLooks := .later }
def GrantSpendsCardSaid : Prop := Claim7.holds Tryz.pinned (.plain (OpenSpec.ofChange grantSpendsSpec)) grantSpendsCard

/-- THE TIED CARD OF 'exequaturlaw20.GrantFinds'. -/
def grantFindsCard : Claim7 := { stood := { row := grantFindsRow, standIns := [], harness := (true, "b30eec05ff95a8f29b1ac54e94f6f38516c657bd0d873b5473fa018812c9596f"), looks := true }, kinds := [], alts := [], laidByText := true, laidKinds := [.data, .data, .data, .sentinel, .sentinel, .data, .data], laidTests := true, laidLooks := .later }
def GrantFindsCardSaid : Prop := Claim7.holds Tryz.pinned (.plain (OpenSpec.ofChange grantFindsSpec)) grantFindsCard

/-- THE TIED CARD OF 'exequaturlaw20.GrantSaves'. -/
def grantSavesCard : Claim7 := { stood := { row := grantSavesRow, standIns := [], harness := (true, "b30eec05ff95a8f29b1ac54e94f6f38516c657bd0d873b5473fa018812c9596f"), looks := true }, kinds := [], alts := [], laidByText := true, laidKinds := [.data, .data, .data, .sentinel, .sentinel, .data, .data], laidTests := true, laidLooks := .later }
def GrantSavesCardSaid : Prop := Claim7.holds Tryz.pinned (.plain (OpenSpec.ofChange grantSavesSpec)) grantSavesCard

/-- THE TIED CARD OF 'exequaturlaw20.GrantSweeps'. -/
def grantSweepsCard : Claim7 := { stood := { row := grantSweepsRow, standIns := [], harness := (true, "b30eec05ff95a8f29b1ac54e94f6f38516c657bd0d873b5473fa018812c9596f"), looks := true }, kinds := [], alts := [], laidByText := true, laidKinds := [.data, .data, .data, .sentinel, .sentinel, .data, .data], laidTests := true, laidLooks := .later }
def GrantSweepsCardSaid : Prop := Claim7.holds Tryz.pinned (.plain (OpenSpec.ofChange grantSweepsSpec)) grantSweepsCard

/-- THE TIED CARD OF 'exequaturlaw20.GrantRedeems'. -/
def grantRedeemsCard : Claim7 := { stood := { row := grantRedeemsRow, standIns := [], harness := (true, "b30eec05ff95a8f29b1ac54e94f6f38516c657bd0d873b5473fa018812c9596f"), looks := true }, kinds := [], alts := [], laidByText := true, laidKinds := [.data, .data, .data, .sentinel, .sentinel, .data, .data], laidTests := true, laidLooks := .later }
def GrantRedeemsCardSaid : Prop := Claim7.holds Tryz.pinned (.plain (OpenSpec.ofChange grantRedeemsSpec)) grantRedeemsCard

/-- THE SECOND FORM's CARD OF 'exequaturlaw12.StorePlays'. -/
def storePlaysUptoCard : Claim7 := { stood := { row := storePlaysUptoRow, standIns := [], harness := (true, "b30eec05ff95a8f29b1ac54e94f6f38516c657bd0d873b5473fa018812c9596f"), looks := true }, kinds := [], alts := [], laidByText := true, laidKinds := [.data, .data], laidTests := true, laidLooks := .later }
def StorePlaysUptoCardSaid : Prop := Claim7.holds Tryz.pinned (.plain (OpenSpec.upto storePlaysSpec)) storePlaysUptoCard

/-- THE SECOND FORM's CARD OF 'exequaturlaw15.LinkResolves'. -/
def linkResolvesUptoCard : Claim7 := { stood := { row := linkResolvesUptoRow, standIns := [], harness := (true, "b30eec05ff95a8f29b1ac54e94f6f38516c657bd0d873b5473fa018812c9596f"), looks := true }, kinds := [], alts := [], laidByText := true, laidKinds := [.data, .data, .data, .data, .data], laidTests := true, laidLooks := .later }
def LinkResolvesUptoCardSaid : Prop := Claim7.holds Tryz.pinned (.plain (OpenSpec.upto linkResolvesSpec)) linkResolvesUptoCard

/-- THE SECOND FORM's CARD OF 'exequaturlaw15.LinkFinds'. -/
def linkFindsUptoCard : Claim7 := { stood := { row := linkFindsUptoRow, standIns := [], harness := (true, "b30eec05ff95a8f29b1ac54e94f6f38516c657bd0d873b5473fa018812c9596f"), looks := true }, kinds := [], alts := [], laidByText := true, laidKinds := [.data, .data, .data, .data, .data], laidTests := true, laidLooks := .later }
def LinkFindsUptoCardSaid : Prop := Claim7.holds Tryz.pinned (.plain (OpenSpec.upto linkFindsSpec)) linkFindsUptoCard

/-- THE SECOND FORM's CARD OF 'exequaturlaw19.SeatSaves'. -/
def seatSavesUptoCard : Claim7 := { stood := { row := seatSavesUptoRow, standIns := [], harness := (true, "b30eec05ff95a8f29b1ac54e94f6f38516c657bd0d873b5473fa018812c9596f"), looks := true }, kinds := [], alts := [], laidByText := true, laidKinds := [.data, .data, .data, .sentinel, .sentinel, .data, .data], laidTests := true, laidLooks := .later }
def SeatSavesUptoCardSaid : Prop := Claim7.holds Tryz.pinned (.plain (OpenSpec.upto seatSavesSpec)) seatSavesUptoCard

/-- THE SECOND FORM's CARD OF 'exequaturlaw19.SeatFinds'. -/
def seatFindsUptoCard : Claim7 := { stood := { row := seatFindsUptoRow, standIns := [], harness := (true, "b30eec05ff95a8f29b1ac54e94f6f38516c657bd0d873b5473fa018812c9596f"), looks := true }, kinds := [], alts := [], laidByText := true, laidKinds := [.data, .data, .data, .sentinel, .sentinel, .data, .data], laidTests := true, laidLooks := .later }
def SeatFindsUptoCardSaid : Prop := Claim7.holds Tryz.pinned (.plain (OpenSpec.upto seatFindsSpec)) seatFindsUptoCard

/-- THE SECOND FORM's CARD OF 'exequaturlaw19.SeatSweeps'. -/
def seatSweepsUptoCard : Claim7 := { stood := { row := seatSweepsUptoRow, standIns := [], harness := (true, "b30eec05ff95a8f29b1ac54e94f6f38516c657bd0d873b5473fa018812c9596f"), looks := true }, kinds := [], alts := [], laidByText := true, laidKinds := [.data, .data, .data, .sentinel, .sentinel, .data, .data], laidTests := true, laidLooks := .later }
def SeatSweepsUptoCardSaid : Prop := Claim7.holds Tryz.pinned (.plain (OpenSpec.upto seatSweepsSpec)) seatSweepsUptoCard

/-- THE SECOND FORM's CARD OF 'exequaturlaw19.SeatEnds'. -/
def seatEndsUptoCard : Claim7 := { stood := { row := seatEndsUptoRow, standIns := [], harness := (true, "b30eec05ff95a8f29b1ac54e94f6f38516c657bd0d873b5473fa018812c9596f"), looks := true }, kinds := [], alts := [], laidByText := true, laidKinds := [.data, .data, .data, .sentinel, .sentinel, .data, .data], laidTests := true, laidLooks := .later }
def SeatEndsUptoCardSaid : Prop := Claim7.holds Tryz.pinned (.plain (OpenSpec.upto seatEndsSpec)) seatEndsUptoCard

/-- THE SECOND FORM's CARD OF 'exequaturlaw20.GrantOld'. -/
def grantOldUptoCard : Claim7 := { stood := { row := grantOldUptoRow, standIns := [], harness := (true, "b30eec05ff95a8f29b1ac54e94f6f38516c657bd0d873b5473fa018812c9596f"), looks := true }, kinds := [], alts := [], laidByText := true, laidKinds := [.data, .data, .data, .sentinel, .sentinel, .data, .data], laidTests := true, laidLooks := .later }
def GrantOldUptoCardSaid : Prop := Claim7.holds Tryz.pinned (.plain (OpenSpec.upto grantOldSpec)) grantOldUptoCard

/-- THE SECOND FORM's CARD OF 'exequaturlaw20.GrantSpends'. -/
def grantSpendsUptoCard : Claim7 := { stood := { row := grantSpendsUptoRow, standIns := [], harness := (true, "b30eec05ff95a8f29b1ac54e94f6f38516c657bd0d873b5473fa018812c9596f"), looks := true }, kinds := [], alts := [], laidByText := true, laidKinds := [.data, .data, .data, .sentinel, .sentinel, .data, .data], laidTests := true, laidLooks := .later }
def GrantSpendsUptoCardSaid : Prop := Claim7.holds Tryz.pinned (.plain (OpenSpec.upto grantSpendsSpec)) grantSpendsUptoCard

/-- THE SECOND FORM's CARD OF 'exequaturlaw20.GrantFinds'. -/
def grantFindsUptoCard : Claim7 := { stood := { row := grantFindsUptoRow, standIns := [], harness := (true, "b30eec05ff95a8f29b1ac54e94f6f38516c657bd0d873b5473fa018812c9596f"), looks := true }, kinds := [], alts := [], laidByText := true, laidKinds := [.data, .data, .data, .sentinel, .sentinel, .data, .data], laidTests := true, laidLooks := .later }
def GrantFindsUptoCardSaid : Prop := Claim7.holds Tryz.pinned (.plain (OpenSpec.upto grantFindsSpec)) grantFindsUptoCard

/-- THE SECOND FORM's CARD OF 'exequaturlaw20.GrantSaves'. -/
def grantSavesUptoCard : Claim7 := { stood := { row := grantSavesUptoRow, standIns := [], harness := (true, "b30eec05ff95a8f29b1ac54e94f6f38516c657bd0d873b5473fa018812c9596f"), looks := true }, kinds := [], alts := [], laidByText := true, laidKinds := [.data, .data, .data, .sentinel, .sentinel, .data, .data], laidTests := true, laidLooks := .later }
def GrantSavesUptoCardSaid : Prop := Claim7.holds Tryz.pinned (.plain (OpenSpec.upto grantSavesSpec)) grantSavesUptoCard

/-- THE SECOND FORM's CARD OF 'exequaturlaw20.GrantSweeps'. -/
def grantSweepsUptoCard : Claim7 := { stood := { row := grantSweepsUptoRow, standIns := [], harness := (true, "b30eec05ff95a8f29b1ac54e94f6f38516c657bd0d873b5473fa018812c9596f"), looks := true }, kinds := [], alts := [], laidByText := true, laidKinds := [.data, .data, .data, .sentinel, .sentinel, .data, .data], laidTests := true, laidLooks := .later }
def GrantSweepsUptoCardSaid : Prop := Claim7.holds Tryz.pinned (.plain (OpenSpec.upto grantSweepsSpec)) grantSweepsUptoCard

/-- THE SECOND FORM's CARD OF 'exequaturlaw20.GrantRedeems'. -/
def grantRedeemsUptoCard : Claim7 := { stood := { row := grantRedeemsUptoRow, standIns := [], harness := (true, "b30eec05ff95a8f29b1ac54e94f6f38516c657bd0d873b5473fa018812c9596f"), looks := true }, kinds := [], alts := [], laidByText := true, laidKinds := [.data, .data, .data, .sentinel, .sentinel, .data, .data], laidTests := true, laidLooks := .later }
def GrantRedeemsUptoCardSaid : Prop := Claim7.holds Tryz.pinned (.plain (OpenSpec.upto grantRedeemsSpec)) grantRedeemsUptoCard
end Rows
end Go.Proofs.YtpoblffgclmmlaaGreatDoor
