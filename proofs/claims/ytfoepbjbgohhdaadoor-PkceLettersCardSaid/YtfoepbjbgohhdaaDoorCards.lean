/-
  DERIVED. GIVEN WITH THE SEED: THE CARDS: each row of YtfoepbjbgohhdaaDoorRows.lean that lists a variable, with what it lists TIED to the program's text (the seventh form; the later family's looks); each row that meets fmt, with fmt's text TOLD by the authors' own Lean function (tested against real Go, not proved from fmt's source: count such statements apart). THE CARD IS WHAT COUNTS. Prove the row's statement (the work); the ties are given (YtfoepbjbgohhdaaDoorTie.lean); close each card by the builder's one call (the guide's Derived/Test/ToyasCard.lean, 'card_holds'). Laid BY PROGRAM, IN A SANDBOX (cutbox-door.mjs). By AI agents, Wed Nov 11 2026. No macro, syntax, notation, axiom, sorry.
-/
import Derived.Test.YtfoepbjbgohhdaaDoorRows
import GoSem.ClaimSeven
namespace Go.Proofs.YtfoepbjbgohhdaaDoor
namespace Rows

/-- THE TIED CARD OF 'exequaturlaw04.HashSums'. -/
def hashSumsCard : Claim7 := { stood := { row := hashSumsRow, standIns := [], harness := (true, "d28d364d695c21d1e747d3a512ff2ebd2587fc950268e65adf728d5b19bbee75"), looks := false }, kinds := [], alts := [], laidByText := true, laidKinds := [.data, .data], laidTests := true, laidLooks := .later }
def HashSumsCardSaid : Prop := Claim7.holds Tryd.pinned (.plain (OpenSpec.ofChange hashSumsSpec)) hashSumsCard

/-- THE TIED CARD OF 'exequaturlaw04.HashMacs'. -/
def hashMacsCard : Claim7 := { stood := { row := hashMacsRow, standIns := [], harness := (true, "d28d364d695c21d1e747d3a512ff2ebd2587fc950268e65adf728d5b19bbee75"), looks := false }, kinds := [], alts := [], laidByText := true, laidKinds := [.data, .data], laidTests := true, laidLooks := .later }
def HashMacsCardSaid : Prop := Claim7.holds Tryd.pinned (.plain (OpenSpec.ofChange hashMacsSpec)) hashMacsCard

/-- THE TIED CARD OF 'exequaturlaw04.HashKeys'. -/
def hashKeysCard : Claim7 := { stood := { row := hashKeysRow, standIns := [], harness := (true, "d28d364d695c21d1e747d3a512ff2ebd2587fc950268e65adf728d5b19bbee75"), looks := false }, kinds := [], alts := [], laidByText := true, laidKinds := [.data, .data], laidTests := true, laidLooks := .later }
def HashKeysCardSaid : Prop := Claim7.holds Tryd.pinned (.plain (OpenSpec.ofChange hashKeysSpec)) hashKeysCard

/-- THE TIED CARD OF 'exequaturlaw09.PkceRight'. -/
def pkceRightCard : Claim7 := { stood := { row := pkceRightRow, standIns := [], harness := (true, "d28d364d695c21d1e747d3a512ff2ebd2587fc950268e65adf728d5b19bbee75"), looks := false }, kinds := [], alts := [], laidByText := true, laidKinds := [.data, .data], laidTests := true, laidLooks := .later }
def PkceRightCardSaid : Prop := Claim7.holds Tryd.pinned (.plain (OpenSpec.ofChange pkceRightSpec)) pkceRightCard

/-- THE TIED CARD OF 'exequaturlaw09.PkceLetters'. -/
def pkceLettersCard : Claim7 := { stood := { row := pkceLettersRow, standIns := [], harness := (true, "d28d364d695c21d1e747d3a512ff2ebd2587fc950268e65adf728d5b19bbee75"), looks := false }, kinds := [], alts := [], laidByText := true, laidKinds := [.data, .data], laidTests := true, laidLooks := .later }
def PkceLettersCardSaid : Prop := Claim7.holds Tryd.pinned (.plain (OpenSpec.ofChange pkceLettersSpec)) pkceLettersCard

/-- THE SECOND FORM's CARD OF 'exequaturlaw04.HashSums'. -/
def hashSumsUptoCard : Claim7 := { stood := { row := hashSumsUptoRow, standIns := [], harness := (true, "d28d364d695c21d1e747d3a512ff2ebd2587fc950268e65adf728d5b19bbee75"), looks := false }, kinds := [], alts := [], laidByText := true, laidKinds := [.data, .data], laidTests := true, laidLooks := .later }
def HashSumsUptoCardSaid : Prop := Claim7.holds Tryd.pinned (.plain (OpenSpec.upto hashSumsSpec)) hashSumsUptoCard

/-- THE SECOND FORM's CARD OF 'exequaturlaw04.HashMacs'. -/
def hashMacsUptoCard : Claim7 := { stood := { row := hashMacsUptoRow, standIns := [], harness := (true, "d28d364d695c21d1e747d3a512ff2ebd2587fc950268e65adf728d5b19bbee75"), looks := false }, kinds := [], alts := [], laidByText := true, laidKinds := [.data, .data], laidTests := true, laidLooks := .later }
def HashMacsUptoCardSaid : Prop := Claim7.holds Tryd.pinned (.plain (OpenSpec.upto hashMacsSpec)) hashMacsUptoCard

/-- THE SECOND FORM's CARD OF 'exequaturlaw04.HashKeys'. -/
def hashKeysUptoCard : Claim7 := { stood := { row := hashKeysUptoRow, standIns := [], harness := (true, "d28d364d695c21d1e747d3a512ff2ebd2587fc950268e65adf728d5b19bbee75"), looks := false }, kinds := [], alts := [], laidByText := true, laidKinds := [.data, .data], laidTests := true, laidLooks := .later }
def HashKeysUptoCardSaid : Prop := Claim7.holds Tryd.pinned (.plain (OpenSpec.upto hashKeysSpec)) hashKeysUptoCard

/-- THE SECOND FORM's CARD OF 'exequaturlaw09.PkceRight'. -/
def pkceRightUptoCard : Claim7 := { stood := { row := pkceRightUptoRow, standIns := [], harness := (true, "d28d364d695c21d1e747d3a512ff2ebd2587fc950268e65adf728d5b19bbee75"), looks := false }, kinds := [], alts := [], laidByText := true, laidKinds := [.data, .data], laidTests := true, laidLooks := .later }
def PkceRightUptoCardSaid : Prop := Claim7.holds Tryd.pinned (.plain (OpenSpec.upto pkceRightSpec)) pkceRightUptoCard

/-- THE SECOND FORM's CARD OF 'exequaturlaw09.PkceLetters'. -/
def pkceLettersUptoCard : Claim7 := { stood := { row := pkceLettersUptoRow, standIns := [], harness := (true, "d28d364d695c21d1e747d3a512ff2ebd2587fc950268e65adf728d5b19bbee75"), looks := false }, kinds := [], alts := [], laidByText := true, laidKinds := [.data, .data], laidTests := true, laidLooks := .later }
def PkceLettersUptoCardSaid : Prop := Claim7.holds Tryd.pinned (.plain (OpenSpec.upto pkceLettersSpec)) pkceLettersUptoCard
end Rows
end Go.Proofs.YtfoepbjbgohhdaaDoor
