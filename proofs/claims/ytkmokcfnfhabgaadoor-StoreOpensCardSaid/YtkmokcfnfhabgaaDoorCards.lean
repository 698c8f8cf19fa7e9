/-
  DERIVED. GIVEN WITH THE SEED: THE CARDS: each row of YtkmokcfnfhabgaaDoorRows.lean that lists a variable, with what it lists TIED to the program's text (the seventh form; the later family's looks); each row that meets fmt, with fmt's text TOLD by the authors' own Lean function (tested against real Go, not proved from fmt's source: count such statements apart). THE CARD IS WHAT COUNTS. Prove the row's statement (the work); the ties are given (YtkmokcfnfhabgaaDoorTie.lean); close each card by the builder's one call (the guide's Derived/Test/ToyasCard.lean, 'card_holds'). Laid BY PROGRAM, IN A SANDBOX (cutbox-door.mjs). By AI agents, Wed Nov 11 2026. No macro, syntax, notation, axiom, sorry.
-/
import Derived.Test.YtkmokcfnfhabgaaDoorRows
import GoSem.ClaimSeven
namespace Go.Proofs.YtkmokcfnfhabgaaDoor
namespace Rows

/-- THE TIED CARD OF 'exequaturlaw12.StoreOpens'. -/
def storeOpensCard : Claim7 := { stood := { row := storeOpensRow, standIns := [], harness := (true, "4b95c1b810bcb64816c2a4c5254cef9bdf9bd3f7912b67c03424c07bb775f836"), looks := true }, kinds := [], alts := [], laidByText := true, laidKinds := [.data, .data], laidTests := true, laidLooks := .later }
def StoreOpensCardSaid : Prop := Claim7.holds Tryd.pinned (.plain (OpenSpec.ofChange storeOpensSpec)) storeOpensCard

/-- THE TIED CARD OF 'exequaturlaw12.StoreNone'. -/
def storeNoneCard : Claim7 := { stood := { row := storeNoneRow, standIns := [], harness := (true, "4b95c1b810bcb64816c2a4c5254cef9bdf9bd3f7912b67c03424c07bb775f836"), looks := true }, kinds := [], alts := [], laidByText := true, laidKinds := [.data, .data], laidTests := true, laidLooks := .later }
def StoreNoneCardSaid : Prop := Claim7.holds Tryd.pinned (.plain (OpenSpec.ofChange storeNoneSpec)) storeNoneCard

/-- THE TIED CARD OF 'exequaturlaw12.StoreRenews'. -/
def storeRenewsCard : Claim7 := { stood := { row := storeRenewsRow, standIns := [], harness := (true, "4b95c1b810bcb64816c2a4c5254cef9bdf9bd3f7912b67c03424c07bb775f836"), looks := true }, kinds := [], alts := [], laidByText := true, laidKinds := [.data, .data], laidTests := true, laidLooks := .later }
def StoreRenewsCardSaid : Prop := Claim7.holds Tryd.pinned (.plain (OpenSpec.ofChange storeRenewsSpec)) storeRenewsCard

/-- THE TIED CARD OF 'exequaturlaw12.StoreKeys'. -/
def storeKeysCard : Claim7 := { stood := { row := storeKeysRow, standIns := [], harness := (true, "4b95c1b810bcb64816c2a4c5254cef9bdf9bd3f7912b67c03424c07bb775f836"), looks := true }, kinds := [], alts := [], laidByText := true, laidKinds := [.data, .data], laidTests := true, laidLooks := .later }
def StoreKeysCardSaid : Prop := Claim7.holds Tryd.pinned (.plain (OpenSpec.ofChange storeKeysSpec)) storeKeysCard

/-- THE TIED CARD OF 'exequaturlaw12.StoreAtomic'. -/
def storeAtomicCard : Claim7 := { stood := { row := storeAtomicRow, standIns := [], harness := (true, "4b95c1b810bcb64816c2a4c5254cef9bdf9bd3f7912b67c03424c07bb775f836"), looks := true }, kinds := [], alts := [], laidByText := true, laidKinds := [.data, .data], laidTests := true, laidLooks := .later }
def StoreAtomicCardSaid : Prop := Claim7.holds Tryd.pinned (.plain (OpenSpec.ofChange storeAtomicSpec)) storeAtomicCard

/-- THE SECOND FORM's CARD OF 'exequaturlaw12.StoreOpens'. -/
def storeOpensUptoCard : Claim7 := { stood := { row := storeOpensUptoRow, standIns := [], harness := (true, "4b95c1b810bcb64816c2a4c5254cef9bdf9bd3f7912b67c03424c07bb775f836"), looks := true }, kinds := [], alts := [], laidByText := true, laidKinds := [.data, .data], laidTests := true, laidLooks := .later }
def StoreOpensUptoCardSaid : Prop := Claim7.holds Tryd.pinned (.plain (OpenSpec.upto storeOpensSpec)) storeOpensUptoCard

/-- THE SECOND FORM's CARD OF 'exequaturlaw12.StoreNone'. -/
def storeNoneUptoCard : Claim7 := { stood := { row := storeNoneUptoRow, standIns := [], harness := (true, "4b95c1b810bcb64816c2a4c5254cef9bdf9bd3f7912b67c03424c07bb775f836"), looks := true }, kinds := [], alts := [], laidByText := true, laidKinds := [.data, .data], laidTests := true, laidLooks := .later }
def StoreNoneUptoCardSaid : Prop := Claim7.holds Tryd.pinned (.plain (OpenSpec.upto storeNoneSpec)) storeNoneUptoCard

/-- THE SECOND FORM's CARD OF 'exequaturlaw12.StoreRenews'. -/
def storeRenewsUptoCard : Claim7 := { stood := { row := storeRenewsUptoRow, standIns := [], harness := (true, "4b95c1b810bcb64816c2a4c5254cef9bdf9bd3f7912b67c03424c07bb775f836"), looks := true }, kinds := [], alts := [], laidByText := true, laidKinds := [.data, .data], laidTests := true, laidLooks := .later }
def StoreRenewsUptoCardSaid : Prop := Claim7.holds Tryd.pinned (.plain (OpenSpec.upto storeRenewsSpec)) storeRenewsUptoCard

/-- THE SECOND FORM's CARD OF 'exequaturlaw12.StoreKeys'. -/
def storeKeysUptoCard : Claim7 := { stood := { row := storeKeysUptoRow, standIns := [], harness := (true, "4b95c1b810bcb64816c2a4c5254cef9bdf9bd3f7912b67c03424c07bb775f836"), looks := true }, kinds := [], alts := [], laidByText := true, laidKinds := [.data, .data], laidTests := true, laidLooks := .later }
def StoreKeysUptoCardSaid : Prop := Claim7.holds Tryd.pinned (.plain (OpenSpec.upto storeKeysSpec)) storeKeysUptoCard

/-- THE SECOND FORM's CARD OF 'exequaturlaw12.StoreAtomic'. -/
def storeAtomicUptoCard : Claim7 := { stood := { row := storeAtomicUptoRow, standIns := [], harness := (true, "4b95c1b810bcb64816c2a4c5254cef9bdf9bd3f7912b67c03424c07bb775f836"), looks := true }, kinds := [], alts := [], laidByText := true, laidKinds := [.data, .data], laidTests := true, laidLooks := .later }
def StoreAtomicUptoCardSaid : Prop := Claim7.holds Tryd.pinned (.plain (OpenSpec.upto storeAtomicSpec)) storeAtomicUptoCard
end Rows
end Go.Proofs.YtkmokcfnfhabgaaDoor
