/-
  DERIVED. GIVEN WITH THE SEED: THE CARDS: each row of YtbemnfbndjolpaaGreatDoorRows.lean that lists a variable, with what it lists TIED to the program's text (the seventh form; the later family's looks); each row that meets fmt, with fmt's text TOLD by the authors' own Lean function (tested against real Go, not proved from fmt's source: count such statements apart). THE CARD IS WHAT COUNTS. Prove the row's statement (the work); the ties are given (YtbemnfbndjolpaaGreatDoorTie.lean); close each card by the builder's one call (the guide's Derived/Test/ToyasCard.lean, 'card_holds'). Laid BY PROGRAM, IN A SANDBOX (cutbox-door.mjs). By AI agents, Wed Nov 11 2026. No macro, syntax, notation, axiom, sorry.
-/
import Derived.Test.YtbemnfbndjolpaaGreatDoorRows
import GoSem.ClaimSeven
namespace Go.Proofs.YtbemnfbndjolpaaGreatDoor
namespace Rows

/-- THE TIED CARD OF 'moietylaw20.WalForms'. -/
def walFormsCard : Claim7 := { stood := { row := walFormsRow, standIns := [], harness := (true, "af28f255b248a3fd498c39d211b0ad5c844257d3bab8cd4ceeeb461cc8160b4a"), looks := true }, kinds := [], alts := [], laidByText := true, laidKinds := [.data], laidTests := true, laidLooks := .later }
def WalFormsCardSaid : Prop := Claim7.holds Tryz.pinned (.plain (OpenSpec.ofChange walFormsSpec)) walFormsCard

/-- THE TIED CARD OF 'moietylaw20.WalFull'. -/
def walFullCard : Claim7 := { stood := { row := walFullRow, standIns := [], harness := (true, "af28f255b248a3fd498c39d211b0ad5c844257d3bab8cd4ceeeb461cc8160b4a"), looks := true }, kinds := [], alts := [], laidByText := true, laidKinds := [.data], laidTests := true, laidLooks := .later }
def WalFullCardSaid : Prop := Claim7.holds Tryz.pinned (.plain (OpenSpec.ofChange walFullSpec)) walFullCard

/-- THE TIED CARD OF 'moietylaw20.WalKeeps'. -/
def walKeepsCard : Claim7 := { stood := { row := walKeepsRow, standIns := [], harness := (true, "af28f255b248a3fd498c39d211b0ad5c844257d3bab8cd4ceeeb461cc8160b4a"), looks := true }, kinds := [], alts := [], laidByText := true, laidKinds := [.data], laidTests := true, laidLooks := .later }
def WalKeepsCardSaid : Prop := Claim7.holds Tryz.pinned (.plain (OpenSpec.ofChange walKeepsSpec)) walKeepsCard

/-- THE SECOND FORM's CARD OF 'moietylaw20.WalForms'. -/
def walFormsUptoCard : Claim7 := { stood := { row := walFormsUptoRow, standIns := [], harness := (true, "af28f255b248a3fd498c39d211b0ad5c844257d3bab8cd4ceeeb461cc8160b4a"), looks := true }, kinds := [], alts := [], laidByText := true, laidKinds := [.data], laidTests := true, laidLooks := .later }
def WalFormsUptoCardSaid : Prop := Claim7.holds Tryz.pinned (.plain (OpenSpec.upto walFormsSpec)) walFormsUptoCard

/-- THE SECOND FORM's CARD OF 'moietylaw20.WalFull'. -/
def walFullUptoCard : Claim7 := { stood := { row := walFullUptoRow, standIns := [], harness := (true, "af28f255b248a3fd498c39d211b0ad5c844257d3bab8cd4ceeeb461cc8160b4a"), looks := true }, kinds := [], alts := [], laidByText := true, laidKinds := [.data], laidTests := true, laidLooks := .later }
def WalFullUptoCardSaid : Prop := Claim7.holds Tryz.pinned (.plain (OpenSpec.upto walFullSpec)) walFullUptoCard

/-- THE SECOND FORM's CARD OF 'moietylaw20.WalKeeps'. -/
def walKeepsUptoCard : Claim7 := { stood := { row := walKeepsUptoRow, standIns := [], harness := (true, "af28f255b248a3fd498c39d211b0ad5c844257d3bab8cd4ceeeb461cc8160b4a"), looks := true }, kinds := [], alts := [], laidByText := true, laidKinds := [.data], laidTests := true, laidLooks := .later }
def WalKeepsUptoCardSaid : Prop := Claim7.holds Tryz.pinned (.plain (OpenSpec.upto walKeepsSpec)) walKeepsUptoCard
end Rows
end Go.Proofs.YtbemnfbndjolpaaGreatDoor
