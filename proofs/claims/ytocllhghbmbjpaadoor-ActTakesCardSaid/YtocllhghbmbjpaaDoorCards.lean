/-
  DERIVED. GIVEN WITH THE SEED: THE CARDS: each row of YtocllhghbmbjpaaDoorRows.lean that lists a variable, with what it lists TIED to the program's text (the seventh form; the later family's looks); each row that meets fmt, with fmt's text TOLD by the authors' own Lean function (tested against real Go, not proved from fmt's source: count such statements apart). THE CARD IS WHAT COUNTS. Prove the row's statement (the work); the ties are given (YtocllhghbmbjpaaDoorTie.lean); close each card by the builder's one call (the guide's Derived/Test/ToyasCard.lean, 'card_holds'). Laid BY PROGRAM, IN A SANDBOX (cutbox-door.mjs). By AI agents, Wed Nov 11 2026. No macro, syntax, notation, axiom, sorry.
-/
import Derived.Test.YtocllhghbmbjpaaDoorRows
import GoSem.ClaimSeven
namespace Go.Proofs.YtocllhghbmbjpaaDoor
namespace Rows

/-- THE TIED CARD OF 'moietylaw04.ActKinds'. -/
def actKindsCard : Claim7 := { stood := { row := actKindsRow, standIns := [], harness := (true, "c5193aa83c998907b6bc680e895416c98baca4cad3a285619995394f3c183b22"), looks := true }, kinds := [], alts := [], laidByText := true, laidKinds := [.data], laidTests := true, laidLooks := .later }
def ActKindsCardSaid : Prop := Claim7.holds Tryd.pinned (.plain (OpenSpec.ofChange actKindsSpec)) actKindsCard

/-- THE TIED CARD OF 'moietylaw04.ActChecks'. -/
def actChecksCard : Claim7 := { stood := { row := actChecksRow, standIns := [], harness := (true, "c5193aa83c998907b6bc680e895416c98baca4cad3a285619995394f3c183b22"), looks := true }, kinds := [], alts := [], laidByText := true, laidKinds := [.data], laidTests := true, laidLooks := .later }
def ActChecksCardSaid : Prop := Claim7.holds Tryd.pinned (.plain (OpenSpec.ofChange actChecksSpec)) actChecksCard

/-- THE TIED CARD OF 'moietylaw04.ActBytes'. -/
def actBytesCard : Claim7 := { stood := { row := actBytesRow, standIns := [], harness := (true, "c5193aa83c998907b6bc680e895416c98baca4cad3a285619995394f3c183b22"), looks := true }, kinds := [], alts := [], laidByText := true, laidKinds := [.data], laidTests := true, laidLooks := .later }
def ActBytesCardSaid : Prop := Claim7.holds Tryd.pinned (.plain (OpenSpec.ofChange actBytesSpec)) actBytesCard

/-- THE TIED CARD OF 'moietylaw04.ActReads'. -/
def actReadsCard : Claim7 := { stood := { row := actReadsRow, standIns := [], harness := (true, "c5193aa83c998907b6bc680e895416c98baca4cad3a285619995394f3c183b22"), looks := true }, kinds := [], alts := [], laidByText := true, laidKinds := [.data], laidTests := true, laidLooks := .later }
def ActReadsCardSaid : Prop := Claim7.holds Tryd.pinned (.plain (OpenSpec.ofChange actReadsSpec)) actReadsCard

/-- THE TIED CARD OF 'moietylaw04.ActSame'. -/
def actSameCard : Claim7 := { stood := { row := actSameRow, standIns := [], harness := (true, "c5193aa83c998907b6bc680e895416c98baca4cad3a285619995394f3c183b22"), looks := true }, kinds := [], alts := [], laidByText := true, laidKinds := [.data], laidTests := true, laidLooks := .later }
def ActSameCardSaid : Prop := Claim7.holds Tryd.pinned (.plain (OpenSpec.ofChange actSameSpec)) actSameCard

/-- THE TIED CARD OF 'moietylaw04.ActTakes'. -/
def actTakesCard : Claim7 := { stood := { row := actTakesRow, standIns := [], harness := (true, "c5193aa83c998907b6bc680e895416c98baca4cad3a285619995394f3c183b22"), looks := true }, kinds := [], alts := [], laidByText := true, laidKinds := [.data], laidTests := true, laidLooks := .later }
def ActTakesCardSaid : Prop := Claim7.holds Tryd.pinned (.plain (OpenSpec.ofChange actTakesSpec)) actTakesCard

/-- THE SECOND FORM's CARD OF 'moietylaw04.ActKinds'. -/
def actKindsUptoCard : Claim7 := { stood := { row := actKindsUptoRow, standIns := [], harness := (true, "c5193aa83c998907b6bc680e895416c98baca4cad3a285619995394f3c183b22"), looks := true }, kinds := [], alts := [], laidByText := true, laidKinds := [.data], laidTests := true, laidLooks := .later }
def ActKindsUptoCardSaid : Prop := Claim7.holds Tryd.pinned (.plain (OpenSpec.upto actKindsSpec)) actKindsUptoCard

/-- THE SECOND FORM's CARD OF 'moietylaw04.ActChecks'. -/
def actChecksUptoCard : Claim7 := { stood := { row := actChecksUptoRow, standIns := [], harness := (true, "c5193aa83c998907b6bc680e895416c98baca4cad3a285619995394f3c183b22"), looks := true }, kinds := [], alts := [], laidByText := true, laidKinds := [.data], laidTests := true, laidLooks := .later }
def ActChecksUptoCardSaid : Prop := Claim7.holds Tryd.pinned (.plain (OpenSpec.upto actChecksSpec)) actChecksUptoCard

/-- THE SECOND FORM's CARD OF 'moietylaw04.ActBytes'. -/
def actBytesUptoCard : Claim7 := { stood := { row := actBytesUptoRow, standIns := [], harness := (true, "c5193aa83c998907b6bc680e895416c98baca4cad3a285619995394f3c183b22"), looks := true }, kinds := [], alts := [], laidByText := true, laidKinds := [.data], laidTests := true, laidLooks := .later }
def ActBytesUptoCardSaid : Prop := Claim7.holds Tryd.pinned (.plain (OpenSpec.upto actBytesSpec)) actBytesUptoCard

/-- THE SECOND FORM's CARD OF 'moietylaw04.ActReads'. -/
def actReadsUptoCard : Claim7 := { stood := { row := actReadsUptoRow, standIns := [], harness := (true, "c5193aa83c998907b6bc680e895416c98baca4cad3a285619995394f3c183b22"), looks := true }, kinds := [], alts := [], laidByText := true, laidKinds := [.data], laidTests := true, laidLooks := .later }
def ActReadsUptoCardSaid : Prop := Claim7.holds Tryd.pinned (.plain (OpenSpec.upto actReadsSpec)) actReadsUptoCard

/-- THE SECOND FORM's CARD OF 'moietylaw04.ActSame'. -/
def actSameUptoCard : Claim7 := { stood := { row := actSameUptoRow, standIns := [], harness := (true, "c5193aa83c998907b6bc680e895416c98baca4cad3a285619995394f3c183b22"), looks := true }, kinds := [], alts := [], laidByText := true, laidKinds := [.data], laidTests := true, laidLooks := .later }
def ActSameUptoCardSaid : Prop := Claim7.holds Tryd.pinned (.plain (OpenSpec.upto actSameSpec)) actSameUptoCard

/-- THE SECOND FORM's CARD OF 'moietylaw04.ActTakes'. -/
def actTakesUptoCard : Claim7 := { stood := { row := actTakesUptoRow, standIns := [], harness := (true, "c5193aa83c998907b6bc680e895416c98baca4cad3a285619995394f3c183b22"), looks := true }, kinds := [], alts := [], laidByText := true, laidKinds := [.data], laidTests := true, laidLooks := .later }
def ActTakesUptoCardSaid : Prop := Claim7.holds Tryd.pinned (.plain (OpenSpec.upto actTakesSpec)) actTakesUptoCard
end Rows
end Go.Proofs.YtocllhghbmbjpaaDoor
