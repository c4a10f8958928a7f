/-
  DERIVED. GIVEN WITH THE SEED: THE CARDS: each row of YtoeoodiifpoomaaGreatDoorRows.lean that lists a variable, with what it lists TIED to the program's text (the seventh form; the later family's looks); each row that meets fmt, with fmt's text TOLD by the authors' own Lean function (tested against real Go, not proved from fmt's source: count such statements apart). THE CARD IS WHAT COUNTS. Prove the row's statement (the work); the ties are given (YtoeoodiifpoomaaGreatDoorTie.lean); close each card by the builder's one call (the guide's Derived/Test/ToyasCard.lean, 'card_holds'). Laid BY PROGRAM, IN A SANDBOX (cutbox-door.mjs). By AI agents, Wed Nov 11 2026. No macro, syntax, notation, axiom, sorry.
-/
import Derived.Test.YtoeoodiifpoomaaGreatDoorRows
import GoSem.ClaimSeven
namespace Go.Proofs.YtoeoodiifpoomaaGreatDoor
namespace Rows

/-- THE TIED CARD OF 'moietylaw11.LotChecks'. -/
def lotChecksCard : Claim7 := { stood := { row := lotChecksRow, standIns := [], harness := (true, "f77660d119e8ee15bdcbbda10f2d19d4ee7620f914ce51fc9814e25e0b328b1d"), looks := true }, kinds := [], alts := [], laidByText := true, laidKinds := [.data], laidTests := true, laidLooks := .later }
def LotChecksCardSaid : Prop := Claim7.holds Tryz.pinned (.plain (OpenSpec.ofChange lotChecksSpec)) lotChecksCard

/-- THE TIED CARD OF 'moietylaw11.LotBytes'. -/
def lotBytesCard : Claim7 := { stood := { row := lotBytesRow, standIns := [], harness := (true, "f77660d119e8ee15bdcbbda10f2d19d4ee7620f914ce51fc9814e25e0b328b1d"), looks := true }, kinds := [], alts := [], laidByText := true, laidKinds := [.data], laidTests := true, laidLooks := .later }
def LotBytesCardSaid : Prop := Claim7.holds Tryz.pinned (.plain (OpenSpec.ofChange lotBytesSpec)) lotBytesCard

/-- THE TIED CARD OF 'moietylaw11.LotReads'. -/
def lotReadsCard : Claim7 := { stood := { row := lotReadsRow, standIns := [], harness := (true, "f77660d119e8ee15bdcbbda10f2d19d4ee7620f914ce51fc9814e25e0b328b1d"), looks := true }, kinds := [], alts := [], laidByText := true, laidKinds := [.data], laidTests := true, laidLooks := .later }
def LotReadsCardSaid : Prop := Claim7.holds Tryz.pinned (.plain (OpenSpec.ofChange lotReadsSpec)) lotReadsCard

/-- THE TIED CARD OF 'moietylaw11.LotCuts'. -/
def lotCutsCard : Claim7 := { stood := { row := lotCutsRow, standIns := [], harness := (true, "f77660d119e8ee15bdcbbda10f2d19d4ee7620f914ce51fc9814e25e0b328b1d"), looks := true }, kinds := [], alts := [], laidByText := true, laidKinds := [.data], laidTests := true, laidLooks := .later }
def LotCutsCardSaid : Prop := Claim7.holds Tryz.pinned (.plain (OpenSpec.ofChange lotCutsSpec)) lotCutsCard

/-- THE TIED CARD OF 'moietylaw08.DealChecks'. -/
def dealChecksCard : Claim7 := { stood := { row := dealChecksRow, standIns := [], harness := (true, "f77660d119e8ee15bdcbbda10f2d19d4ee7620f914ce51fc9814e25e0b328b1d"), looks := true }, kinds := [], alts := [], laidByText := true, laidKinds := [.data], laidTests := true, laidLooks := .later }
def DealChecksCardSaid : Prop := Claim7.holds Tryz.pinned (.plain (OpenSpec.ofChange dealChecksSpec)) dealChecksCard

/-- THE TIED CARD OF 'moietylaw08.DealMeets'. -/
def dealMeetsCard : Claim7 := { stood := { row := dealMeetsRow, standIns := [], harness := (true, "f77660d119e8ee15bdcbbda10f2d19d4ee7620f914ce51fc9814e25e0b328b1d"), looks := true }, kinds := [], alts := [], laidByText := true, laidKinds := [.data], laidTests := true, laidLooks := .later }
def DealMeetsCardSaid : Prop := Claim7.holds Tryz.pinned (.plain (OpenSpec.ofChange dealMeetsSpec)) dealMeetsCard

/-- THE TIED CARD OF 'moietylaw08.DealBytes'. -/
def dealBytesCard : Claim7 := { stood := { row := dealBytesRow, standIns := [], harness := (true, "f77660d119e8ee15bdcbbda10f2d19d4ee7620f914ce51fc9814e25e0b328b1d"), looks := true }, kinds := [], alts := [], laidByText := true, laidKinds := [.data], laidTests := true, laidLooks := .later }
def DealBytesCardSaid : Prop := Claim7.holds Tryz.pinned (.plain (OpenSpec.ofChange dealBytesSpec)) dealBytesCard

/-- THE TIED CARD OF 'moietylaw08.DealReads'. -/
def dealReadsCard : Claim7 := { stood := { row := dealReadsRow, standIns := [], harness := (true, "f77660d119e8ee15bdcbbda10f2d19d4ee7620f914ce51fc9814e25e0b328b1d"), looks := true }, kinds := [], alts := [], laidByText := true, laidKinds := [.data], laidTests := true, laidLooks := .later }
def DealReadsCardSaid : Prop := Claim7.holds Tryz.pinned (.plain (OpenSpec.ofChange dealReadsSpec)) dealReadsCard

/-- THE TIED CARD OF 'moietylaw08.DealTakes'. -/
def dealTakesCard : Claim7 := { stood := { row := dealTakesRow, standIns := [], harness := (true, "f77660d119e8ee15bdcbbda10f2d19d4ee7620f914ce51fc9814e25e0b328b1d"), looks := true }, kinds := [], alts := [], laidByText := true, laidKinds := [.data], laidTests := true, laidLooks := .later }
def DealTakesCardSaid : Prop := Claim7.holds Tryz.pinned (.plain (OpenSpec.ofChange dealTakesSpec)) dealTakesCard

/-- THE TIED CARD OF 'moietylaw08.DealSame'. -/
def dealSameCard : Claim7 := { stood := { row := dealSameRow, standIns := [], harness := (true, "f77660d119e8ee15bdcbbda10f2d19d4ee7620f914ce51fc9814e25e0b328b1d"), looks := true }, kinds := [], alts := [], laidByText := true, laidKinds := [.data], laidTests := true, laidLooks := .later }
def DealSameCardSaid : Prop := Claim7.holds Tryz.pinned (.plain (OpenSpec.ofChange dealSameSpec)) dealSameCard

/-- THE SECOND FORM's CARD OF 'moietylaw11.LotChecks'. -/
def lotChecksUptoCard : Claim7 := { stood := { row := lotChecksUptoRow, standIns := [], harness := (true, "f77660d119e8ee15bdcbbda10f2d19d4ee7620f914ce51fc9814e25e0b328b1d"), looks := true }, kinds := [], alts := [], laidByText := true, laidKinds := [.data], laidTests := true, laidLooks := .later }
def LotChecksUptoCardSaid : Prop := Claim7.holds Tryz.pinned (.plain (OpenSpec.upto lotChecksSpec)) lotChecksUptoCard

/-- THE SECOND FORM's CARD OF 'moietylaw11.LotBytes'. -/
def lotBytesUptoCard : Claim7 := { stood := { row := lotBytesUptoRow, standIns := [], harness := (true, "f77660d119e8ee15bdcbbda10f2d19d4ee7620f914ce51fc9814e25e0b328b1d"), looks := true }, kinds := [], alts := [], laidByText := true, laidKinds := [.data], laidTests := true, laidLooks := .later }
def LotBytesUptoCardSaid : Prop := Claim7.holds Tryz.pinned (.plain (OpenSpec.upto lotBytesSpec)) lotBytesUptoCard

/-- THE SECOND FORM's CARD OF 'moietylaw11.LotReads'. -/
def lotReadsUptoCard : Claim7 := { stood := { row := lotReadsUptoRow, standIns := [], harness := (true, "f77660d119e8ee15bdcbbda10f2d19d4ee7620f914ce51fc9814e25e0b328b1d"), looks := true }, kinds := [], alts := [], laidByText := true, laidKinds := [.data], laidTests := true, laidLooks := .later }
def LotReadsUptoCardSaid : Prop := Claim7.holds Tryz.pinned (.plain (OpenSpec.upto lotReadsSpec)) lotReadsUptoCard

/-- THE SECOND FORM's CARD OF 'moietylaw11.LotCuts'. -/
def lotCutsUptoCard : Claim7 := { stood := { row := lotCutsUptoRow, standIns := [], harness := (true, "f77660d119e8ee15bdcbbda10f2d19d4ee7620f914ce51fc9814e25e0b328b1d"), looks := true }, kinds := [], alts := [], laidByText := true, laidKinds := [.data], laidTests := true, laidLooks := .later }
def LotCutsUptoCardSaid : Prop := Claim7.holds Tryz.pinned (.plain (OpenSpec.upto lotCutsSpec)) lotCutsUptoCard

/-- THE SECOND FORM's CARD OF 'moietylaw08.DealChecks'. -/
def dealChecksUptoCard : Claim7 := { stood := { row := dealChecksUptoRow, standIns := [], harness := (true, "f77660d119e8ee15bdcbbda10f2d19d4ee7620f914ce51fc9814e25e0b328b1d"), looks := true }, kinds := [], alts := [], laidByText := true, laidKinds := [.data], laidTests := true, laidLooks := .later }
def DealChecksUptoCardSaid : Prop := Claim7.holds Tryz.pinned (.plain (OpenSpec.upto dealChecksSpec)) dealChecksUptoCard

/-- THE SECOND FORM's CARD OF 'moietylaw08.DealMeets'. -/
def dealMeetsUptoCard : Claim7 := { stood := { row := dealMeetsUptoRow, standIns := [], harness := (true, "f77660d119e8ee15bdcbbda10f2d19d4ee7620f914ce51fc9814e25e0b328b1d"), looks := true }, kinds := [], alts := [], laidByText := true, laidKinds := [.data], laidTests := true, laidLooks := .later }
def DealMeetsUptoCardSaid : Prop := Claim7.holds Tryz.pinned (.plain (OpenSpec.upto dealMeetsSpec)) dealMeetsUptoCard

/-- THE SECOND FORM's CARD OF 'moietylaw08.DealBytes'. -/
def dealBytesUptoCard : Claim7 := { stood := { row := dealBytesUptoRow, standIns := [], harness := (true, "f77660d119e8ee15bdcbbda10f2d19d4ee7620f914ce51fc9814e25e0b328b1d"), looks := true }, kinds := [], alts := [], laidByText := true, laidKinds := [.data], laidTests := true, laidLooks := .later }
def DealBytesUptoCardSaid : Prop := Claim7.holds Tryz.pinned (.plain (OpenSpec.upto dealBytesSpec)) dealBytesUptoCard

/-- THE SECOND FORM's CARD OF 'moietylaw08.DealReads'. -/
def dealReadsUptoCard : Claim7 := { stood := { row := dealReadsUptoRow, standIns := [], harness := (true, "f77660d119e8ee15bdcbbda10f2d19d4ee7620f914ce51fc9814e25e0b328b1d"), looks := true }, kinds := [], alts := [], laidByText := true, laidKinds := [.data], laidTests := true, laidLooks := .later }
def DealReadsUptoCardSaid : Prop := Claim7.holds Tryz.pinned (.plain (OpenSpec.upto dealReadsSpec)) dealReadsUptoCard

/-- THE SECOND FORM's CARD OF 'moietylaw08.DealTakes'. -/
def dealTakesUptoCard : Claim7 := { stood := { row := dealTakesUptoRow, standIns := [], harness := (true, "f77660d119e8ee15bdcbbda10f2d19d4ee7620f914ce51fc9814e25e0b328b1d"), looks := true }, kinds := [], alts := [], laidByText := true, laidKinds := [.data], laidTests := true, laidLooks := .later }
def DealTakesUptoCardSaid : Prop := Claim7.holds Tryz.pinned (.plain (OpenSpec.upto dealTakesSpec)) dealTakesUptoCard

/-- THE SECOND FORM's CARD OF 'moietylaw08.DealSame'. -/
def dealSameUptoCard : Claim7 := { stood := { row := dealSameUptoRow, standIns := [], harness := (true, "f77660d119e8ee15bdcbbda10f2d19d4ee7620f914ce51fc9814e25e0b328b1d"), looks := true }, kinds := [], alts := [], laidByText := true, laidKinds := [.data], laidTests := true, laidLooks := .later }
def DealSameUptoCardSaid : Prop := Claim7.holds Tryz.pinned (.plain (OpenSpec.upto dealSameSpec)) dealSameUptoCard
end Rows
end Go.Proofs.YtoeoodiifpoomaaGreatDoor
