/-
  NARROWER THAN 'FOR EVERY INPUT', by the rows' own cells (each row's printed sentence says how): LotChecks: laid · LotBytes: laid · LotReads: laid · LotCuts: laid · DealChecks: laid · DealMeets: laid · DealBytes: laid · DealReads: laid · DealTakes: laid · DealSame: laid.
  DERIVED. THE GIVEN ROWS OF THIS SEAT. 10 by the template 'for every input the law returns true; each argument reads behind the call as it read before'; 0 by the template 'total and deterministic' (their statements: YtoeoodiifpoomaaGreatDoorTotals.lean).
  GIVEN WITH THE SEED: the statements are not yours to turn. If you find one false, say at which input.
  Laid BY PROGRAM, IN A SANDBOX (cutbox-rows.mjs): the forced cells as the released guide's own fill.sh prints them over the translation 9e28b52a8211accc… (all of the seat's roots in one cut). By AI agents, Wed Nov 11 2026. No macro, syntax, notation, axiom, sorry.
-/
import Derived.Test.YtoeoodiifpoomaaGreatDoorChecked
import GoSem.Claim
import GoSem.ClaimJoined
import GoSem.ClaimMapViews
import Derived.JoinedTies
import Derived.KernelRfl
namespace Go.Proofs.YtoeoodiifpoomaaGreatDoor
/- THE CELL 'sum', in the pinned program and in every row, IS THE sha256 OF THE DUMP (.gsa) THAT YtoeoodiifpoomaaGreatDoorProg.lean LOADS. Nothing in Lean hashes anything: it is a label: what it is worth is what the hold of that sum in a sandbox is worth. -/
noncomputable def Tryz.pinned : Pinned := { name := "ytoeoodiifpoomaagreatdoor", sum := "9e28b52a8211accca6afa5e34d7b4bef5155af17a0e51cde11840f00fe46c8bf", checked := Tryz.checked }
namespace Rows
def none {H : Type} : Left H := { results := [], args := [] }

/- WHAT THE LISTED PACKAGE-LEVEL VARIABLES READ AS WHEN THE CALL BEGINS. Each datum BY PROGRAM (the guide's laid-datum.mjs) off the statement by which the dump's own 'gosem.cut.vars' lays the variable. In a bare row this is a premise. The card (YtoeoodiifpoomaaGreatDoorCards.lean) ties it to the program's text. -/
def laid_moiety_act_kinds {H : Type} : DataW H := .agg [.agg [.lit (.string []), .lit (.int .i64 0), .lit (.string [])], .agg [.lit (.string [110, 101, 119]), .lit (.int .i64 0), .lit (.string [109])], .agg [.lit (.string [100, 114, 111, 112]), .lit (.int .i64 0), .lit (.string [])], .agg [.lit (.string [105, 115]), .lit (.int .i64 0), .lit (.string [])], .agg [.lit (.string [108, 111, 111, 107]), .lit (.int .i64 0), .lit (.string [])], .agg [.lit (.string [112, 117, 116]), .lit (.int .i64 1), .lit (.string [115])], .agg [.lit (.string [115, 119, 97, 112]), .lit (.int .i64 1), .lit (.string [115])], .agg [.lit (.string [97, 100, 100]), .lit (.int .i64 2), .lit (.string [110])], .agg [.lit (.string [112, 108, 117, 115]), .lit (.int .i64 3), .lit (.string [110])], .agg [.lit (.string [114, 101, 97, 99, 104]), .lit (.int .i64 3), .lit (.string [110])], .agg [.lit (.string [105, 110]), .lit (.int .i64 4), .lit (.string [110])], .agg [.lit (.string [111, 117, 116]), .lit (.int .i64 4), .lit (.string [110])], .agg [.lit (.string [101, 110, 111, 117, 103, 104]), .lit (.int .i64 4), .lit (.string [110])], .agg [.lit (.string [114, 97, 105, 115, 101]), .lit (.int .i64 5), .lit (.string [120])], .agg [.lit (.string [108, 111, 119, 101, 114]), .lit (.int .i64 6), .lit (.string [120])], .agg [.lit (.string [115, 104, 105, 102, 116]), .lit (.int .i64 7), .lit (.string [120])], .agg [.lit (.string [115, 99, 97, 108, 101]), .lit (.int .i64 7), .lit (.string [120])], .agg [.lit (.string [102, 105, 120]), .lit (.int .i64 7), .lit (.string [120])], .agg [.lit (.string [106, 111, 105, 110]), .lit (.int .i64 8), .lit (.string [115])], .agg [.lit (.string [108, 101, 97, 118, 101]), .lit (.int .i64 8), .lit (.string [115])], .agg [.lit (.string [104, 97, 115]), .lit (.int .i64 8), .lit (.string [115])], .agg [.lit (.string [111, 102, 102, 101, 114]), .lit (.int .i64 9), .lit (.string [120, 115])]]

/-- 'moietylaw11.LotChecks': WHATEVER THE INPUT: true; the input reads as it did. -/
def lotChecksSpec : ChangeSpec := { name := "lotChecks", fn := fun _ => fun
  | [d1, d2] => { results := [.lit (.bool true)], args := [d1, d2] }
  | _ => none }
def lotChecksRow : OpenClaim := { program := "ytoeoodiifpoomaagreatdoor", sum := "9e28b52a8211accca6afa5e34d7b4bef5155af17a0e51cde11840f00fe46c8bf", func := "moiety/moietylaw11.LotChecks", spec := "lotChecks", inPlace := ["math.Float64frombits", "math.Float64bits"], unfollowed := true, recurses := true, named := ["moiety/act.kinds"], apart := false, laid := [("moiety/act.kinds", laid_moiety_act_kinds)] }
def LotChecksSaid : Prop := lotChecksRow.holds Tryz.pinned (OpenSpec.ofChange lotChecksSpec)

/-- ITS FALSE NEIGHBOUR: 'it returns false'. Refute it at one input. -/
def lotChecksWrong : ChangeSpec := { name := "lotChecks", fn := fun _ => fun
  | [d1, d2] => { results := [.lit (.bool false)], args := [d1, d2] }
  | _ => none }
def LotChecksWrongFalsely : Prop := lotChecksRow.holds Tryz.pinned (OpenSpec.ofChange lotChecksWrong)

/-- 'moietylaw11.LotBytes': WHATEVER THE INPUT: true; the input reads as it did. -/
def lotBytesSpec : ChangeSpec := { name := "lotBytes", fn := fun _ => fun
  | [d] => { results := [.lit (.bool true)], args := [d] }
  | _ => none }
def lotBytesRow : OpenClaim := { program := "ytoeoodiifpoomaagreatdoor", sum := "9e28b52a8211accca6afa5e34d7b4bef5155af17a0e51cde11840f00fe46c8bf", func := "moiety/moietylaw11.LotBytes", spec := "lotBytes", inPlace := ["math.Float64frombits", "math.Float64bits"], unfollowed := true, recurses := true, named := ["moiety/act.kinds"], apart := false, laid := [("moiety/act.kinds", laid_moiety_act_kinds)] }
def LotBytesSaid : Prop := lotBytesRow.holds Tryz.pinned (OpenSpec.ofChange lotBytesSpec)

/-- ITS FALSE NEIGHBOUR: 'it returns false'. Refute it at one input. -/
def lotBytesWrong : ChangeSpec := { name := "lotBytes", fn := fun _ => fun
  | [d] => { results := [.lit (.bool false)], args := [d] }
  | _ => none }
def LotBytesWrongFalsely : Prop := lotBytesRow.holds Tryz.pinned (OpenSpec.ofChange lotBytesWrong)

/-- 'moietylaw11.LotReads': WHATEVER THE INPUT: true; the input reads as it did. -/
def lotReadsSpec : ChangeSpec := { name := "lotReads", fn := fun _ => fun
  | [d] => { results := [.lit (.bool true)], args := [d] }
  | _ => none }
def lotReadsRow : OpenClaim := { program := "ytoeoodiifpoomaagreatdoor", sum := "9e28b52a8211accca6afa5e34d7b4bef5155af17a0e51cde11840f00fe46c8bf", func := "moiety/moietylaw11.LotReads", spec := "lotReads", inPlace := ["math.Float64frombits", "math.Float64bits"], unfollowed := true, recurses := true, named := ["moiety/act.kinds"], apart := false, laid := [("moiety/act.kinds", laid_moiety_act_kinds)] }
def LotReadsSaid : Prop := lotReadsRow.holds Tryz.pinned (OpenSpec.ofChange lotReadsSpec)

/-- ITS FALSE NEIGHBOUR: 'it returns false'. Refute it at one input. -/
def lotReadsWrong : ChangeSpec := { name := "lotReads", fn := fun _ => fun
  | [d] => { results := [.lit (.bool false)], args := [d] }
  | _ => none }
def LotReadsWrongFalsely : Prop := lotReadsRow.holds Tryz.pinned (OpenSpec.ofChange lotReadsWrong)

/-- 'moietylaw11.LotCuts': WHATEVER THE INPUT: true; the input reads as it did. -/
def lotCutsSpec : ChangeSpec := { name := "lotCuts", fn := fun _ => fun
  | [d1, d2] => { results := [.lit (.bool true)], args := [d1, d2] }
  | _ => none }
def lotCutsRow : OpenClaim := { program := "ytoeoodiifpoomaagreatdoor", sum := "9e28b52a8211accca6afa5e34d7b4bef5155af17a0e51cde11840f00fe46c8bf", func := "moiety/moietylaw11.LotCuts", spec := "lotCuts", inPlace := ["math.Float64frombits", "math.Float64bits"], unfollowed := true, recurses := true, named := ["moiety/act.kinds"], apart := false, laid := [("moiety/act.kinds", laid_moiety_act_kinds)] }
def LotCutsSaid : Prop := lotCutsRow.holds Tryz.pinned (OpenSpec.ofChange lotCutsSpec)

/-- ITS FALSE NEIGHBOUR: 'it returns false'. Refute it at one input. -/
def lotCutsWrong : ChangeSpec := { name := "lotCuts", fn := fun _ => fun
  | [d1, d2] => { results := [.lit (.bool false)], args := [d1, d2] }
  | _ => none }
def LotCutsWrongFalsely : Prop := lotCutsRow.holds Tryz.pinned (OpenSpec.ofChange lotCutsWrong)

/-- 'moietylaw08.DealChecks': WHATEVER THE INPUT: true; the input reads as it did. -/
def dealChecksSpec : ChangeSpec := { name := "dealChecks", fn := fun _ => fun
  | [d] => { results := [.lit (.bool true)], args := [d] }
  | _ => none }
def dealChecksRow : OpenClaim := { program := "ytoeoodiifpoomaagreatdoor", sum := "9e28b52a8211accca6afa5e34d7b4bef5155af17a0e51cde11840f00fe46c8bf", func := "moiety/moietylaw08.DealChecks", spec := "dealChecks", inPlace := ["math.Float64frombits", "math.Float64bits"], unfollowed := true, recurses := true, named := ["moiety/act.kinds"], apart := false, laid := [("moiety/act.kinds", laid_moiety_act_kinds)] }
def DealChecksSaid : Prop := dealChecksRow.holds Tryz.pinned (OpenSpec.ofChange dealChecksSpec)

/-- ITS FALSE NEIGHBOUR: 'it returns false'. Refute it at one input. -/
def dealChecksWrong : ChangeSpec := { name := "dealChecks", fn := fun _ => fun
  | [d] => { results := [.lit (.bool false)], args := [d] }
  | _ => none }
def DealChecksWrongFalsely : Prop := dealChecksRow.holds Tryz.pinned (OpenSpec.ofChange dealChecksWrong)

/-- 'moietylaw08.DealMeets': WHATEVER THE INPUT: true; the input reads as it did. -/
def dealMeetsSpec : ChangeSpec := { name := "dealMeets", fn := fun _ => fun
  | [d1, d2, d3] => { results := [.lit (.bool true)], args := [d1, d2, d3] }
  | _ => none }
def dealMeetsRow : OpenClaim := { program := "ytoeoodiifpoomaagreatdoor", sum := "9e28b52a8211accca6afa5e34d7b4bef5155af17a0e51cde11840f00fe46c8bf", func := "moiety/moietylaw08.DealMeets", spec := "dealMeets", inPlace := ["math.Float64frombits", "math.Float64bits"], unfollowed := true, recurses := true, named := ["moiety/act.kinds"], apart := false, laid := [("moiety/act.kinds", laid_moiety_act_kinds)] }
def DealMeetsSaid : Prop := dealMeetsRow.holds Tryz.pinned (OpenSpec.ofChange dealMeetsSpec)

/-- ITS FALSE NEIGHBOUR: 'it returns false'. Refute it at one input. -/
def dealMeetsWrong : ChangeSpec := { name := "dealMeets", fn := fun _ => fun
  | [d1, d2, d3] => { results := [.lit (.bool false)], args := [d1, d2, d3] }
  | _ => none }
def DealMeetsWrongFalsely : Prop := dealMeetsRow.holds Tryz.pinned (OpenSpec.ofChange dealMeetsWrong)

/-- 'moietylaw08.DealBytes': WHATEVER THE INPUT: true; the input reads as it did. -/
def dealBytesSpec : ChangeSpec := { name := "dealBytes", fn := fun _ => fun
  | [d] => { results := [.lit (.bool true)], args := [d] }
  | _ => none }
def dealBytesRow : OpenClaim := { program := "ytoeoodiifpoomaagreatdoor", sum := "9e28b52a8211accca6afa5e34d7b4bef5155af17a0e51cde11840f00fe46c8bf", func := "moiety/moietylaw08.DealBytes", spec := "dealBytes", inPlace := ["math.Float64frombits", "math.Float64bits"], unfollowed := true, recurses := true, named := ["moiety/act.kinds"], apart := false, laid := [("moiety/act.kinds", laid_moiety_act_kinds)] }
def DealBytesSaid : Prop := dealBytesRow.holds Tryz.pinned (OpenSpec.ofChange dealBytesSpec)

/-- ITS FALSE NEIGHBOUR: 'it returns false'. Refute it at one input. -/
def dealBytesWrong : ChangeSpec := { name := "dealBytes", fn := fun _ => fun
  | [d] => { results := [.lit (.bool false)], args := [d] }
  | _ => none }
def DealBytesWrongFalsely : Prop := dealBytesRow.holds Tryz.pinned (OpenSpec.ofChange dealBytesWrong)

/-- 'moietylaw08.DealReads': WHATEVER THE INPUT: true; the input reads as it did. -/
def dealReadsSpec : ChangeSpec := { name := "dealReads", fn := fun _ => fun
  | [d] => { results := [.lit (.bool true)], args := [d] }
  | _ => none }
def dealReadsRow : OpenClaim := { program := "ytoeoodiifpoomaagreatdoor", sum := "9e28b52a8211accca6afa5e34d7b4bef5155af17a0e51cde11840f00fe46c8bf", func := "moiety/moietylaw08.DealReads", spec := "dealReads", inPlace := ["math.Float64frombits", "math.Float64bits"], unfollowed := true, recurses := true, named := ["moiety/act.kinds"], apart := false, laid := [("moiety/act.kinds", laid_moiety_act_kinds)] }
def DealReadsSaid : Prop := dealReadsRow.holds Tryz.pinned (OpenSpec.ofChange dealReadsSpec)

/-- ITS FALSE NEIGHBOUR: 'it returns false'. Refute it at one input. -/
def dealReadsWrong : ChangeSpec := { name := "dealReads", fn := fun _ => fun
  | [d] => { results := [.lit (.bool false)], args := [d] }
  | _ => none }
def DealReadsWrongFalsely : Prop := dealReadsRow.holds Tryz.pinned (OpenSpec.ofChange dealReadsWrong)

/-- 'moietylaw08.DealTakes': WHATEVER THE INPUT: true; the input reads as it did. -/
def dealTakesSpec : ChangeSpec := { name := "dealTakes", fn := fun _ => fun
  | [d] => { results := [.lit (.bool true)], args := [d] }
  | _ => none }
def dealTakesRow : OpenClaim := { program := "ytoeoodiifpoomaagreatdoor", sum := "9e28b52a8211accca6afa5e34d7b4bef5155af17a0e51cde11840f00fe46c8bf", func := "moiety/moietylaw08.DealTakes", spec := "dealTakes", inPlace := ["math.Float64frombits", "math.Float64bits"], unfollowed := true, recurses := true, named := ["moiety/act.kinds"], apart := false, laid := [("moiety/act.kinds", laid_moiety_act_kinds)] }
def DealTakesSaid : Prop := dealTakesRow.holds Tryz.pinned (OpenSpec.ofChange dealTakesSpec)

/-- ITS FALSE NEIGHBOUR: 'it returns false'. Refute it at one input. -/
def dealTakesWrong : ChangeSpec := { name := "dealTakes", fn := fun _ => fun
  | [d] => { results := [.lit (.bool false)], args := [d] }
  | _ => none }
def DealTakesWrongFalsely : Prop := dealTakesRow.holds Tryz.pinned (OpenSpec.ofChange dealTakesWrong)

/-- 'moietylaw08.DealSame': WHATEVER THE INPUT: true; the input reads as it did. -/
def dealSameSpec : ChangeSpec := { name := "dealSame", fn := fun _ => fun
  | [d1, d2, d3] => { results := [.lit (.bool true)], args := [d1, d2, d3] }
  | _ => none }
def dealSameRow : OpenClaim := { program := "ytoeoodiifpoomaagreatdoor", sum := "9e28b52a8211accca6afa5e34d7b4bef5155af17a0e51cde11840f00fe46c8bf", func := "moiety/moietylaw08.DealSame", spec := "dealSame", inPlace := ["math.Float64frombits", "math.Float64bits"], unfollowed := true, recurses := true, named := ["moiety/act.kinds"], apart := false, laid := [("moiety/act.kinds", laid_moiety_act_kinds)] }
def DealSameSaid : Prop := dealSameRow.holds Tryz.pinned (OpenSpec.ofChange dealSameSpec)

/-- ITS FALSE NEIGHBOUR: 'it returns false'. Refute it at one input. -/
def dealSameWrong : ChangeSpec := { name := "dealSame", fn := fun _ => fun
  | [d1, d2, d3] => { results := [.lit (.bool false)], args := [d1, d2, d3] }
  | _ => none }
def DealSameWrongFalsely : Prop := dealSameRow.holds Tryz.pinned (OpenSpec.ofChange dealSameWrong)

/- THE SECOND FORM. 'bulk': how many values and letters a reading holds, each counted each time it is reached (what is shared counts as often as it is met; a slice's spare places count too). A statement '..UptoSaid' is the law's where the arguments, and the package variables that the reading takes, are together of bulk at most 1048576: NARROWER than '..Said'. Prove '..Said' where nothing that the law and all that it calls make is longer than what came in: it says more and counts as full. Else prove '..UptoSaid'. A law counts once. -/
mutual
def uptoBulk {H : Type} : DataW H → Nat
  | .lit (.string bytes) => bytes.length + 1
  | .lit _ => 1
  | .nil => 1
  | .ptr d => uptoBulk d + 1
  | .slice elems spare => uptoBulkAll elems + uptoBulkAll spare + 1
  | .agg parts => uptoBulkAll parts + 1
  | .iface _ d => uptoBulk d + 1
  | .map entries => uptoBulkEntries entries + 1
  | .held _ => 1
def uptoBulkAll {H : Type} : List (DataW H) → Nat
  | [] => 0
  | d :: r => uptoBulk d + uptoBulkAll r
def uptoBulkEntries {H : Type} : List (Lit × DataW H) → Nat
  | [] => 0
  | x :: r => uptoBulkEntry x + uptoBulkEntries r
def uptoBulkEntry {H : Type} : Lit × DataW H → Nat
  | (.string bytes, d) => bytes.length + uptoBulk d + 1
  | (_, d) => uptoBulk d + 1
 end
def uptoSmall : (H : Type) → List (DataW H) → Bool := fun _ ds => decide (uptoBulkAll ds ≤ 1048576)
def OpenSpec.upto (s : _root_.Go.ChangeSpec) : _root_.Go.OpenSpec := { _root_.Go.OpenSpec.ofChange s with cond := some uptoSmall }

/-- 'moietylaw11.LotChecks', WHERE WHAT IT READS IS OF BULK AT MOST 1048576: true; the input reads as it did. -/
def lotChecksUptoRow : OpenClaim := { program := "ytoeoodiifpoomaagreatdoor", sum := "9e28b52a8211accca6afa5e34d7b4bef5155af17a0e51cde11840f00fe46c8bf", func := "moiety/moietylaw11.LotChecks", spec := "lotChecks", inPlace := ["math.Float64frombits", "math.Float64bits"], unfollowed := true, recurses := true, named := ["moiety/act.kinds"], apart := false, laid := [("moiety/act.kinds", laid_moiety_act_kinds)], narrowed := true }
def LotChecksUptoSaid : Prop := lotChecksUptoRow.holds Tryz.pinned (OpenSpec.upto lotChecksSpec)

/-- 'moietylaw11.LotBytes', WHERE WHAT IT READS IS OF BULK AT MOST 1048576: true; the input reads as it did. -/
def lotBytesUptoRow : OpenClaim := { program := "ytoeoodiifpoomaagreatdoor", sum := "9e28b52a8211accca6afa5e34d7b4bef5155af17a0e51cde11840f00fe46c8bf", func := "moiety/moietylaw11.LotBytes", spec := "lotBytes", inPlace := ["math.Float64frombits", "math.Float64bits"], unfollowed := true, recurses := true, named := ["moiety/act.kinds"], apart := false, laid := [("moiety/act.kinds", laid_moiety_act_kinds)], narrowed := true }
def LotBytesUptoSaid : Prop := lotBytesUptoRow.holds Tryz.pinned (OpenSpec.upto lotBytesSpec)

/-- 'moietylaw11.LotReads', WHERE WHAT IT READS IS OF BULK AT MOST 1048576: true; the input reads as it did. -/
def lotReadsUptoRow : OpenClaim := { program := "ytoeoodiifpoomaagreatdoor", sum := "9e28b52a8211accca6afa5e34d7b4bef5155af17a0e51cde11840f00fe46c8bf", func := "moiety/moietylaw11.LotReads", spec := "lotReads", inPlace := ["math.Float64frombits", "math.Float64bits"], unfollowed := true, recurses := true, named := ["moiety/act.kinds"], apart := false, laid := [("moiety/act.kinds", laid_moiety_act_kinds)], narrowed := true }
def LotReadsUptoSaid : Prop := lotReadsUptoRow.holds Tryz.pinned (OpenSpec.upto lotReadsSpec)

/-- 'moietylaw11.LotCuts', WHERE WHAT IT READS IS OF BULK AT MOST 1048576: true; the input reads as it did. -/
def lotCutsUptoRow : OpenClaim := { program := "ytoeoodiifpoomaagreatdoor", sum := "9e28b52a8211accca6afa5e34d7b4bef5155af17a0e51cde11840f00fe46c8bf", func := "moiety/moietylaw11.LotCuts", spec := "lotCuts", inPlace := ["math.Float64frombits", "math.Float64bits"], unfollowed := true, recurses := true, named := ["moiety/act.kinds"], apart := false, laid := [("moiety/act.kinds", laid_moiety_act_kinds)], narrowed := true }
def LotCutsUptoSaid : Prop := lotCutsUptoRow.holds Tryz.pinned (OpenSpec.upto lotCutsSpec)

/-- 'moietylaw08.DealChecks', WHERE WHAT IT READS IS OF BULK AT MOST 1048576: true; the input reads as it did. -/
def dealChecksUptoRow : OpenClaim := { program := "ytoeoodiifpoomaagreatdoor", sum := "9e28b52a8211accca6afa5e34d7b4bef5155af17a0e51cde11840f00fe46c8bf", func := "moiety/moietylaw08.DealChecks", spec := "dealChecks", inPlace := ["math.Float64frombits", "math.Float64bits"], unfollowed := true, recurses := true, named := ["moiety/act.kinds"], apart := false, laid := [("moiety/act.kinds", laid_moiety_act_kinds)], narrowed := true }
def DealChecksUptoSaid : Prop := dealChecksUptoRow.holds Tryz.pinned (OpenSpec.upto dealChecksSpec)

/-- 'moietylaw08.DealMeets', WHERE WHAT IT READS IS OF BULK AT MOST 1048576: true; the input reads as it did. -/
def dealMeetsUptoRow : OpenClaim := { program := "ytoeoodiifpoomaagreatdoor", sum := "9e28b52a8211accca6afa5e34d7b4bef5155af17a0e51cde11840f00fe46c8bf", func := "moiety/moietylaw08.DealMeets", spec := "dealMeets", inPlace := ["math.Float64frombits", "math.Float64bits"], unfollowed := true, recurses := true, named := ["moiety/act.kinds"], apart := false, laid := [("moiety/act.kinds", laid_moiety_act_kinds)], narrowed := true }
def DealMeetsUptoSaid : Prop := dealMeetsUptoRow.holds Tryz.pinned (OpenSpec.upto dealMeetsSpec)

/-- 'moietylaw08.DealBytes', WHERE WHAT IT READS IS OF BULK AT MOST 1048576: true; the input reads as it did. -/
def dealBytesUptoRow : OpenClaim := { program := "ytoeoodiifpoomaagreatdoor", sum := "9e28b52a8211accca6afa5e34d7b4bef5155af17a0e51cde11840f00fe46c8bf", func := "moiety/moietylaw08.DealBytes", spec := "dealBytes", inPlace := ["math.Float64frombits", "math.Float64bits"], unfollowed := true, recurses := true, named := ["moiety/act.kinds"], apart := false, laid := [("moiety/act.kinds", laid_moiety_act_kinds)], narrowed := true }
def DealBytesUptoSaid : Prop := dealBytesUptoRow.holds Tryz.pinned (OpenSpec.upto dealBytesSpec)

/-- 'moietylaw08.DealReads', WHERE WHAT IT READS IS OF BULK AT MOST 1048576: true; the input reads as it did. -/
def dealReadsUptoRow : OpenClaim := { program := "ytoeoodiifpoomaagreatdoor", sum := "9e28b52a8211accca6afa5e34d7b4bef5155af17a0e51cde11840f00fe46c8bf", func := "moiety/moietylaw08.DealReads", spec := "dealReads", inPlace := ["math.Float64frombits", "math.Float64bits"], unfollowed := true, recurses := true, named := ["moiety/act.kinds"], apart := false, laid := [("moiety/act.kinds", laid_moiety_act_kinds)], narrowed := true }
def DealReadsUptoSaid : Prop := dealReadsUptoRow.holds Tryz.pinned (OpenSpec.upto dealReadsSpec)

/-- 'moietylaw08.DealTakes', WHERE WHAT IT READS IS OF BULK AT MOST 1048576: true; the input reads as it did. -/
def dealTakesUptoRow : OpenClaim := { program := "ytoeoodiifpoomaagreatdoor", sum := "9e28b52a8211accca6afa5e34d7b4bef5155af17a0e51cde11840f00fe46c8bf", func := "moiety/moietylaw08.DealTakes", spec := "dealTakes", inPlace := ["math.Float64frombits", "math.Float64bits"], unfollowed := true, recurses := true, named := ["moiety/act.kinds"], apart := false, laid := [("moiety/act.kinds", laid_moiety_act_kinds)], narrowed := true }
def DealTakesUptoSaid : Prop := dealTakesUptoRow.holds Tryz.pinned (OpenSpec.upto dealTakesSpec)

/-- 'moietylaw08.DealSame', WHERE WHAT IT READS IS OF BULK AT MOST 1048576: true; the input reads as it did. -/
def dealSameUptoRow : OpenClaim := { program := "ytoeoodiifpoomaagreatdoor", sum := "9e28b52a8211accca6afa5e34d7b4bef5155af17a0e51cde11840f00fe46c8bf", func := "moiety/moietylaw08.DealSame", spec := "dealSame", inPlace := ["math.Float64frombits", "math.Float64bits"], unfollowed := true, recurses := true, named := ["moiety/act.kinds"], apart := false, laid := [("moiety/act.kinds", laid_moiety_act_kinds)], narrowed := true }
def DealSameUptoSaid : Prop := dealSameUptoRow.holds Tryz.pinned (OpenSpec.upto dealSameSpec)

end Rows
end Go.Proofs.YtoeoodiifpoomaaGreatDoor
