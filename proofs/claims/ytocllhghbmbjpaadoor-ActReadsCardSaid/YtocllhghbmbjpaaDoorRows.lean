/-
  NARROWER THAN 'FOR EVERY INPUT', by the rows' own cells (each row's printed sentence says how): ActKinds: laid · ActChecks: laid · ActBytes: laid · ActReads: laid · ActSame: laid · ActTakes: laid.
  DERIVED. THE GIVEN ROWS OF THIS SEAT. 6 by the template 'for every input the law returns true; each argument reads behind the call as it read before'; 0 by the template 'total and deterministic' (their statements: YtocllhghbmbjpaaDoorTotals.lean).
  GIVEN WITH THE SEED: the statements are not yours to turn. If you find one false, say at which input.
  Laid BY PROGRAM, IN A SANDBOX (cutbox-rows.mjs): the forced cells as the released guide's own fill.sh prints them over the translation 74f32921e829f01a… (all of the seat's roots in one cut). By AI agents, Wed Nov 11 2026. No macro, syntax, notation, axiom, sorry.
-/
import Derived.Test.YtocllhghbmbjpaaDoorChecked
import GoSem.Claim
import GoSem.ClaimJoined
import GoSem.ClaimMapViews
import Derived.JoinedTies
import Derived.KernelRfl
namespace Go.Proofs.YtocllhghbmbjpaaDoor
/- THE CELL 'sum', in the pinned program and in every row, IS THE sha256 OF THE DUMP (.gsa) THAT YtocllhghbmbjpaaDoorProg.lean LOADS. Nothing in Lean hashes anything: it is a label: what it is worth is what the hold of that sum in a sandbox is worth. -/
noncomputable def Tryd.pinned : Pinned := { name := "ytocllhghbmbjpaadoor", sum := "74f32921e829f01a2cc6d4be83849c3f4a91f03555760de26e79ef4e22968821", checked := Tryd.checked }
namespace Rows
def none {H : Type} : Left H := { results := [], args := [] }

/- WHAT THE LISTED PACKAGE-LEVEL VARIABLES READ AS WHEN THE CALL BEGINS. Each datum BY PROGRAM (the guide's laid-datum.mjs) off the statement by which the dump's own 'gosem.cut.vars' lays the variable. In a bare row this is a premise. The card (YtocllhghbmbjpaaDoorCards.lean) ties it to the program's text. -/
def laid_moiety_act_kinds {H : Type} : DataW H := .agg [.agg [.lit (.string []), .lit (.int .i64 0), .lit (.string [])], .agg [.lit (.string [110, 101, 119]), .lit (.int .i64 0), .lit (.string [109])], .agg [.lit (.string [100, 114, 111, 112]), .lit (.int .i64 0), .lit (.string [])], .agg [.lit (.string [105, 115]), .lit (.int .i64 0), .lit (.string [])], .agg [.lit (.string [108, 111, 111, 107]), .lit (.int .i64 0), .lit (.string [])], .agg [.lit (.string [112, 117, 116]), .lit (.int .i64 1), .lit (.string [115])], .agg [.lit (.string [115, 119, 97, 112]), .lit (.int .i64 1), .lit (.string [115])], .agg [.lit (.string [97, 100, 100]), .lit (.int .i64 2), .lit (.string [110])], .agg [.lit (.string [112, 108, 117, 115]), .lit (.int .i64 3), .lit (.string [110])], .agg [.lit (.string [114, 101, 97, 99, 104]), .lit (.int .i64 3), .lit (.string [110])], .agg [.lit (.string [105, 110]), .lit (.int .i64 4), .lit (.string [110])], .agg [.lit (.string [111, 117, 116]), .lit (.int .i64 4), .lit (.string [110])], .agg [.lit (.string [101, 110, 111, 117, 103, 104]), .lit (.int .i64 4), .lit (.string [110])], .agg [.lit (.string [114, 97, 105, 115, 101]), .lit (.int .i64 5), .lit (.string [120])], .agg [.lit (.string [108, 111, 119, 101, 114]), .lit (.int .i64 6), .lit (.string [120])], .agg [.lit (.string [115, 104, 105, 102, 116]), .lit (.int .i64 7), .lit (.string [120])], .agg [.lit (.string [115, 99, 97, 108, 101]), .lit (.int .i64 7), .lit (.string [120])], .agg [.lit (.string [102, 105, 120]), .lit (.int .i64 7), .lit (.string [120])], .agg [.lit (.string [106, 111, 105, 110]), .lit (.int .i64 8), .lit (.string [115])], .agg [.lit (.string [108, 101, 97, 118, 101]), .lit (.int .i64 8), .lit (.string [115])], .agg [.lit (.string [104, 97, 115]), .lit (.int .i64 8), .lit (.string [115])], .agg [.lit (.string [111, 102, 102, 101, 114]), .lit (.int .i64 9), .lit (.string [120, 115])]]

/-- 'moietylaw04.ActKinds': WHATEVER THE INPUT: true; the input reads as it did. -/
def actKindsSpec : ChangeSpec := { name := "actKinds", fn := fun _ => fun
  | [d1, d2] => { results := [.lit (.bool true)], args := [d1, d2] }
  | _ => none }
def actKindsRow : OpenClaim := { program := "ytocllhghbmbjpaadoor", sum := "74f32921e829f01a2cc6d4be83849c3f4a91f03555760de26e79ef4e22968821", func := "moiety/moietylaw04.ActKinds", spec := "actKinds", inPlace := ["math.Float64frombits", "math.Float64bits"], unfollowed := true, recurses := true, named := ["moiety/act.kinds"], apart := false, laid := [("moiety/act.kinds", laid_moiety_act_kinds)] }
def ActKindsSaid : Prop := actKindsRow.holds Tryd.pinned (OpenSpec.ofChange actKindsSpec)

/-- ITS FALSE NEIGHBOUR: 'it returns false'. Refute it at one input. -/
def actKindsWrong : ChangeSpec := { name := "actKinds", fn := fun _ => fun
  | [d1, d2] => { results := [.lit (.bool false)], args := [d1, d2] }
  | _ => none }
def ActKindsWrongFalsely : Prop := actKindsRow.holds Tryd.pinned (OpenSpec.ofChange actKindsWrong)

/-- 'moietylaw04.ActChecks': WHATEVER THE INPUT: true; the input reads as it did. -/
def actChecksSpec : ChangeSpec := { name := "actChecks", fn := fun _ => fun
  | [d] => { results := [.lit (.bool true)], args := [d] }
  | _ => none }
def actChecksRow : OpenClaim := { program := "ytocllhghbmbjpaadoor", sum := "74f32921e829f01a2cc6d4be83849c3f4a91f03555760de26e79ef4e22968821", func := "moiety/moietylaw04.ActChecks", spec := "actChecks", inPlace := ["math.Float64frombits", "math.Float64bits"], unfollowed := true, recurses := true, named := ["moiety/act.kinds"], apart := false, laid := [("moiety/act.kinds", laid_moiety_act_kinds)] }
def ActChecksSaid : Prop := actChecksRow.holds Tryd.pinned (OpenSpec.ofChange actChecksSpec)

/-- ITS FALSE NEIGHBOUR: 'it returns false'. Refute it at one input. -/
def actChecksWrong : ChangeSpec := { name := "actChecks", fn := fun _ => fun
  | [d] => { results := [.lit (.bool false)], args := [d] }
  | _ => none }
def ActChecksWrongFalsely : Prop := actChecksRow.holds Tryd.pinned (OpenSpec.ofChange actChecksWrong)

/-- 'moietylaw04.ActBytes': WHATEVER THE INPUT: true; the input reads as it did. -/
def actBytesSpec : ChangeSpec := { name := "actBytes", fn := fun _ => fun
  | [d] => { results := [.lit (.bool true)], args := [d] }
  | _ => none }
def actBytesRow : OpenClaim := { program := "ytocllhghbmbjpaadoor", sum := "74f32921e829f01a2cc6d4be83849c3f4a91f03555760de26e79ef4e22968821", func := "moiety/moietylaw04.ActBytes", spec := "actBytes", inPlace := ["math.Float64frombits", "math.Float64bits"], unfollowed := true, recurses := true, named := ["moiety/act.kinds"], apart := false, laid := [("moiety/act.kinds", laid_moiety_act_kinds)] }
def ActBytesSaid : Prop := actBytesRow.holds Tryd.pinned (OpenSpec.ofChange actBytesSpec)

/-- ITS FALSE NEIGHBOUR: 'it returns false'. Refute it at one input. -/
def actBytesWrong : ChangeSpec := { name := "actBytes", fn := fun _ => fun
  | [d] => { results := [.lit (.bool false)], args := [d] }
  | _ => none }
def ActBytesWrongFalsely : Prop := actBytesRow.holds Tryd.pinned (OpenSpec.ofChange actBytesWrong)

/-- 'moietylaw04.ActReads': WHATEVER THE INPUT: true; the input reads as it did. -/
def actReadsSpec : ChangeSpec := { name := "actReads", fn := fun _ => fun
  | [d] => { results := [.lit (.bool true)], args := [d] }
  | _ => none }
def actReadsRow : OpenClaim := { program := "ytocllhghbmbjpaadoor", sum := "74f32921e829f01a2cc6d4be83849c3f4a91f03555760de26e79ef4e22968821", func := "moiety/moietylaw04.ActReads", spec := "actReads", inPlace := ["math.Float64frombits", "math.Float64bits"], unfollowed := true, recurses := true, named := ["moiety/act.kinds"], apart := false, laid := [("moiety/act.kinds", laid_moiety_act_kinds)] }
def ActReadsSaid : Prop := actReadsRow.holds Tryd.pinned (OpenSpec.ofChange actReadsSpec)

/-- ITS FALSE NEIGHBOUR: 'it returns false'. Refute it at one input. -/
def actReadsWrong : ChangeSpec := { name := "actReads", fn := fun _ => fun
  | [d] => { results := [.lit (.bool false)], args := [d] }
  | _ => none }
def ActReadsWrongFalsely : Prop := actReadsRow.holds Tryd.pinned (OpenSpec.ofChange actReadsWrong)

/-- 'moietylaw04.ActSame': WHATEVER THE INPUT: true; the input reads as it did. -/
def actSameSpec : ChangeSpec := { name := "actSame", fn := fun _ => fun
  | [d1, d2] => { results := [.lit (.bool true)], args := [d1, d2] }
  | _ => none }
def actSameRow : OpenClaim := { program := "ytocllhghbmbjpaadoor", sum := "74f32921e829f01a2cc6d4be83849c3f4a91f03555760de26e79ef4e22968821", func := "moiety/moietylaw04.ActSame", spec := "actSame", inPlace := ["math.Float64frombits", "math.Float64bits"], unfollowed := true, recurses := true, named := ["moiety/act.kinds"], apart := false, laid := [("moiety/act.kinds", laid_moiety_act_kinds)] }
def ActSameSaid : Prop := actSameRow.holds Tryd.pinned (OpenSpec.ofChange actSameSpec)

/-- ITS FALSE NEIGHBOUR: 'it returns false'. Refute it at one input. -/
def actSameWrong : ChangeSpec := { name := "actSame", fn := fun _ => fun
  | [d1, d2] => { results := [.lit (.bool false)], args := [d1, d2] }
  | _ => none }
def ActSameWrongFalsely : Prop := actSameRow.holds Tryd.pinned (OpenSpec.ofChange actSameWrong)

/-- 'moietylaw04.ActTakes': WHATEVER THE INPUT: true; the input reads as it did. -/
def actTakesSpec : ChangeSpec := { name := "actTakes", fn := fun _ => fun
  | [d] => { results := [.lit (.bool true)], args := [d] }
  | _ => none }
def actTakesRow : OpenClaim := { program := "ytocllhghbmbjpaadoor", sum := "74f32921e829f01a2cc6d4be83849c3f4a91f03555760de26e79ef4e22968821", func := "moiety/moietylaw04.ActTakes", spec := "actTakes", inPlace := ["math.Float64frombits", "math.Float64bits"], unfollowed := true, recurses := true, named := ["moiety/act.kinds"], apart := false, laid := [("moiety/act.kinds", laid_moiety_act_kinds)] }
def ActTakesSaid : Prop := actTakesRow.holds Tryd.pinned (OpenSpec.ofChange actTakesSpec)

/-- ITS FALSE NEIGHBOUR: 'it returns false'. Refute it at one input. -/
def actTakesWrong : ChangeSpec := { name := "actTakes", fn := fun _ => fun
  | [d] => { results := [.lit (.bool false)], args := [d] }
  | _ => none }
def ActTakesWrongFalsely : Prop := actTakesRow.holds Tryd.pinned (OpenSpec.ofChange actTakesWrong)

/- THE SECOND FORM. 'bulk': how many values and letters a reading holds, each counted each time it is reached (what is shared counts as often as it is met; a slice's spare places count too). A statement '..UptoSaid' is the law's where the arguments, and the package variables that the reading takes, are together of bulk at most 1048576: NARROWER than '..Said'. Prove '..Said' where nothing that the law and all that it calls make is longer than what came in: it says more and counts as full. Else prove '..UptoSaid'. A law counts once. -/
mutual
def uptoBulk {H : Type} : DataW H → Nat
  | .lit (.string bytes) => bytes.length + 1
  | .lit _ => 1
  | .nil => 1
  | .ptr d => uptoBulk d + 1
  | .slice elems spare => uptoBulkAll elems + uptoBulkAll spare + 1
  | .agg parts => uptoBulkAll parts + 1
  | .iface _ d => uptoBulk d + 1
  | .map entries => uptoBulkEntries entries + 1
  | .held _ => 1
def uptoBulkAll {H : Type} : List (DataW H) → Nat
  | [] => 0
  | d :: r => uptoBulk d + uptoBulkAll r
def uptoBulkEntries {H : Type} : List (Lit × DataW H) → Nat
  | [] => 0
  | x :: r => uptoBulkEntry x + uptoBulkEntries r
def uptoBulkEntry {H : Type} : Lit × DataW H → Nat
  | (.string bytes, d) => bytes.length + uptoBulk d + 1
  | (_, d) => uptoBulk d + 1
 end
def uptoSmall : (H : Type) → List (DataW H) → Bool := fun _ ds => decide (uptoBulkAll ds ≤ 1048576)
def OpenSpec.upto (s : _root_.Go.ChangeSpec) : _root_.Go.OpenSpec := { _root_.Go.OpenSpec.ofChange s with cond := some uptoSmall }

/-- 'moietylaw04.ActKinds', WHERE WHAT IT READS IS OF BULK AT MOST 1048576: true; the input reads as it did. -/
def actKindsUptoRow : OpenClaim := { program := "ytocllhghbmbjpaadoor", sum := "74f32921e829f01a2cc6d4be83849c3f4a91f03555760de26e79ef4e22968821", func := "moiety/moietylaw04.ActKinds", spec := "actKinds", inPlace := ["math.Float64frombits", "math.Float64bits"], unfollowed := true, recurses := true, named := ["moiety/act.kinds"], apart := false, laid := [("moiety/act.kinds", laid_moiety_act_kinds)], narrowed := true }
def ActKindsUptoSaid : Prop := actKindsUptoRow.holds Tryd.pinned (OpenSpec.upto actKindsSpec)

/-- 'moietylaw04.ActChecks', WHERE WHAT IT READS IS OF BULK AT MOST 1048576: true; the input reads as it did. -/
def actChecksUptoRow : OpenClaim := { program := "ytocllhghbmbjpaadoor", sum := "74f32921e829f01a2cc6d4be83849c3f4a91f03555760de26e79ef4e22968821", func := "moiety/moietylaw04.ActChecks", spec := "actChecks", inPlace := ["math.Float64frombits", "math.Float64bits"], unfollowed := true, recurses := true, named := ["moiety/act.kinds"], apart := false, laid := [("moiety/act.kinds", laid_moiety_act_kinds)], narrowed := true }
def ActChecksUptoSaid : Prop := actChecksUptoRow.holds Tryd.pinned (OpenSpec.upto actChecksSpec)

/-- 'moietylaw04.ActBytes', WHERE WHAT IT READS IS OF BULK AT MOST 1048576: true; the input reads as it did. -/
def actBytesUptoRow : OpenClaim := { program := "ytocllhghbmbjpaadoor", sum := "74f32921e829f01a2cc6d4be83849c3f4a91f03555760de26e79ef4e22968821", func := "moiety/moietylaw04.ActBytes", spec := "actBytes", inPlace := ["math.Float64frombits", "math.Float64bits"], unfollowed := true, recurses := true, named := ["moiety/act.kinds"], apart := false, laid := [("moiety/act.kinds", laid_moiety_act_kinds)], narrowed := true }
def ActBytesUptoSaid : Prop := actBytesUptoRow.holds Tryd.pinned (OpenSpec.upto actBytesSpec)

/-- 'moietylaw04.ActReads', WHERE WHAT IT READS IS OF BULK AT MOST 1048576: true; the input reads as it did. -/
def actReadsUptoRow : OpenClaim := { program := "ytocllhghbmbjpaadoor", sum := "74f32921e829f01a2cc6d4be83849c3f4a91f03555760de26e79ef4e22968821", func := "moiety/moietylaw04.ActReads", spec := "actReads", inPlace := ["math.Float64frombits", "math.Float64bits"], unfollowed := true, recurses := true, named := ["moiety/act.kinds"], apart := false, laid := [("moiety/act.kinds", laid_moiety_act_kinds)], narrowed := true }
def ActReadsUptoSaid : Prop := actReadsUptoRow.holds Tryd.pinned (OpenSpec.upto actReadsSpec)

/-- 'moietylaw04.ActSame', WHERE WHAT IT READS IS OF BULK AT MOST 1048576: true; the input reads as it did. -/
def actSameUptoRow : OpenClaim := { program := "ytocllhghbmbjpaadoor", sum := "74f32921e829f01a2cc6d4be83849c3f4a91f03555760de26e79ef4e22968821", func := "moiety/moietylaw04.ActSame", spec := "actSame", inPlace := ["math.Float64frombits", "math.Float64bits"], unfollowed := true, recurses := true, named := ["moiety/act.kinds"], apart := false, laid := [("moiety/act.kinds", laid_moiety_act_kinds)], narrowed := true }
def ActSameUptoSaid : Prop := actSameUptoRow.holds Tryd.pinned (OpenSpec.upto actSameSpec)

/-- 'moietylaw04.ActTakes', WHERE WHAT IT READS IS OF BULK AT MOST 1048576: true; the input reads as it did. -/
def actTakesUptoRow : OpenClaim := { program := "ytocllhghbmbjpaadoor", sum := "74f32921e829f01a2cc6d4be83849c3f4a91f03555760de26e79ef4e22968821", func := "moiety/moietylaw04.ActTakes", spec := "actTakes", inPlace := ["math.Float64frombits", "math.Float64bits"], unfollowed := true, recurses := true, named := ["moiety/act.kinds"], apart := false, laid := [("moiety/act.kinds", laid_moiety_act_kinds)], narrowed := true }
def ActTakesUptoSaid : Prop := actTakesUptoRow.holds Tryd.pinned (OpenSpec.upto actTakesSpec)

end Rows
end Go.Proofs.YtocllhghbmbjpaaDoor
