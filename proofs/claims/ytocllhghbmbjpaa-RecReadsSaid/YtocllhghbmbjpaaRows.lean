/-
  No cell of these rows narrows 'for every input' (looked for: loops, veiled, ifaces, maps, wideKeys, modest, calm, conditions, laid).
  DERIVED. THE GIVEN ROWS OF THIS SEAT. 6 by the template 'for every input the law returns true; each argument reads behind the call as it read before'; 0 by the template 'total and deterministic' (their statements: YtocllhghbmbjpaaTotals.lean).
  GIVEN WITH THE SEED: the statements are not yours to turn. If you find one false, say at which input.
  Laid BY PROGRAM, IN A SANDBOX (cutbox-rows.mjs): the forced cells as the released guide's own fill.sh prints them over the translation 0660bdcbedd9f6d9… (all of the seat's roots in one cut). By AI agents, Wed Nov 11 2026. No macro, syntax, notation, axiom, sorry.
-/
import Derived.Test.YtocllhghbmbjpaaChecked
import GoSem.Claim
import GoSem.ClaimJoined
import GoSem.ClaimMapViews
import Derived.JoinedTies
import Derived.KernelRfl
namespace Go.Proofs.Ytocllhghbmbjpaa
/- THE CELL 'sum', in the pinned program and in every row, IS THE sha256 OF THE DUMP (.gsa) THAT YtocllhghbmbjpaaProg.lean LOADS. Nothing in Lean hashes anything: it is a label: what it is worth is what the hold of that sum in a sandbox is worth. -/
noncomputable def Try.pinned : Pinned := { name := "ytocllhghbmbjpaa", sum := "0660bdcbedd9f6d9018c90672694dd39d5ed3d858e1fd43390a01bbef7b0fd97", checked := Try.checked }
namespace Rows
def none {H : Type} : Left H := { results := [], args := [] }

/-- 'moietylaw03.RecChecks': WHATEVER THE INPUT: true; the input reads as it did. -/
def recChecksSpec : ChangeSpec := { name := "recChecks", fn := fun _ => fun
  | [d1, d2] => { results := [.lit (.bool true)], args := [d1, d2] }
  | _ => none }
def recChecksRow : OpenClaim := { program := "ytocllhghbmbjpaa", sum := "0660bdcbedd9f6d9018c90672694dd39d5ed3d858e1fd43390a01bbef7b0fd97", func := "moiety/moietylaw03.RecChecks", spec := "recChecks", inPlace := ["math.Float64frombits", "math.Float64bits"], unfollowed := true, recurses := true, apart := false }
def RecChecksSaid : Prop := recChecksRow.holds Try.pinned (OpenSpec.ofChange recChecksSpec)

/-- ITS FALSE NEIGHBOUR: 'it returns false'. Refute it at one input. -/
def recChecksWrong : ChangeSpec := { name := "recChecks", fn := fun _ => fun
  | [d1, d2] => { results := [.lit (.bool false)], args := [d1, d2] }
  | _ => none }
def RecChecksWrongFalsely : Prop := recChecksRow.holds Try.pinned (OpenSpec.ofChange recChecksWrong)

/-- 'moietylaw03.RecBytes': WHATEVER THE INPUT: true; the input reads as it did. -/
def recBytesSpec : ChangeSpec := { name := "recBytes", fn := fun _ => fun
  | [d] => { results := [.lit (.bool true)], args := [d] }
  | _ => none }
def recBytesRow : OpenClaim := { program := "ytocllhghbmbjpaa", sum := "0660bdcbedd9f6d9018c90672694dd39d5ed3d858e1fd43390a01bbef7b0fd97", func := "moiety/moietylaw03.RecBytes", spec := "recBytes", inPlace := ["math.Float64frombits", "math.Float64bits"], unfollowed := true, recurses := true, apart := false }
def RecBytesSaid : Prop := recBytesRow.holds Try.pinned (OpenSpec.ofChange recBytesSpec)

/-- ITS FALSE NEIGHBOUR: 'it returns false'. Refute it at one input. -/
def recBytesWrong : ChangeSpec := { name := "recBytes", fn := fun _ => fun
  | [d] => { results := [.lit (.bool false)], args := [d] }
  | _ => none }
def RecBytesWrongFalsely : Prop := recBytesRow.holds Try.pinned (OpenSpec.ofChange recBytesWrong)

/-- 'moietylaw03.RecReads': WHATEVER THE INPUT: true; the input reads as it did. -/
def recReadsSpec : ChangeSpec := { name := "recReads", fn := fun _ => fun
  | [d] => { results := [.lit (.bool true)], args := [d] }
  | _ => none }
def recReadsRow : OpenClaim := { program := "ytocllhghbmbjpaa", sum := "0660bdcbedd9f6d9018c90672694dd39d5ed3d858e1fd43390a01bbef7b0fd97", func := "moiety/moietylaw03.RecReads", spec := "recReads", inPlace := ["math.Float64frombits", "math.Float64bits"], unfollowed := true, recurses := true, apart := false }
def RecReadsSaid : Prop := recReadsRow.holds Try.pinned (OpenSpec.ofChange recReadsSpec)

/-- ITS FALSE NEIGHBOUR: 'it returns false'. Refute it at one input. -/
def recReadsWrong : ChangeSpec := { name := "recReads", fn := fun _ => fun
  | [d] => { results := [.lit (.bool false)], args := [d] }
  | _ => none }
def RecReadsWrongFalsely : Prop := recReadsRow.holds Try.pinned (OpenSpec.ofChange recReadsWrong)

/-- 'moietylaw03.RecBetter': WHATEVER THE INPUT: true; the input reads as it did. -/
def recBetterSpec : ChangeSpec := { name := "recBetter", fn := fun _ => fun
  | [d1, d2, d3] => { results := [.lit (.bool true)], args := [d1, d2, d3] }
  | _ => none }
def recBetterRow : OpenClaim := { program := "ytocllhghbmbjpaa", sum := "0660bdcbedd9f6d9018c90672694dd39d5ed3d858e1fd43390a01bbef7b0fd97", func := "moiety/moietylaw03.RecBetter", spec := "recBetter", inPlace := ["math.Float64frombits", "math.Float64bits"], unfollowed := true, recurses := true, apart := false }
def RecBetterSaid : Prop := recBetterRow.holds Try.pinned (OpenSpec.ofChange recBetterSpec)

/-- ITS FALSE NEIGHBOUR: 'it returns false'. Refute it at one input. -/
def recBetterWrong : ChangeSpec := { name := "recBetter", fn := fun _ => fun
  | [d1, d2, d3] => { results := [.lit (.bool false)], args := [d1, d2, d3] }
  | _ => none }
def RecBetterWrongFalsely : Prop := recBetterRow.holds Try.pinned (OpenSpec.ofChange recBetterWrong)

/-- 'moietylaw03.RecTakes': WHATEVER THE INPUT: true; the input reads as it did. -/
def recTakesSpec : ChangeSpec := { name := "recTakes", fn := fun _ => fun
  | [d] => { results := [.lit (.bool true)], args := [d] }
  | _ => none }
def recTakesRow : OpenClaim := { program := "ytocllhghbmbjpaa", sum := "0660bdcbedd9f6d9018c90672694dd39d5ed3d858e1fd43390a01bbef7b0fd97", func := "moiety/moietylaw03.RecTakes", spec := "recTakes", inPlace := ["math.Float64frombits", "math.Float64bits"], unfollowed := true, recurses := true, apart := false }
def RecTakesSaid : Prop := recTakesRow.holds Try.pinned (OpenSpec.ofChange recTakesSpec)

/-- ITS FALSE NEIGHBOUR: 'it returns false'. Refute it at one input. -/
def recTakesWrong : ChangeSpec := { name := "recTakes", fn := fun _ => fun
  | [d] => { results := [.lit (.bool false)], args := [d] }
  | _ => none }
def RecTakesWrongFalsely : Prop := recTakesRow.holds Try.pinned (OpenSpec.ofChange recTakesWrong)

/-- 'moietylaw03.RecSame': WHATEVER THE INPUT: true; the input reads as it did. -/
def recSameSpec : ChangeSpec := { name := "recSame", fn := fun _ => fun
  | [d1, d2] => { results := [.lit (.bool true)], args := [d1, d2] }
  | _ => none }
def recSameRow : OpenClaim := { program := "ytocllhghbmbjpaa", sum := "0660bdcbedd9f6d9018c90672694dd39d5ed3d858e1fd43390a01bbef7b0fd97", func := "moiety/moietylaw03.RecSame", spec := "recSame", inPlace := ["math.Float64frombits", "math.Float64bits"], unfollowed := true, recurses := true, apart := false }
def RecSameSaid : Prop := recSameRow.holds Try.pinned (OpenSpec.ofChange recSameSpec)

/-- ITS FALSE NEIGHBOUR: 'it returns false'. Refute it at one input. -/
def recSameWrong : ChangeSpec := { name := "recSame", fn := fun _ => fun
  | [d1, d2] => { results := [.lit (.bool false)], args := [d1, d2] }
  | _ => none }
def RecSameWrongFalsely : Prop := recSameRow.holds Try.pinned (OpenSpec.ofChange recSameWrong)

/- THE SECOND FORM. 'bulk': how many values and letters a reading holds, each counted each time it is reached (what is shared counts as often as it is met; a slice's spare places count too). A statement '..UptoSaid' is the law's where the arguments, and the package variables that the reading takes, are together of bulk at most 1048576: NARROWER than '..Said'. Prove '..Said' where nothing that the law and all that it calls make is longer than what came in: it says more and counts as full. Else prove '..UptoSaid'. A law counts once. -/
mutual
def uptoBulk {H : Type} : DataW H → Nat
  | .lit (.string bytes) => bytes.length + 1
  | .lit _ => 1
  | .nil => 1
  | .ptr d => uptoBulk d + 1
  | .slice elems spare => uptoBulkAll elems + uptoBulkAll spare + 1
  | .agg parts => uptoBulkAll parts + 1
  | .iface _ d => uptoBulk d + 1
  | .map entries => uptoBulkEntries entries + 1
  | .held _ => 1
def uptoBulkAll {H : Type} : List (DataW H) → Nat
  | [] => 0
  | d :: r => uptoBulk d + uptoBulkAll r
def uptoBulkEntries {H : Type} : List (Lit × DataW H) → Nat
  | [] => 0
  | x :: r => uptoBulkEntry x + uptoBulkEntries r
def uptoBulkEntry {H : Type} : Lit × DataW H → Nat
  | (.string bytes, d) => bytes.length + uptoBulk d + 1
  | (_, d) => uptoBulk d + 1
 end
def uptoSmall : (H : Type) → List (DataW H) → Bool := fun _ ds => decide (uptoBulkAll ds ≤ 1048576)
def OpenSpec.upto (s : _root_.Go.ChangeSpec) : _root_.Go.OpenSpec := { _root_.Go.OpenSpec.ofChange s with cond := some uptoSmall }

/-- 'moietylaw03.RecChecks', WHERE WHAT IT READS IS OF BULK AT MOST 1048576: true; the input reads as it did. -/
def recChecksUptoRow : OpenClaim := { program := "ytocllhghbmbjpaa", sum := "0660bdcbedd9f6d9018c90672694dd39d5ed3d858e1fd43390a01bbef7b0fd97", func := "moiety/moietylaw03.RecChecks", spec := "recChecks", inPlace := ["math.Float64frombits", "math.Float64bits"], unfollowed := true, recurses := true, apart := false, narrowed := true }
def RecChecksUptoSaid : Prop := recChecksUptoRow.holds Try.pinned (OpenSpec.upto recChecksSpec)

/-- 'moietylaw03.RecBytes', WHERE WHAT IT READS IS OF BULK AT MOST 1048576: true; the input reads as it did. -/
def recBytesUptoRow : OpenClaim := { program := "ytocllhghbmbjpaa", sum := "0660bdcbedd9f6d9018c90672694dd39d5ed3d858e1fd43390a01bbef7b0fd97", func := "moiety/moietylaw03.RecBytes", spec := "recBytes", inPlace := ["math.Float64frombits", "math.Float64bits"], unfollowed := true, recurses := true, apart := false, narrowed := true }
def RecBytesUptoSaid : Prop := recBytesUptoRow.holds Try.pinned (OpenSpec.upto recBytesSpec)

/-- 'moietylaw03.RecReads', WHERE WHAT IT READS IS OF BULK AT MOST 1048576: true; the input reads as it did. -/
def recReadsUptoRow : OpenClaim := { program := "ytocllhghbmbjpaa", sum := "0660bdcbedd9f6d9018c90672694dd39d5ed3d858e1fd43390a01bbef7b0fd97", func := "moiety/moietylaw03.RecReads", spec := "recReads", inPlace := ["math.Float64frombits", "math.Float64bits"], unfollowed := true, recurses := true, apart := false, narrowed := true }
def RecReadsUptoSaid : Prop := recReadsUptoRow.holds Try.pinned (OpenSpec.upto recReadsSpec)

/-- 'moietylaw03.RecBetter', WHERE WHAT IT READS IS OF BULK AT MOST 1048576: true; the input reads as it did. -/
def recBetterUptoRow : OpenClaim := { program := "ytocllhghbmbjpaa", sum := "0660bdcbedd9f6d9018c90672694dd39d5ed3d858e1fd43390a01bbef7b0fd97", func := "moiety/moietylaw03.RecBetter", spec := "recBetter", inPlace := ["math.Float64frombits", "math.Float64bits"], unfollowed := true, recurses := true, apart := false, narrowed := true }
def RecBetterUptoSaid : Prop := recBetterUptoRow.holds Try.pinned (OpenSpec.upto recBetterSpec)

/-- 'moietylaw03.RecTakes', WHERE WHAT IT READS IS OF BULK AT MOST 1048576: true; the input reads as it did. -/
def recTakesUptoRow : OpenClaim := { program := "ytocllhghbmbjpaa", sum := "0660bdcbedd9f6d9018c90672694dd39d5ed3d858e1fd43390a01bbef7b0fd97", func := "moiety/moietylaw03.RecTakes", spec := "recTakes", inPlace := ["math.Float64frombits", "math.Float64bits"], unfollowed := true, recurses := true, apart := false, narrowed := true }
def RecTakesUptoSaid : Prop := recTakesUptoRow.holds Try.pinned (OpenSpec.upto recTakesSpec)

/-- 'moietylaw03.RecSame', WHERE WHAT IT READS IS OF BULK AT MOST 1048576: true; the input reads as it did. -/
def recSameUptoRow : OpenClaim := { program := "ytocllhghbmbjpaa", sum := "0660bdcbedd9f6d9018c90672694dd39d5ed3d858e1fd43390a01bbef7b0fd97", func := "moiety/moietylaw03.RecSame", spec := "recSame", inPlace := ["math.Float64frombits", "math.Float64bits"], unfollowed := true, recurses := true, apart := false, narrowed := true }
def RecSameUptoSaid : Prop := recSameUptoRow.holds Try.pinned (OpenSpec.upto recSameSpec)

end Rows
end Go.Proofs.Ytocllhghbmbjpaa
