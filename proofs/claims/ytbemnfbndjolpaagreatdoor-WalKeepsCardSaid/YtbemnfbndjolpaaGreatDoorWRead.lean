/- The walk of rec.Read: what panics is caught. -/
import Derived.Test.YtbemnfbndjolpaaGreatDoorTakes
import Derived.Test.YtbemnfbndjolpaaGreatDoorPlain
import Derived.Recover
import Derived.RegionTactic
import Derived.ChangeAlike
set_option linter.unusedSimpArgs false
set_option linter.unusedVariables false
set_option maxRecDepth 20000
namespace Go.Proofs.YtbemnfbndjolpaaGreatDoor
open Go.RowKit Moi
attribute [local go_sem] toList_str str_size less_ltB store_float

def faultAgg (f : RErr) : Value := .agg #[.int .i64 (f.1 : Nat), .int .i64 (f.2 : Nat)]
theorem caught_nil (w : World) : Calls Tryz.prog 54 #[.nilIface] w fun e w' => e = .returned (faultAgg (0, 0)) ∧ Cln w w' := by
 go_enter Tryz.func54, Tryz.ntmps54
 go_wp2_with fail
 have t1 : (Tryz.prog.info? 89).map (·.size) = some 2 := by kernel_rfl
 have hfin := Blk.new w 89 #[.int .i64 0, .int .i64 0]
 refine bodyPost_ret (v := .agg #[.int .i64 0, .int .i64 0]) ?_ rfl ⟨rfl, ?_⟩
 ·refine results_cell_row Tryz.results54 _ _ w.heap.size 89 #[.int .i64 0, .int .i64 0] (0, 0) _ ?_ ?_ Tryz.underlying89 ?_ ?_
  ·rfl
  ·exact hfin
  ·rfl
  ·exact t1
 ·(repeat with_reducible first | exact cR _ | assumption | refine cA ?_ _ | refine cD ?_ | refine cN ?_ _ | refine cS ?_ (by first | omega | (simp <;> omega)) _)
theorem caught_val (f : RErr) (w : World) : Calls Tryz.prog 54 #[faultVal f] w fun e w' => e = .returned (faultAgg f) ∧ Cln w w' := by
 unfold faultVal
 have hta : ∀ (xT : TypeId) (v : Value) (W : World), (Instr.typeAssert (.iface 89 v) xT 89 true).run Tryz.prog W = .ok (.tuple #[v, .bool true]) W := by
  intro xT v W
  simp [Instr.typeAssert, run_underlying Tryz.underlying89, go_sem]
 go_enter Tryz.func54, Tryz.ntmps54
 go_wp2_with (simp only [hta])
 have t1 : (Tryz.prog.info? 89).map (·.size) = some 2 := by kernel_rfl
 have hfin := (Blk.new w 89 #[.int .i64 (f.1 : Nat), .int .i64 (f.2 : Nat)]).alloc (.cells #[.int .i64 (f.1 : Nat), .int .i64 (f.2 : Nat)] 89)
 refine bodyPost_ret (v := .agg #[.int .i64 (f.1 : Nat), .int .i64 (f.2 : Nat)]) ?_ rfl ⟨rfl, ?_⟩
 ·refine results_cell_row Tryz.results54 _ _ w.heap.size 89 #[.int .i64 (f.1 : Nat), .int .i64 (f.2 : Nat)] (0, 0) _ ?_ ?_ Tryz.underlying89 ?_ ?_
  ·rfl
  ·exact hfin
  ·rfl
  ·exact t1
 ·(repeat with_reducible first | exact cR _ | assumption | refine cA ?_ _ | refine cD ?_ | refine cN ?_ _ | refine cS ?_ (by first | omega | (simp <;> omega)) _)

theorem blk_drew {w : World} {g : Nat} {t : TypeId} {cs : Array Value} (h : Blk w g t cs) : Blk w.drew g t cs := h
theorem results_cc2 {P : Program} {fn : Func} {p p' : Tmp} {ty ty' : TypeId} (h : fn.results = #[.cell p ty, .cell p' ty']) (tmps : Array Value) (w : World) (g g' : Nat) (t t' : TypeId) (cs cs' : Array Value) (fr fr' : Nat × Nat) (d d' : TypeDesc)
  (hp : tmps.getD p undef = .pointer (some ⟨g, 0, none⟩)) (hg : w.heap[g]? = some (.cells cs t fr))
  (hu : P.underlying ty = some d) (hd : (match d with | .struct _ | .array _ _ => true | _ => false) = true) (hi : (P.info? ty).map (·.size) = some cs.size)
  (hp' : tmps.getD p' undef = .pointer (some ⟨g', 0, none⟩)) (hg' : w.heap[g']? = some (.cells cs' t' fr'))
  (hu' : P.underlying ty' = some d') (hd' : (match d' with | .struct _ | .array _ _ => true | _ => false) = true) (hi' : (P.info? ty').map (·.size) = some cs'.size) :
  (results fn tmps).run P w = .ok (.tuple #[.agg cs, .agg cs']) w := by
 have h1 : tmps[p]?.getD undef = .pointer (some ⟨g, 0, none⟩) := by simpa using hp
 have h2 : tmps[p']?.getD undef = .pointer (some ⟨g', 0, none⟩) := by simpa using hp'
 simp [results, h, h1, h2, asAddr, run_loadVar_row w g t ty cs fr d hg hu hd hi, run_loadVar_row w g' t' ty' cs' fr' d' hg' hu' hd' hi']
end Go.Proofs.YtbemnfbndjolpaaGreatDoor
