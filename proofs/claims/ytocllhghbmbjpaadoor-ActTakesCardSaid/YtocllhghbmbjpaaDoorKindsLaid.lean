/- What the row's condition on the table of kinds gives the walks. (Printed by wip/tools/gen_kindslaid.py.) -/
import Derived.Test.YtocllhghbmbjpaaDoorWActK
import Derived.Test.YtocllhghbmbjpaaDoorRows
import Derived.Test.YtocllhghbmbjpaaDoorOpenRec
import Derived.ProofKit
import Derived.LaidMore
import Derived.OpenShut
import Derived.Stop.Joined
import Derived.Lib.LaidTab
set_option linter.unusedSimpArgs false
set_option linter.unusedVariables false
set_option maxRecDepth 20000
namespace Go.Proofs.YtocllhghbmbjpaaDoor
open Go.ChangeShapes Go.WideShapes Go.ChangeAt Go.RowKit Go.Joins Go.Deep Moi
theorem gKinds : Tryd.prog.globalNamed "moiety/act.kinds" = some 0 := by kernel_rfl
theorem tKinds : (Tryd.prog.globals[0]?).map (·.type) = some 92 := by kernel_rfl
theorem cKind : Tryd.prog.cellsOf 60 = 3 := by kernel_rfl
theorem cStr : Tryd.prog.cellsOf 9 = 1 := by kernel_rfl
theorem cInt : Tryd.prog.cellsOf 3 = 1 := by kernel_rfl
theorem kinds_data (i : Nat) (hi : i < 22) : ∃ l : List (DataW Unit), (Rows.laid_moiety_act_kinds : DataW Unit) = .agg l ∧ l[i]? = some (.agg [.lit (.string (actWords.getD i [])), .lit (.int .i64 (actOns.getD i 0 : Nat)), .lit (.string (actFields.getD i []))]) := by
  refine ⟨_, rfl, ?_⟩
  have h : i = 0 ∨ i = 1 ∨ i = 2 ∨ i = 3 ∨ i = 4 ∨ i = 5 ∨ i = 6 ∨ i = 7 ∨ i = 8 ∨ i = 9 ∨ i = 10 ∨ i = 11 ∨ i = 12 ∨ i = 13 ∨ i = 14 ∨ i = 15 ∨ i = 16 ∨ i = 17 ∨ i = 18 ∨ i = 19 ∨ i = 20 ∨ i = 21 := by omega
  rcases h with rfl | rfl | rfl | rfl | rfl | rfl | rfl | rfl | rfl | rfl | rfl | rfl | rfl | rfl | rfl | rfl | rfl | rfl | rfl | rfl | rfl | rfl <;> rfl
theorem cell_of_take {l : List Value} {v : Value} {a j : Nat} (hj : j < 3) (h : (((l.drop a).take 3).drop j).take 1 = [v]) : l[a + j]? = some v := by
  have := congrArg (fun l : List Value => l[0]?) h
  simp only [List.getElem?_take, List.getElem?_drop] at this
  simpa [hj] using this
theorem kinds_of_laid {W : World} (h : laidMetH Tryd.prog [("moiety/act.kinds", Rows.laid_moiety_act_kinds)] W) : KindsAt W := by
  rw [MakeChecks.laidMetH_plain _ _ _ (by kernel_rfl)] at h
  obtain ⟨ps, ⟨g0, t0, cs0, f0, p0, q0, hg0, ht0, hv0, hd0, _, _⟩, _, _⟩ := h
  obtain rfl := Option.some.inj (gKinds.symm.trans hg0)
  obtain rfl := Option.some.inj (tKinds.symm.trans ht0)
  obtain ⟨xs, m, rfl, hx, hlen, hn, hel⟩ := DataW.trod_array Tryd.underlying92 hd0
  intro i hi
  obtain ⟨l, hl, hli⟩ := kinds_data i hi
  have hx1 := congrArg Prod.fst hx
  rw [show (Rows.laid_moiety_act_kinds, p0).1 = (Rows.laid_moiety_act_kinds : DataW Unit) from rfl, hl] at hx1
  have hxl : l = xs.map (·.1) := by injection hx1
  have hxi : i < xs.length := by omega
  have e1 : (xs.map (·.1))[i]? = some (xs[i].1) := by rw [List.getElem?_map, List.getElem?_eq_getElem hxi]; rfl
  rw [hxl, e1] at hli
  have hli := Option.some.inj hli
  have hi' := hel i hi
  rw [List.getElem?_eq_getElem hxi, cKind] at hi'
  generalize xs[i] = x at hi' hli
  obtain ⟨ys, k, _, hy, hl3, hyl, hf⟩ := DataW.trod_struct Tryd.underlying60 hi'
  have h0 := hf 0 _ rfl; have h1 := hf 1 _ rfl; have h2 := hf 2 _ rfl
  match ys, hyl with
  | [y0, y1, y2], _ =>
    subst hy
    simp only [List.map_cons, List.map_nil, DataW.agg.injEq, List.cons.injEq, and_true] at hli
    obtain ⟨d0, d1, d2⟩ := hli
    simp only [List.getElem?_cons_zero, List.getElem?_cons_succ] at h0 h1 h2
    obtain ⟨s0, a0, b0, _⟩ := DataW.trod_string Tryd.underlying9 h0
    obtain ⟨s1, a1, b1, _⟩ := DataW.trod_int Tryd.underlying3 h1
    obtain ⟨s2, a2, b2, _⟩ := DataW.trod_string Tryd.underlying9 h2
    rw [b0] at d0; rw [b1] at d1; rw [b2] at d2
    have e0 : s0 = str (actWords.getD i []) := by
      injection d0 with d0; injection d0 with d0; rw [← d0]; rfl
    have e1 : s1 = (actOns.getD i 0 : Nat) := by
      injection d1 with d1; injection d1
    have e2 : s2 = str (actFields.getD i []) := by
      injection d2 with d2; injection d2 with d2; rw [← d2]; rfl
    subst e0; subst e1; subst e2
    refine ⟨?_, ?_, ?_⟩
    · rw [show (i * 3 : Nat) = i * 3 + 0 from rfl]
      exact (World.var?_cell hg0 hv0 (i * 3 + 0)).trans (by rw [← Array.getElem?_toList]; exact cell_of_take (by decide) a0)
    · exact (World.var?_cell hg0 hv0 (i * 3 + 1)).trans (by rw [← Array.getElem?_toList]; exact cell_of_take (by decide) a1)
    · exact (World.var?_cell hg0 hv0 (i * 3 + 2)).trans (by rw [← Array.getElem?_toList]; exact cell_of_take (by decide) a2)
/-- The door's own heap meets the condition. -/
theorem door_met (os : Os) (args : Array Value) : laidMetH Tryd.prog [("moiety/act.kinds", Rows.laid_moiety_act_kinds)] ((World.doorLaid Tryd.prog 400 os).forCall (fun _ _ => 0) ⟨#[], args, []⟩).memory :=
  laidMetH_of_parts3 (fuel := 8) (laidMet_of_run' 8 (by kernel_rfl) (by kernel_rfl)) (by kernel_rfl) (by kernel_rfl)
end Go.Proofs.YtocllhghbmbjpaaDoor
