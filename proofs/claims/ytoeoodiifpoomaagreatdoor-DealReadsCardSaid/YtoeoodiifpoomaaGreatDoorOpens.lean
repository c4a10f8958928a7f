import Derived.Test.YtoeoodiifpoomaaGreatDoorTakes
import Derived.WalkKit
import Derived.ProofKit
import Derived.OpenShut
import Derived.Lib.SmallJoins
import Derived.Below
import Derived.ChangeSame
import Derived.Deep.Slices
import Derived.Deep.Fields
import Derived.Test.YtoeoodiifpoomaaGreatDoorWActK
import Derived.Test.YtoeoodiifpoomaaGreatDoorRows
import Derived.LaidMore
import Derived.Stop.Joined
import Derived.Lib.LaidTab
/- An argument of type Record, opened. (Printed by wip/tools/gen_open.py.) -/
set_option linter.unusedSimpArgs false
set_option linter.unusedVariables false
set_option maxRecDepth 20000
namespace Go.Proofs.YtoeoodiifpoomaaGreatDoor
open Go.ChangeShapes Go.WideShapes Go.ChangeAt Go.RowKit Go.Joins Go.Deep Moi
section
variable {H : Type} {enc : TypeId × Value → H} {P : Program} {w : World} {base : Nat} {spare : Nat → Bool} {held : Bool}
end
section
variable {H : Type} {enc : TypeId × Value → H} {P : Program}
theorem post_of_below {f : Func} {s : ChangeSpec} {apart fresh handsOn again : Bool} {W W' : World} {args : Array Value} {v : Value} {ds gs : List (DataW H)} {before pa pv : List MemPlace}
  (hW : DataW.Whole enc P f.params.toList s.vars apart W args.toList ds gs before)
  (hres : ∀ (b : Nat) (sp : Nat → Bool) (hd : Bool), DataW.TrodAll enc P W' b sp hd f.resultTypes.toList (v.resultList f.resultTypes.size) (s.fn H (ds ++ gs)).results [])
  (hargs : ∀ sp : Nat → Bool, (∀ p ∈ before, sp p.block = true) → DataW.TrodAll enc P W' 0 sp true f.params.toList args.toList (s.fn H (ds ++ gs)).args pa)
  (hvars : ∀ sp : Nat → Bool, (∀ p ∈ before, sp p.block = true) → DataW.TrodVars enc P W' sp s.vars (s.fn H (ds ++ gs)).vars pv)
  (hps : before = pa ++ pv) (hb : Below W.heap.size W W')
  (hok : ∀ (j : Nat) (t : TypeId) (r : Value), f.resultTypes[j]? = some t → (v.resultList f.resultTypes.size)[j]? = some r → Value.okWide P W' .any 0 t r) :
  s.post enc P f apart fresh handsOn again W args v W' := by
 have hlt : ∀ p ∈ before, p.block < W.heap.size := fun p hp => hW.lt p hp
 have hold : ∀ p ∈ before, (fun b => decide (b < W.heap.size)) p.block = true := fun p hp => by simpa using hlt p hp
 refine ⟨ds, gs, before, [], pa, pv, hW, hres _ _ _, hargs _ hold, hvars _ hold, World.keptBut_mono (fun p hp => ⟨hp, ?_⟩) (hb.frame (· ∈ before)), fun _ => ?_⟩
 ·rw [hps, List.mem_append] at hp
  exact Or.inr hp
 ·obtain ⟨_, _, _, _, _, hz, hn⟩ := hW
  refine ⟨hok, _, _, ([] ++ pa) ++ pv, ⟨[] ++ pa, pv, trodAll_append (hargs _ (fun _ _ => rfl)) (hres _ _ _), hvars _ (fun _ _ => rfl), rfl, ?_, ?_⟩, ?_⟩
  ·intro b off hp
   have hin : MemPlace.cell b off ∈ before := by rw [hps]; simpa using hp
   rw [hb.frozen (hlt _ hin)]
   exact hz b off hin
  ·intro ha
   have := hn ha
   rw [hps] at this
   simpa using this
  ·intro p hp _
   rw [hps]
   simpa using hp
end
section
variable {H : Type} {enc : TypeId × Value → H} {P : Program} {w : World} {base : Nat} {spare : Nat → Bool} {held : Bool}
end
theorem own : ownKnob Tryz.prog.godebug = none := by kernel_rfl
theorem laidOut : laidOutB Tryz.prog = true := by kernel_rfl
theorem bytes_open {H : Type} {enc : TypeId × Value → H} {W : World} {r : Reach} {b0 : Nat} {v : Value} {d : DataW H} {p : List MemPlace}
  (hv : Value.okWide Tryz.prog W r b0 33 v) (h : DataW.Trod enc Tryz.prog W 0 (fun _ => true) true 33 v d p) :
  ∃ (A : Option Addr) (n c : Nat) (bs : List UInt8), v = .slice A n c ∧ RdBytes W A n bs ∧ n ≤ c ∧ ∀ ad, A = some ad → ad.block < W.heap.size := by
 obtain ⟨A, n, c, rfl⟩ := okWide_slice Tryz.underlying33 hv
 obtain ⟨fuel, hf⟩ := h
 rcases open_ints Tryz.underlying33 Tryz.underlying5 (by kernel_rfl) hf with ⟨hcs, _⟩ | ⟨a, len, cap, zs, hcs, _, hl, hm, hz, _, hcell, hwz⟩
 ·simp [Value.cells] at hcs
  obtain ⟨rfl, rfl, rfl⟩ := hcs
  exact ⟨none, 0, 0, [], rfl, ⟨rfl, (fun _ e => by cases e), (fun h0 => absurd h0 (by omega))⟩, Nat.le_refl _, (fun _ e => by cases e)⟩
 ·simp [Value.cells] at hcs
  obtain ⟨rfl, rfl, rfl⟩ := hcs
  simp only [if_true] at hz
  have hhas : a.spot = none ∧ a.block < W.heap.size := by
   simp only [Value.okWide, Tryz.underlying33, Cell.okWide, Cell.ok] at hv
   obtain ⟨_, _, _, hs, row, cells, hsh, _⟩ := hv
   refine ⟨hs, ?_⟩
   unfold World.shape? at hsh
   split at hsh
   ·rename_i c' el fr hb'
    exact lt_of_block hb'
   ·cases hsh
  obtain ⟨hspot, hlt⟩ := hhas
  obtain ⟨b, o, sp⟩ := a
  obtain rfl : sp = none := hspot
  have hlen : ((zs.take n).map fun z => UInt8.ofNat z.toNat).length = n := by simp; omega
  refine ⟨_, n, c, (zs.take n).map fun z => UInt8.ofNat z.toNat, rfl, ⟨hlen, (fun ad e => by injection e with e; subst e; rfl), fun h0 => ⟨b, o, rfl, hlt, fun i hi => ?_⟩⟩, hl, fun ad e => by injection e with e; subst e; exact hlt⟩
  have hc := hcell i (by omega)
  have hb := range_u8 hwz i
  have hiz : i < zs.length := by omega
  have hin : i < ((zs.take n).map fun z => UInt8.ofNat z.toNat).length := by omega
  rw [Addr.add_lit] at hc
  rw [hc]
  simp only [byteAt, List.getD_eq_getElem?_getD, List.getElem?_eq_getElem hiz, List.getElem?_eq_getElem hin, Option.getD_some, List.getElem_map, List.getElem_take, UInt8.toNat_ofNat'] at hb ⊢
  congr 2
  omega
theorem gKinds : Tryz.prog.globalNamed "moiety/act.kinds" = some 0 := by kernel_rfl
theorem tKinds : (Tryz.prog.globals[0]?).map (·.type) = some 170 := by kernel_rfl
theorem cKind : Tryz.prog.cellsOf 139 = 3 := by kernel_rfl
theorem kinds_data (i : Nat) (hi : i < 22) : ∃ l : List (DataW Unit), (Rows.laid_moiety_act_kinds : DataW Unit) = .agg l ∧ l[i]? = some (.agg [.lit (.string (actWords.getD i [])), .lit (.int .i64 (actOns.getD i 0 : Nat)), .lit (.string (actFields.getD i []))]) := by
 refine ⟨_, rfl, ?_⟩
 have h : i = 0 ∨ i = 1 ∨ i = 2 ∨ i = 3 ∨ i = 4 ∨ i = 5 ∨ i = 6 ∨ i = 7 ∨ i = 8 ∨ i = 9 ∨ i = 10 ∨ i = 11 ∨ i = 12 ∨ i = 13 ∨ i = 14 ∨ i = 15 ∨ i = 16 ∨ i = 17 ∨ i = 18 ∨ i = 19 ∨ i = 20 ∨ i = 21 := by omega
 rcases h with rfl | rfl | rfl | rfl | rfl | rfl | rfl | rfl | rfl | rfl | rfl | rfl | rfl | rfl | rfl | rfl | rfl | rfl | rfl | rfl | rfl | rfl <;> rfl
theorem cell_of_take {l : List Value} {v : Value} {a j : Nat} (hj : j < 3) (h : (((l.drop a).take 3).drop j).take 1 = [v]) : l[a + j]? = some v := by
 have := congrArg (fun l : List Value => l[0]?) h
 simp only [List.getElem?_take, List.getElem?_drop] at this
 simpa [hj] using this
theorem kinds_of_laid {W : World} (h : laidMetH Tryz.prog [("moiety/act.kinds", Rows.laid_moiety_act_kinds)] W) : KindsAt W := by
 rw [MakeChecks.laidMetH_plain _ _ _ (by kernel_rfl)] at h
 obtain ⟨ps, ⟨g0, t0, cs0, f0, p0, q0, hg0, ht0, hv0, hd0, _, _⟩, _, _⟩ := h
 obtain rfl := Option.some.inj (gKinds.symm.trans hg0)
 obtain rfl := Option.some.inj (tKinds.symm.trans ht0)
 obtain ⟨xs, m, rfl, hx, hlen, hn, hel⟩ := DataW.trod_array Tryz.underlying170 hd0
 intro i hi
 obtain ⟨l, hl, hli⟩ := kinds_data i hi
 have hx1 := congrArg Prod.fst hx
 rw [show (Rows.laid_moiety_act_kinds, p0).1 = (Rows.laid_moiety_act_kinds : DataW Unit) from rfl, hl] at hx1
 have hxl : l = xs.map (·.1) := by injection hx1
 have hxi : i < xs.length := by omega
 have e1 : (xs.map (·.1))[i]? = some (xs[i].1) := by rw [List.getElem?_map, List.getElem?_eq_getElem hxi]; rfl
 rw [hxl, e1] at hli
 have hli := Option.some.inj hli
 have hi' := hel i hi
 rw [List.getElem?_eq_getElem hxi, cKind] at hi'
 generalize xs[i] = x at hi' hli
 obtain ⟨ys, k, _, hy, hl3, hyl, hf⟩ := DataW.trod_struct Tryz.underlying139 hi'
 have h0 := hf 0 _ rfl; have h1 := hf 1 _ rfl; have h2 := hf 2 _ rfl
 match ys, hyl with
 | [y0, y1, y2], _ =>
  subst hy
  simp only [List.map_cons, List.map_nil, DataW.agg.injEq, List.cons.injEq, and_true] at hli
  obtain ⟨d0, d1, d2⟩ := hli
  simp only [List.getElem?_cons_zero, List.getElem?_cons_succ] at h0 h1 h2
  obtain ⟨s0, a0, b0, _⟩ := DataW.trod_string Tryz.underlying9 h0
  obtain ⟨s1, a1, b1, _⟩ := DataW.trod_int Tryz.underlying3 h1
  obtain ⟨s2, a2, b2, _⟩ := DataW.trod_string Tryz.underlying9 h2
  rw [b0] at d0; rw [b1] at d1; rw [b2] at d2
  have e0 : s0 = str (actWords.getD i []) := by
   injection d0 with d0; injection d0 with d0; rw [← d0]; rfl
  have e1 : s1 = (actOns.getD i 0 : Nat) := by
   injection d1 with d1; injection d1
  have e2 : s2 = str (actFields.getD i []) := by
   injection d2 with d2; injection d2 with d2; rw [← d2]; rfl
  subst e0; subst e1; subst e2
  refine ⟨?_, ?_, ?_⟩
  ·rw [show (i * 3 : Nat) = i * 3 + 0 from rfl]
   exact (World.var?_cell hg0 hv0 (i * 3 + 0)).trans (by rw [← Array.getElem?_toList]; exact cell_of_take (by decide) a0)
  ·exact (World.var?_cell hg0 hv0 (i * 3 + 1)).trans (by rw [← Array.getElem?_toList]; exact cell_of_take (by decide) a1)
  ·exact (World.var?_cell hg0 hv0 (i * 3 + 2)).trans (by rw [← Array.getElem?_toList]; exact cell_of_take (by decide) a2)
theorem door_met (os : Os) (args : Array Value) : laidMetH Tryz.prog [("moiety/act.kinds", Rows.laid_moiety_act_kinds)] ((World.doorLaid Tryz.prog 400 os).forCall (fun _ _ => 0) ⟨#[], args, []⟩).memory :=
 laidMetH_of_parts3 (fuel := 8) (laidMet_of_run' 8 (by kernel_rfl) (by kernel_rfl)) (by kernel_rfl) (by kernel_rfl)
end Go.Proofs.YtoeoodiifpoomaaGreatDoor

/- Arguments behind a call. -/
namespace Go.Proofs.YtoeoodiifpoomaaGreatDoor
open Go.ChangeShapes Go.WideShapes Go.ChangeAt Go.RowKit Go.Joins Moi

theorem arg_stays {H : Type} {enc : TypeId × Value → H} {t : TypeId} (hr : Tryz.prog.readableRec t = true) (hrow : t < Tryz.prog.types.size) {W W' : World} {v : Value} {d : DataW H} {ps : List MemPlace}
  (h : DataW.Trod enc Tryz.prog W 0 (fun _ => true) true t v d ps) (hb : Below W.heap.size W W') (hlt : ∀ x ∈ ps, x.block < W.heap.size) (sp : Nat → Bool) (hsp : ∀ x ∈ ps, sp x.block = true) :
  DataW.Trod enc Tryz.prog W' 0 sp true t v d ps :=
 WideElems.Trod_stays laidOut hr hrow h (fun x hx => hb.same (hlt x hx)) hsp

end Go.Proofs.YtoeoodiifpoomaaGreatDoor
