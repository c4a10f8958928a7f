import Derived.Test.YtbemnfbndjolpaaGreatDoorTakes
import Derived.WalkKit
import Derived.ProofKit
import Derived.OpenShut
import Derived.Lib.SmallJoins
import Derived.Below
import Derived.ChangeSame
import Derived.Deep.Slices
import Derived.Deep.Fields
import Derived.Test.YtbemnfbndjolpaaGreatDoorActA
import Derived.Test.YtbemnfbndjolpaaGreatDoorRows2
import Derived.Test.YtbemnfbndjolpaaGreatDoorWActK
import Derived.Test.YtbemnfbndjolpaaGreatDoorRows
import Derived.LaidMore
import Derived.Stop.Joined
import Derived.Lib.LaidTab
/- An argument of type Record, opened. (Printed by wip/tools/gen_open.py.) -/
set_option linter.unusedSimpArgs false
set_option linter.unusedVariables false
set_option maxRecDepth 20000
namespace Go.Proofs.YtbemnfbndjolpaaGreatDoor
open Go.ChangeShapes Go.WideShapes Go.ChangeAt Go.RowKit Go.Joins Go.Deep Moi
section
variable {H : Type} {enc : TypeId × Value → H} {P : Program} {w : World} {base : Nat} {spare : Nat → Bool} {held : Bool}
theorem open_agg8 {r : Reach} {b0 : Nat} {t : TypeId} {f0 f1 f2 f3 f4 f5 f6 f7 : Field} {v : Value} {d : DataW H} {p : List MemPlace} (hs : P.underlying t = some (.struct #[f0, f1, f2, f3, f4, f5, f6, f7])) (hone : oneCellFields P #[f0, f1, f2, f3, f4, f5, f6, f7] = true) (hC : P.cellsOf t = 8)
  (hv : Value.okWide P w r b0 t v) (h : DataW.Trod enc P w base spare held t v d p) :
  ∃ (v0 v1 v2 v3 v4 v5 v6 v7 : Value) (y0 y1 y2 y3 y4 y5 y6 y7 : DataW H × List MemPlace) (n : Nat), v = .agg #[v0, v1, v2, v3, v4, v5, v6, v7] ∧ d = .agg [y0.1, y1.1, y2.1, y3.1, y4.1, y5.1, y6.1, y7.1] ∧ p = y0.2 ++ (y1.2 ++ (y2.2 ++ (y3.2 ++ (y4.2 ++ (y5.2 ++ (y6.2 ++ y7.2)))))) ∧
   DataW.trod enc P w base spare held n f0.type [v0] = some y0 ∧ DataW.trod enc P w base spare held n f1.type [v1] = some y1 ∧ DataW.trod enc P w base spare held n f2.type [v2] = some y2 ∧ DataW.trod enc P w base spare held n f3.type [v3] = some y3 ∧ DataW.trod enc P w base spare held n f4.type [v4] = some y4 ∧ DataW.trod enc P w base spare held n f5.type [v5] = some y5 ∧ DataW.trod enc P w base spare held n f6.type [v6] = some y6 ∧ DataW.trod enc P w base spare held n f7.type [v7] = some y7 := by
 obtain ⟨cs, rfl, hsz⟩ := okWide_struct hs hv
 obtain ⟨l⟩ := cs
 match l, hsz.trans hC with
 | [c0, c1, c2, c3, c4, c5, c6, c7], _ =>
  obtain ⟨fuel, hf⟩ := h
  obtain ⟨xs, n, _, hx, _, hlen, hg⟩ := DataW.trod_struct hs hf
  obtain ⟨o0, k0⟩ := hone_of hone 0 f0 rfl
  obtain ⟨o1, k1⟩ := hone_of hone 1 f1 rfl
  obtain ⟨o2, k2⟩ := hone_of hone 2 f2 rfl
  obtain ⟨o3, k3⟩ := hone_of hone 3 f3 rfl
  obtain ⟨o4, k4⟩ := hone_of hone 4 f4 rfl
  obtain ⟨o5, k5⟩ := hone_of hone 5 f5 rfl
  obtain ⟨o6, k6⟩ := hone_of hone 6 f6 rfl
  obtain ⟨o7, k7⟩ := hone_of hone 7 f7 rfl
  match xs, hlen with
  | [y0, y1, y2, y3, y4, y5, y6, y7], _ =>
   simp only [Prod.mk.injEq] at hx
   exact ⟨c0, c1, c2, c3, c4, c5, c6, c7, y0, y1, y2, y3, y4, y5, y6, y7, n, rfl, by simpa using hx.1, by simpa using hx.2, by simpa [Value.cells, o0, k0] using hg 0 f0 rfl, by simpa [Value.cells, o1, k1] using hg 1 f1 rfl, by simpa [Value.cells, o2, k2] using hg 2 f2 rfl, by simpa [Value.cells, o3, k3] using hg 3 f3 rfl, by simpa [Value.cells, o4, k4] using hg 4 f4 rfl, by simpa [Value.cells, o5, k5] using hg 5 f5 rfl, by simpa [Value.cells, o6, k6] using hg 6 f6 rfl, by simpa [Value.cells, o7, k7] using hg 7 f7 rfl⟩
end
section
variable {H : Type} {enc : TypeId × Value → H} {P : Program}
theorem post_of_below {f : Func} {s : ChangeSpec} {apart fresh handsOn again : Bool} {W W' : World} {args : Array Value} {v : Value} {ds gs : List (DataW H)} {before pa pv : List MemPlace}
  (hW : DataW.Whole enc P f.params.toList s.vars apart W args.toList ds gs before)
  (hres : ∀ (b : Nat) (sp : Nat → Bool) (hd : Bool), DataW.TrodAll enc P W' b sp hd f.resultTypes.toList (v.resultList f.resultTypes.size) (s.fn H (ds ++ gs)).results [])
  (hargs : ∀ sp : Nat → Bool, (∀ p ∈ before, sp p.block = true) → DataW.TrodAll enc P W' 0 sp true f.params.toList args.toList (s.fn H (ds ++ gs)).args pa)
  (hvars : ∀ sp : Nat → Bool, (∀ p ∈ before, sp p.block = true) → DataW.TrodVars enc P W' sp s.vars (s.fn H (ds ++ gs)).vars pv)
  (hps : before = pa ++ pv) (hb : Below W.heap.size W W')
  (hok : ∀ (j : Nat) (t : TypeId) (r : Value), f.resultTypes[j]? = some t → (v.resultList f.resultTypes.size)[j]? = some r → Value.okWide P W' .any 0 t r) :
  s.post enc P f apart fresh handsOn again W args v W' := by
 have hlt : ∀ p ∈ before, p.block < W.heap.size := fun p hp => hW.lt p hp
 have hold : ∀ p ∈ before, (fun b => decide (b < W.heap.size)) p.block = true := fun p hp => by simpa using hlt p hp
 refine ⟨ds, gs, before, [], pa, pv, hW, hres _ _ _, hargs _ hold, hvars _ hold, World.keptBut_mono (fun p hp => ⟨hp, ?_⟩) (hb.frame (· ∈ before)), fun _ => ?_⟩
 ·rw [hps, List.mem_append] at hp
  exact Or.inr hp
 ·obtain ⟨_, _, _, _, _, hz, hn⟩ := hW
  refine ⟨hok, _, _, ([] ++ pa) ++ pv, ⟨[] ++ pa, pv, trodAll_append (hargs _ (fun _ _ => rfl)) (hres _ _ _), hvars _ (fun _ _ => rfl), rfl, ?_, ?_⟩, ?_⟩
  ·intro b off hp
   have hin : MemPlace.cell b off ∈ before := by rw [hps]; simpa using hp
   rw [hb.frozen (hlt _ hin)]
   exact hz b off hin
  ·intro ha
   have := hn ha
   rw [hps] at this
   simpa using this
  ·intro p hp _
   rw [hps]
   simpa using hp
theorem trod_float {w : World} {base : Nat} {spare : Nat → Bool} {held : Bool} {fuel : Nat} {t : TypeId} {cs : List Value} {x : DataW H × List MemPlace} {k : FloatKind} (ht : P.underlying t = some (.float k)) (h : DataW.trod enc P w base spare held fuel t cs = some x) :
  ∃ n, cs = [.float k n] ∧ x = (.lit (.float k n), []) ∧ (Lit.float k n).wf = true := by
 cases fuel with
 | zero => simp [DataW.trod] at h
 | succ n =>
  unfold DataW.trod at h
  rw [ht] at h
  split at h <;> simp_all
end
section
variable {H : Type} {enc : TypeId × Value → H} {P : Program} {w : World} {base : Nat} {spare : Nat → Bool} {held : Bool}
theorem open_slice_fields {t e : TypeId} {fs : Array Field} {fuel : Nat} {cs : List Value} {x : DataW H × List MemPlace} (ht : P.underlying t = some (.slice e)) (he : P.underlying e = some (.struct fs))
  (hone : oneCellFields P fs = true) (hC : P.cellsOf e = fs.size) (h : DataW.trod enc P w base spare held fuel t cs = some x) :
  (cs = [.slice none 0 0] ∧ x = (.nil, [])) ∨
  ∃ (a : Addr) (len cap m : Nat) (D : Nat → DataW H) (Pl : Nat → List MemPlace), cs = [.slice (some a) len cap] ∧ base ≤ a.block ∧ len ≤ cap ∧ cap ≤ maxLen ∧ m = (if spare a.block then cap else len) ∧
   x = (.slice ((List.range len).map D) ((List.range (m - len)).map fun j => D (len + j)), MemPlace.row a (m * fs.size) ++ (List.range m).flatMap Pl) ∧
   ∀ i, i < m → ∃ (ys : List (DataW H × List MemPlace)) (n : Nat), D i = .agg (ys.map (·.1)) ∧ Pl i = ys.flatMap (·.2) ∧ ys.length = fs.size ∧
    ∀ (j : Nat) (f : Field), fs[j]? = some f → ∃ (v : Value) (y : DataW H × List MemPlace), w.cell? (a.add (i * fs.size + j)) = some v ∧ ys[j]? = some y ∧ DataW.trod enc P w base spare held n f.type [v] = some y := by
 rcases open_slice ht h with h0 | ⟨a, len, cap, m, n, D, Pl, hcs, hb, hl, hm, hmm, hx, hi⟩
 ·exact .inl h0
 ·refine .inr ⟨a, len, cap, m, D, Pl, hcs, hb, hl, hm, hmm, by rw [hC] at hx; exact hx, fun i him => ?_⟩
  obtain ⟨cs', hc, ht'⟩ := hi i him
  rw [hC] at hc
  obtain ⟨ys, n', hn', hy, hlen, hyl, hf⟩ := DataW.trod_struct he ht'
  obtain ⟨_, hcl, hat⟩ := World.cells?_some hc
  simp only [Prod.mk.injEq] at hy
  refine ⟨ys, n', hy.1, hy.2, hyl, fun j f hj => ?_⟩
  obtain ⟨ho, hk⟩ := hone_of hone j f hj
  have hjl : j < fs.size := (Array.getElem?_eq_some_iff.1 hj).1
  have hcell := hat j hjl
  have hv : cs'[j]? = some (cs'[j]'(by omega)) := List.getElem?_eq_getElem (by omega)
  have h1 := hf j f hj
  rw [ho, hk] at h1
  have hone' : (cs'.drop j).take 1 = [cs'[j]'(by omega)] := by
   rw [List.drop_eq_getElem_cons (by omega)]
   rfl
  rw [hone'] at h1
  have hys : ys[j]? = some (ys[j]'(by omega)) := List.getElem?_eq_getElem (by omega)
  refine ⟨_, _, ?_, hys, h1.trans hys⟩
  rw [← Go.Deep.add_add, hcell, hv]
end
theorem own : ownKnob Tryz.prog.godebug = none := by kernel_rfl
theorem laidOut : laidOutB Tryz.prog = true := by kernel_rfl
theorem cells_item : Tryz.prog.cellsOf 158 = 2 := by kernel_rfl
theorem cells_rec : Tryz.prog.cellsOf 62 = 8 := by kernel_rfl
theorem f64_lt {s : Nat} (h : (Lit.float .f64 s).wf = true) : s < 18446744073709551616 := by simpa [Lit.wf] using h
theorem i64_in_ {s : Int} (h : (Lit.int .i64 s).wf = true) : -9223372036854775808 ≤ s ∧ s < 9223372036854775808 := by
 simp [Lit.wf, IntKind.min, IntKind.max, IntKind.bits, IntKind.signed] at h
 omega
theorem items_open {H : Type} {enc : TypeId × Value → H} {W : World} {fuel : Nat} {cs : List Value} {x : DataW H × List MemPlace} (h : DataW.trod enc Tryz.prog W 0 (fun _ => true) true fuel 60 cs = some x) :
  ∃ A n c l, cs = [.slice A n c] ∧ RdItems W A n l := by
 rcases open_slice_fields Tryz.underlying60 Tryz.underlying158 (by kernel_rfl) cells_item h with ⟨rfl, rfl⟩ | ⟨a, len, cap, m, D, Pl, rfl, hb, hl, hm, hmm, rfl, hx⟩
 ·exact ⟨none, 0, 0, [], rfl, RdItems.none_ W⟩
 ·have hml : len ≤ m := by rw [hmm]; simpa using hl
  have key : ∀ i, i < len → ∃ x : MItem, x.score < 18446744073709551616 ∧ W.cell? (a.add (i * 2)) = some (.float .f64 x.score) ∧ W.cell? (a.add (i * 2 + 1)) = some (.string (str x.name)) := by
   intro i hi
   obtain ⟨ys, n, _, _, _, hf⟩ := hx i (by omega)
   obtain ⟨v0, y0, hc0, _, ht0⟩ := hf 0 _ rfl
   obtain ⟨v1, y1, hc1, _, ht1⟩ := hf 1 _ rfl
   obtain ⟨s, e0, _, hs⟩ := trod_float Tryz.underlying59 ht0
   obtain ⟨nm, e1, _, _⟩ := DataW.trod_string Tryz.underlying9 ht1
   simp at e0 e1
   subst e0 e1
   exact ⟨⟨s, nm.data.toList⟩, f64_lt hs, hc0, hc1⟩
  have hF : ∃ F : Nat → MItem, ∀ i, i < len → (F i).score < 18446744073709551616 ∧ W.cell? (a.add (i * 2)) = some (.float .f64 (F i).score) ∧ W.cell? (a.add (i * 2 + 1)) = some (.string (str (F i).name)) :=
   ⟨fun i => if h : i < len then Classical.choose (key i h) else ⟨0, []⟩, fun i h => by simp only [dif_pos h]; exact Classical.choose_spec (key i h)⟩
  obtain ⟨F, hF⟩ := hF
  have hat : ∀ i, i < len → itAt ((List.range len).map F) i = F i := by intro i hi; simp [itAt, hi]
  refine ⟨some a, len, cap, (List.range len).map F, rfl, by simp, fun i => ?_, fun h0 => ?_⟩
  ·by_cases hi : i < len
   ·rw [hat i hi]; exact (hF i hi).1
   ·unfold itAt; rw [List.getD_eq_getElem?_getD, List.getElem?_eq_none (by simp; omega)]; decide
  ·have h1 := (hF 0 h0).2.1
   have hsp := World.cell?_spot h1
   have hbl := World.block_lt_of_cell? _ _ h1
   obtain ⟨b, o, sp⟩ := a
   simp [Addr.add] at hsp hbl
   subst hsp
   refine ⟨b, o, rfl, hbl, fun i hi => ?_⟩
   rw [hat i hi]
   obtain ⟨_, h2, h3⟩ := hF i hi
   constructor
   ·rw [← h2]; unfold Addr.add; split
    ·rename_i hz; have : i = 0 := by omega
     subst this; rfl
    ·rfl
   ·rw [← h3]; unfold Addr.add; rw [if_neg (by omega)]; rfl
theorem rec_open {H : Type} {enc : TypeId × Value → H} {W : World} {r : Reach} {b0 : Nat} {v : Value} {d : DataW H} {p : List MemPlace}
  (hv : Value.okWide Tryz.prog W r b0 62 v) (h : DataW.Trod enc Tryz.prog W 0 (fun _ => true) true 62 v d p) :
  ∃ (r : MRec) (A : Option Addr) (n c : Nat), v = recVal r A n c ∧ r.WF ∧ RdItems W A n r.list := by
 obtain ⟨a0, a1, a2, a3, a4, a5, a6, a7, y0, y1, y2, y3, y4, y5, y6, y7, m, rfl, rfl, rfl, u0, u1, u2, u3, u4, u5, u6, u7⟩ := open_agg8 Tryz.underlying62 (by kernel_rfl) cells_rec hv h
 obtain ⟨s0, e0, _, w0⟩ := DataW.trod_int Tryz.underlying3 u0
 obtain ⟨s1, e1, _, w1⟩ := DataW.trod_int Tryz.underlying2 u1
 obtain ⟨s2, e2, _, w2⟩ := DataW.trod_int Tryz.underlying2 u2
 obtain ⟨s3, e3, _, w3⟩ := DataW.trod_int Tryz.underlying2 u3
 obtain ⟨s4, e4, _, w4⟩ := trod_float Tryz.underlying59 u4
 obtain ⟨s5, e5, _, w5⟩ := DataW.trod_int Tryz.underlying3 u5
 obtain ⟨s6, e6, _, w6⟩ := DataW.trod_string Tryz.underlying9 u6
 obtain ⟨A, n, c, l, e7, hl⟩ := items_open u7
 simp at e0 e1 e2 e3 e4 e5 e6 e7
 subst e0 e1 e2 e3 e4 e5 e6 e7
 exact ⟨⟨s0, s1, s2, s3, s4, s5, s6.data.toList, l⟩, A, n, c, rfl, ⟨i64_in_ w0, i64_in_ w1, i64_in_ w2, i64_in_ w3, f64_lt w4, i64_in_ w5⟩, hl⟩
theorem cells_act : Tryz.prog.cellsOf 64 = 14 := by kernel_rfl
theorem cells_int : Tryz.prog.cellsOf 3 = 1 := by kernel_rfl
theorem cells_i64 : Tryz.prog.cellsOf 2 = 1 := by kernel_rfl
theorem cells_str : Tryz.prog.cellsOf 9 = 1 := by kernel_rfl
theorem cells_flo : Tryz.prog.cellsOf 59 = 1 := by kernel_rfl
theorem cells_bool : Tryz.prog.cellsOf 4 = 1 := by kernel_rfl
section
variable {H : Type} {enc : TypeId × Value → H} {P : Program} {w : World} {base : Nat} {spare : Nat → Bool} {held : Bool}
theorem trod_bool_ {fuel : Nat} {t : TypeId} {cs : List Value} {x : DataW H × List MemPlace} (ht : P.underlying t = some .bool) (h : DataW.trod enc P w base spare held fuel t cs = some x) :
  ∃ b, cs = [.bool b] := by
 cases fuel with
 | zero => simp [DataW.trod] at h
 | succ n =>
  unfold DataW.trod at h
  rw [ht] at h
  split at h <;> simp_all
end
theorem rec_cells {H : Type} {enc : TypeId × Value → H} {W : World} {fuel : Nat} {c0 c1 c2 c3 c4 c5 c6 c7 : Value} {x : DataW H × List MemPlace} (h : DataW.trod enc Tryz.prog W 0 (fun _ => true) true fuel 62 [c0, c1, c2, c3, c4, c5, c6, c7] = some x) :
  ∃ (r : MRec) (A : Option Addr) (n c : Nat), [c0, c1, c2, c3, c4, c5, c6, c7] = [.int .i64 r.kind, .int .i64 r.num, .int .i64 r.low, .int .i64 r.high, .float .f64 r.real, .int .i64 r.cap, .string (str r.text), .slice A n c] ∧ r.WF ∧ RdItems W A n r.list := by
 obtain ⟨xs, m, _, hx, _, hlen, hg⟩ := DataW.trod_struct Tryz.underlying62 h
 match xs, hlen with
 | [y0, y1, y2, y3, y4, y5, y6, y7], _ =>
  have u0 : DataW.trod enc Tryz.prog W 0 (fun _ => true) true m 3 ((([c0, c1, c2, c3, c4, c5, c6, c7] : List Value).drop 0).take (Tryz.prog.cellsOf 3)) = some y0 := hg 0 _ rfl; have u1 : DataW.trod enc Tryz.prog W 0 (fun _ => true) true m 2 ((([c0, c1, c2, c3, c4, c5, c6, c7] : List Value).drop 1).take (Tryz.prog.cellsOf 2)) = some y1 := hg 1 _ rfl; have u2 : DataW.trod enc Tryz.prog W 0 (fun _ => true) true m 2 ((([c0, c1, c2, c3, c4, c5, c6, c7] : List Value).drop 2).take (Tryz.prog.cellsOf 2)) = some y2 := hg 2 _ rfl; have u3 : DataW.trod enc Tryz.prog W 0 (fun _ => true) true m 2 ((([c0, c1, c2, c3, c4, c5, c6, c7] : List Value).drop 3).take (Tryz.prog.cellsOf 2)) = some y3 := hg 3 _ rfl; have u4 : DataW.trod enc Tryz.prog W 0 (fun _ => true) true m 59 ((([c0, c1, c2, c3, c4, c5, c6, c7] : List Value).drop 4).take (Tryz.prog.cellsOf 59)) = some y4 := hg 4 _ rfl; have u5 : DataW.trod enc Tryz.prog W 0 (fun _ => true) true m 3 ((([c0, c1, c2, c3, c4, c5, c6, c7] : List Value).drop 5).take (Tryz.prog.cellsOf 3)) = some y5 := hg 5 _ rfl; have u6 : DataW.trod enc Tryz.prog W 0 (fun _ => true) true m 9 ((([c0, c1, c2, c3, c4, c5, c6, c7] : List Value).drop 6).take (Tryz.prog.cellsOf 9)) = some y6 := hg 6 _ rfl; have u7 : DataW.trod enc Tryz.prog W 0 (fun _ => true) true m 60 ((([c0, c1, c2, c3, c4, c5, c6, c7] : List Value).drop 7).take (Tryz.prog.cellsOf 60)) = some y7 := hg 7 _ rfl
  obtain ⟨s0, e0, _, w0⟩ := DataW.trod_int Tryz.underlying3 u0
  obtain ⟨s1, e1, _, w1⟩ := DataW.trod_int Tryz.underlying2 u1
  obtain ⟨s2, e2, _, w2⟩ := DataW.trod_int Tryz.underlying2 u2
  obtain ⟨s3, e3, _, w3⟩ := DataW.trod_int Tryz.underlying2 u3
  obtain ⟨s4, e4, _, w4⟩ := trod_float Tryz.underlying59 u4
  obtain ⟨s5, e5, _, w5⟩ := DataW.trod_int Tryz.underlying3 u5
  obtain ⟨s6, e6, _, w6⟩ := DataW.trod_string Tryz.underlying9 u6
  obtain ⟨A, n, c, l, e7, hl⟩ := items_open u7
  simp only [cells_int, cells_i64, cells_str, cells_flo, show Tryz.prog.cellsOf 60 = 1 from by kernel_rfl] at e0 e1 e2 e3 e4 e5 e6 e7
  simp at e0 e1 e2 e3 e4 e5 e6 e7
  subst e0 e1 e2 e3 e4 e5 e6 e7
  exact ⟨⟨s0, s1, s2, s3, s4, s5, s6.data.toList, l⟩, A, n, c, rfl, ⟨i64_in_ w0, i64_in_ w1, i64_in_ w2, i64_in_ w3, f64_lt w4, i64_in_ w5⟩, hl⟩
theorem act_cells {H : Type} {enc : TypeId × Value → H} {W : World} {fuel : Nat} {l : List Value} {x : DataW H × List MemPlace} (hsz : l.length = 14) (hf : DataW.trod enc Tryz.prog W 0 (fun _ => true) true fuel 64 l = some x) :
  ∃ (a : MAct) (A : Option Addr) (n c : Nat), Value.agg l.toArray = actVal a A n c ∧ a.WF ∧ RdItems W A n a.make.list := by
 match l, hsz with
 | [c0, c1, c2, c3, c4, c5, c6, c7, c8, c9, c10, c11, c12, c13], _ =>
  obtain ⟨xs, m, _, hx, _, hlen, hg⟩ := DataW.trod_struct Tryz.underlying64 hf
  match xs, hlen with
  | [y0, y1, y2, y3, y4, y5, y6], _ =>
   have u0 : DataW.trod enc Tryz.prog W 0 (fun _ => true) true m 3 ((([c0, c1, c2, c3, c4, c5, c6, c7, c8, c9, c10, c11, c12, c13] : List Value).drop 0).take (Tryz.prog.cellsOf 3)) = some y0 := hg 0 _ rfl; have u1 : DataW.trod enc Tryz.prog W 0 (fun _ => true) true m 9 ((([c0, c1, c2, c3, c4, c5, c6, c7, c8, c9, c10, c11, c12, c13] : List Value).drop 1).take (Tryz.prog.cellsOf 9)) = some y1 := hg 1 _ rfl; have u2 : DataW.trod enc Tryz.prog W 0 (fun _ => true) true m 2 ((([c0, c1, c2, c3, c4, c5, c6, c7, c8, c9, c10, c11, c12, c13] : List Value).drop 2).take (Tryz.prog.cellsOf 2)) = some y2 := hg 2 _ rfl; have u3 : DataW.trod enc Tryz.prog W 0 (fun _ => true) true m 59 ((([c0, c1, c2, c3, c4, c5, c6, c7, c8, c9, c10, c11, c12, c13] : List Value).drop 3).take (Tryz.prog.cellsOf 59)) = some y3 := hg 3 _ rfl; have u4 : DataW.trod enc Tryz.prog W 0 (fun _ => true) true m 9 ((([c0, c1, c2, c3, c4, c5, c6, c7, c8, c9, c10, c11, c12, c13] : List Value).drop 4).take (Tryz.prog.cellsOf 9)) = some y4 := hg 4 _ rfl; have u5 : DataW.trod enc Tryz.prog W 0 (fun _ => true) true m 62 ((([c0, c1, c2, c3, c4, c5, c6, c7, c8, c9, c10, c11, c12, c13] : List Value).drop 5).take (Tryz.prog.cellsOf 62)) = some y5 := hg 5 _ rfl; have u6 : DataW.trod enc Tryz.prog W 0 (fun _ => true) true m 4 ((([c0, c1, c2, c3, c4, c5, c6, c7, c8, c9, c10, c11, c12, c13] : List Value).drop 13).take (Tryz.prog.cellsOf 4)) = some y6 := hg 6 _ rfl
   obtain ⟨s0, e0, _, w0⟩ := DataW.trod_int Tryz.underlying3 u0
   obtain ⟨s1, e1, _, w1⟩ := DataW.trod_string Tryz.underlying9 u1
   obtain ⟨s2, e2, _, w2⟩ := DataW.trod_int Tryz.underlying2 u2
   obtain ⟨s3, e3, _, w3⟩ := trod_float Tryz.underlying59 u3
   obtain ⟨s4, e4, _, w4⟩ := DataW.trod_string Tryz.underlying9 u4
   obtain ⟨s6, e6⟩ := trod_bool_ Tryz.underlying4 u6
   simp only [cells_int, cells_i64, cells_str, cells_flo, cells_bool, cells_rec] at e0 e1 e2 e3 e4 e6 u5
   simp [Value.cells] at e0 e1 e2 e3 e4 e6
   have u5' : DataW.trod enc Tryz.prog W 0 (fun _ => true) true m 62 [c5, c6, c7, c8, c9, c10, c11, c12] = some y5 := u5
   obtain ⟨r, A, n, c, e5, hwf, hl⟩ := rec_cells u5'
   simp at e5
   obtain ⟨e5, e6', e7, e8, e9, e10, e11, e12⟩ := e5
   subst e0 e1 e2 e3 e4 e6 e5 e6' e7 e8 e9 e10 e11 e12
   exact ⟨⟨s0, s1.data.toList, s2, s3, s4.data.toList, r, s6⟩, A, n, c, rfl, ⟨i64_in_ w0, i64_in_ w2, f64_lt w3, hwf⟩, hl⟩
theorem act_open {H : Type} {enc : TypeId × Value → H} {W : World} {r : Reach} {b0 : Nat} {v : Value} {d : DataW H} {p : List MemPlace}
  (hv : Value.okWide Tryz.prog W r b0 64 v) (h : DataW.Trod enc Tryz.prog W 0 (fun _ => true) true 64 v d p) :
  ∃ (a : MAct) (A : Option Addr) (n c : Nat), v = actVal a A n c ∧ a.WF ∧ RdItems W A n a.make.list := by
 obtain ⟨cs, rfl, hsz⟩ := okWide_struct Tryz.underlying64 hv
 obtain ⟨l⟩ := cs
 obtain ⟨fuel, hf⟩ := h
 exact act_cells (hsz.trans cells_act) hf
theorem add_at (b o k : Nat) : (⟨b, o, none⟩ : Addr).add k = ⟨b, o + k, none⟩ := by
 unfold Addr.add
 split
 ·rename_i hz; subst hz; rfl
 ·rfl
theorem acts_trod {H : Type} {enc : TypeId × Value → H} {W : World} {fuel : Nat} {A : Option Addr} {n c : Nat} {x : DataW H × List MemPlace}
  (hf : DataW.trod enc Tryz.prog W 0 (fun _ => true) true fuel 65 [.slice A n c] = some x) : ∃ l : List MAct, RdActs W A n l := by
 rcases open_slice Tryz.underlying65 hf with ⟨hcs, _⟩ | ⟨a, len, cap, m, k, D, Pl, hcs, hb, hl, hm, hmm, _, hx⟩
 ·simp at hcs
  obtain ⟨rfl, rfl, rfl⟩ := hcs
  exact ⟨[], rfl, fun h0 => absurd h0 (by omega)⟩
 ·simp at hcs
  obtain ⟨rfl, rfl, rfl⟩ := hcs
  have hml : n ≤ m := by rw [hmm]; simpa using hl
  by_cases hn0 : n = 0
  ·subst hn0
   exact ⟨[], rfl, fun h0 => absurd h0 (by omega)⟩
  rw [cells_act] at hx
  have key0 : ∀ i, i < n → ∃ (r : MAct) (Ai : Option Addr) (ni ci : Nat) (l : List Value), Value.agg l.toArray = actVal r Ai ni ci ∧ r.WF ∧ RdItems W Ai ni r.make.list ∧ ∀ j, j < 14 → W.cell? ((a.add (i * 14)).add j) = l[j]? := by
   intro i hi
   obtain ⟨cs', hc, ht⟩ := hx i (by omega)
   obtain ⟨_, hlen, hcell⟩ := World.cells?_some hc
   obtain ⟨r, Ai, ni, ci, e, hwf, hit⟩ := act_cells hlen ht
   exact ⟨r, Ai, ni, ci, cs', e, hwf, hit, hcell⟩
  have hspot : a.spot = none := by
   obtain ⟨r, Ai, ni, ci, l, e, _, _, hcell⟩ := key0 0 (by omega)
   have h0 := hcell 0 (by omega)
   obtain rfl : l = (#[.int .i64 r.kind, .string (str r.key), .int .i64 r.n, .float .f64 r.x, .string (str r.s), .int .i64 r.make.kind, .int .i64 r.make.num, .int .i64 r.make.low, .int .i64 r.make.high, .float .f64 r.make.real, .int .i64 r.make.cap, .string (str r.make.text), .slice Ai ni ci, .bool r.must] : Array Value).toList := by
    injection e with e; exact congrArg Array.toList e
   have hsp := World.cell?_spot (v := .int .i64 r.kind) h0
   simpa [Addr.add] using hsp
  obtain ⟨b, o, sp⟩ := a
  obtain rfl : sp = none := hspot
  have key : ∀ i, i < n → ∃ (r : MAct) (Ai : Option Addr) (ni ci : Nat), ActCells W b (o + i * 14) r Ai ni ci := by
   intro i hi
   obtain ⟨r, Ai, ni, ci, l, e, hwf, hit, hcell⟩ := key0 i hi
   obtain rfl : l = (#[.int .i64 r.kind, .string (str r.key), .int .i64 r.n, .float .f64 r.x, .string (str r.s), .int .i64 r.make.kind, .int .i64 r.make.num, .int .i64 r.make.low, .int .i64 r.make.high, .float .f64 r.make.real, .int .i64 r.make.cap, .string (str r.make.text), .slice Ai ni ci, .bool r.must] : Array Value).toList := by
    injection e with e; exact congrArg Array.toList e
   simp only [add_at] at hcell
   exact ⟨r, Ai, ni, ci, hcell 0 (by omega), hcell 1 (by omega), hcell 2 (by omega), hcell 3 (by omega), hcell 4 (by omega), hcell 5 (by omega), hcell 6 (by omega), hcell 7 (by omega), hcell 8 (by omega), hcell 9 (by omega), hcell 10 (by omega), hcell 11 (by omega), hcell 12 (by omega), hcell 13 (by omega), hit, hwf⟩
  have hF : ∃ F : Nat → MAct, ∀ i, i < n → ∃ (Ai : Option Addr) (ni ci : Nat), ActCells W b (o + i * 14) (F i) Ai ni ci :=
   ⟨fun i => if h : i < n then Classical.choose (key i h) else zeroAct, fun i h => by simp only [dif_pos h]; exact Classical.choose_spec (key i h)⟩
  obtain ⟨F, hF⟩ := hF
  have hat : ∀ i, i < n → actAt ((List.range n).map F) i = F i := by intro i hi; simp [actAt, hi]
  refine ⟨(List.range n).map F, by simp, fun h0 => ?_⟩
  obtain ⟨_, _, _, h1⟩ := hF 0 h0
  refine ⟨b, o, rfl, World.block_lt_of_cell? _ _ h1.c0, fun i hi => ?_⟩
  rw [hat i hi]
  exact hF i hi
theorem acts_open {H : Type} {enc : TypeId × Value → H} {W : World} {r : Reach} {b0 : Nat} {v : Value} {d : DataW H} {p : List MemPlace}
  (hv : Value.okWide Tryz.prog W r b0 65 v) (h : DataW.Trod enc Tryz.prog W 0 (fun _ => true) true 65 v d p) :
  ∃ (A : Option Addr) (n c : Nat) (l : List MAct), v = .slice A n c ∧ RdActs W A n l := by
 obtain ⟨A, n, c, rfl⟩ := okWide_slice Tryz.underlying65 hv
 obtain ⟨fuel, hf⟩ := h
 obtain ⟨l, hl⟩ := acts_trod hf
 exact ⟨A, n, c, l, rfl, hl⟩
theorem cells_deal : Tryz.prog.cellsOf 67 = 1 := by kernel_rfl
theorem cells_sacts : Tryz.prog.cellsOf 65 = 1 := by kernel_rfl
theorem cells_sdeals : Tryz.prog.cellsOf 36 = 1 := by kernel_rfl
theorem acts_cell {H : Type} {enc : TypeId × Value → H} {W : World} {fuel : Nat} {v : Value} {x : DataW H × List MemPlace}
  (hf : DataW.trod enc Tryz.prog W 0 (fun _ => true) true fuel 65 [v] = some x) : ∃ (A : Option Addr) (n c : Nat) (l : List MAct), v = .slice A n c ∧ RdActs W A n l ∧ n ≤ c ∧ (A = none → c = 0) := by
 rcases open_slice Tryz.underlying65 hf with ⟨hcs, _⟩ | ⟨a, len, cap, m, k, D, Pl, hcs, hb, hl, hm, hmm, _, hx⟩
 ·simp at hcs
  subst hcs
  obtain ⟨l, hl⟩ := acts_trod hf
  exact ⟨none, 0, 0, l, rfl, hl, by omega, fun _ => rfl⟩
 ·simp at hcs
  subst hcs
  obtain ⟨l, hl'⟩ := acts_trod hf
  exact ⟨some a, len, cap, l, rfl, hl', hl, fun h => by cases h⟩
theorem deal_cells {H : Type} {enc : TypeId × Value → H} {W : World} {fuel : Nat} {l : List Value} {x : DataW H × List MemPlace} (hsz : l.length = 1) (hf : DataW.trod enc Tryz.prog W 0 (fun _ => true) true fuel 67 l = some x) :
  ∃ (A : Option Addr) (n c : Nat) (d : List MAct), l = [.slice A n c] ∧ RdActs W A n d ∧ n ≤ c ∧ (A = none → c = 0) := by
 match l, hsz with
 | [c0], _ =>
  obtain ⟨xs, m, _, hx, _, hlen, hg⟩ := DataW.trod_struct Tryz.underlying67 hf
  match xs, hlen with
  | [y0], _ =>
   have u0 : DataW.trod enc Tryz.prog W 0 (fun _ => true) true m 65 ((([c0] : List Value).drop 0).take (Tryz.prog.cellsOf 65)) = some y0 := hg 0 _ rfl
   rw [cells_sacts] at u0
   obtain ⟨A, n, c, d, rfl, h⟩ := acts_cell (v := c0) u0
   exact ⟨A, n, c, d, rfl, h⟩
theorem deals_trod {H : Type} {enc : TypeId × Value → H} {W : World} {fuel : Nat} {v : Value} {x : DataW H × List MemPlace}
  (hf : DataW.trod enc Tryz.prog W 0 (fun _ => true) true fuel 36 [v] = some x) : ∃ (A : Option Addr) (n c : Nat) (l : List (List MAct)), v = .slice A n c ∧ RdDeals W A n l ∧ n ≤ c ∧ (A = none → c = 0) := by
 rcases open_slice Tryz.underlying36 hf with ⟨hcs, _⟩ | ⟨a, n, c, m, k, D, Pl, hcs, hb, hl, hm, hmm, _, hx⟩
 ·simp at hcs
  subst hcs
  exact ⟨none, 0, 0, [], rfl, ⟨rfl, fun h0 => absurd h0 (by omega)⟩, by omega, fun _ => rfl⟩
 ·simp at hcs
  subst hcs
  refine ⟨some a, n, c, ?_⟩
  suffices h : ∃ l, RdDeals W (some a) n l by
   obtain ⟨l, h⟩ := h
   exact ⟨l, rfl, h, hl, fun h => by cases h⟩
  have hml : n ≤ m := by rw [hmm]; simpa using hl
  by_cases hn0 : n = 0
  ·subst hn0
   exact ⟨[], rfl, fun h0 => absurd h0 (by omega)⟩
  rw [cells_deal] at hx
  have key0 : ∀ i, i < n → ∃ (d : List MAct) (Ai : Option Addr) (ni ci : Nat), RdActs W Ai ni d ∧ W.cell? ((a.add (i * 1)).add 0) = some (.slice Ai ni ci) := by
   intro i hi
   obtain ⟨cs', hc, ht⟩ := hx i (by omega)
   obtain ⟨_, hlen, hcell⟩ := World.cells?_some hc
   obtain ⟨Ai, ni, ci, d, rfl, h, _⟩ := deal_cells hlen ht
   exact ⟨d, Ai, ni, ci, h, hcell 0 (by omega)⟩
  have hspot : a.spot = none := by
   obtain ⟨_, _, _, _, _, h0⟩ := key0 0 (by omega)
   have hsp := World.cell?_spot h0
   simpa [Addr.add] using hsp
  obtain ⟨b, o, sp⟩ := a
  obtain rfl : sp = none := hspot
  have key : ∀ i, i < n → ∃ (d : List MAct) (Ai : Option Addr) (ni ci : Nat), DealCell W b (o + i) d Ai ni ci := by
   intro i hi
   obtain ⟨d, Ai, ni, ci, h, hcell⟩ := key0 i hi
   simp only [add_at, Nat.mul_one, Nat.add_zero] at hcell
   exact ⟨d, Ai, ni, ci, hcell, h⟩
  have hF : ∃ F : Nat → List MAct, ∀ i, i < n → ∃ (Ai : Option Addr) (ni ci : Nat), DealCell W b (o + i) (F i) Ai ni ci :=
   ⟨fun i => if h : i < n then Classical.choose (key i h) else [], fun i h => by simp only [dif_pos h]; exact Classical.choose_spec (key i h)⟩
  obtain ⟨F, hF⟩ := hF
  have hat : ∀ i, i < n → dealAt ((List.range n).map F) i = F i := by intro i hi; simp [dealAt, hi]
  refine ⟨(List.range n).map F, by simp, fun h0 => ?_⟩
  obtain ⟨_, _, _, h1⟩ := hF 0 h0
  refine ⟨b, o, rfl, World.block_lt_of_cell? _ _ h1.c0, fun i hi => ?_⟩
  rw [hat i hi]
  exact hF i hi
theorem lot_open {H : Type} {enc : TypeId × Value → H} {W : World} {r : Reach} {b0 : Nat} {v : Value} {d : DataW H} {p : List MemPlace}
  (hv : Value.okWide Tryz.prog W r b0 38 v) (h : DataW.Trod enc Tryz.prog W 0 (fun _ => true) true 38 v d p) :
  ∃ (a : MLot) (A : Option Addr) (n c : Nat), v = .agg #[.int .i64 a.num, .slice A n c] ∧ (-9223372036854775808 ≤ a.num ∧ a.num < 9223372036854775808) ∧ RdDeals W A n a.deals ∧ n ≤ c ∧ (A = none → c = 0) := by
 obtain ⟨cs, rfl, hsz⟩ := okWide_struct Tryz.underlying38 hv
 obtain ⟨l⟩ := cs
 obtain ⟨fuel, hf⟩ := h
 have hsz : l.length = 2 := hsz.trans (show Tryz.prog.cellsOf 38 = 2 by kernel_rfl)
 match l, hsz, hf with
 | [c0, c1], _, hf =>
  obtain ⟨xs, m, _, hx, _, hlen, hg⟩ := DataW.trod_struct Tryz.underlying38 hf
  match xs, hlen with
  | [y0, y1], _ =>
   have u0 : DataW.trod enc Tryz.prog W 0 (fun _ => true) true m 3 ((([c0, c1] : List Value).drop 0).take (Tryz.prog.cellsOf 3)) = some y0 := hg 0 _ rfl
   have u1 : DataW.trod enc Tryz.prog W 0 (fun _ => true) true m 36 ((([c0, c1] : List Value).drop 1).take (Tryz.prog.cellsOf 36)) = some y1 := hg 1 _ rfl
   obtain ⟨s0, e0, _, w0⟩ := DataW.trod_int Tryz.underlying3 u0
   rw [cells_sdeals] at u1
   obtain ⟨A, n, c, ds, rfl, hd, h1, h2⟩ := deals_trod (v := c1) u1
   simp only [cells_int] at e0
   simp at e0
   subst e0
   exact ⟨⟨s0, ds⟩, A, n, c, rfl, i64_in_ w0, hd, h1, h2⟩
theorem deals_open {H : Type} {enc : TypeId × Value → H} {W : World} {r : Reach} {b0 : Nat} {v : Value} {d : DataW H} {p : List MemPlace}
  (hv : Value.okWide Tryz.prog W r b0 36 v) (h : DataW.Trod enc Tryz.prog W 0 (fun _ => true) true 36 v d p) :
  ∃ (A : Option Addr) (n c : Nat) (l : List (List MAct)), v = .slice A n c ∧ RdDeals W A n l ∧ n ≤ c ∧ (A = none → c = 0) := by
 obtain ⟨A, n, c, rfl⟩ := okWide_slice Tryz.underlying36 hv
 obtain ⟨fuel, hf⟩ := h
 obtain ⟨A', n', c', l, e, hl⟩ := deals_trod hf
 obtain ⟨rfl, rfl, rfl⟩ : A = A' ∧ n = n' ∧ c = c' := by simpa using e
 exact ⟨A, n, c, l, rfl, hl⟩
theorem gKinds : Tryz.prog.globalNamed "moiety/act.kinds" = some 1 := by kernel_rfl
theorem tKinds : (Tryz.prog.globals[1]?).map (·.type) = some 177 := by kernel_rfl
theorem cKind : Tryz.prog.cellsOf 161 = 3 := by kernel_rfl
theorem cStr : Tryz.prog.cellsOf 9 = 1 := by kernel_rfl
theorem cInt : Tryz.prog.cellsOf 3 = 1 := by kernel_rfl
theorem kinds_data (i : Nat) (hi : i < 22) : ∃ l : List (DataW Unit), (Rows.laid_moiety_act_kinds : DataW Unit) = .agg l ∧ l[i]? = some (.agg [.lit (.string (actWords.getD i [])), .lit (.int .i64 (actOns.getD i 0 : Nat)), .lit (.string (actFields.getD i []))]) := by
 refine ⟨_, rfl, ?_⟩
 have h : i = 0 ∨ i = 1 ∨ i = 2 ∨ i = 3 ∨ i = 4 ∨ i = 5 ∨ i = 6 ∨ i = 7 ∨ i = 8 ∨ i = 9 ∨ i = 10 ∨ i = 11 ∨ i = 12 ∨ i = 13 ∨ i = 14 ∨ i = 15 ∨ i = 16 ∨ i = 17 ∨ i = 18 ∨ i = 19 ∨ i = 20 ∨ i = 21 := by omega
 rcases h with rfl | rfl | rfl | rfl | rfl | rfl | rfl | rfl | rfl | rfl | rfl | rfl | rfl | rfl | rfl | rfl | rfl | rfl | rfl | rfl | rfl | rfl <;> rfl
theorem cell_of_take {l : List Value} {v : Value} {a j : Nat} (hj : j < 3) (h : (((l.drop a).take 3).drop j).take 1 = [v]) : l[a + j]? = some v := by
 have := congrArg (fun l : List Value => l[0]?) h
 simp only [List.getElem?_take, List.getElem?_drop] at this
 simpa [hj] using this
theorem kinds_of_laid {W : World} (h : laidMetH Tryz.prog [("moiety/act.kinds", Rows.laid_moiety_act_kinds)] W) : KindsAt W := by
 rw [MakeChecks.laidMetH_plain _ _ _ (by kernel_rfl)] at h
 obtain ⟨ps, ⟨g0, t0, cs0, f0, p0, q0, hg0, ht0, hv0, hd0, _, _⟩, _, _⟩ := h
 obtain rfl := Option.some.inj (gKinds.symm.trans hg0)
 obtain rfl := Option.some.inj (tKinds.symm.trans ht0)
 obtain ⟨xs, m, rfl, hx, hlen, hn, hel⟩ := DataW.trod_array Tryz.underlying177 hd0
 intro i hi
 obtain ⟨l, hl, hli⟩ := kinds_data i hi
 have hx1 := congrArg Prod.fst hx
 rw [show (Rows.laid_moiety_act_kinds, p0).1 = (Rows.laid_moiety_act_kinds : DataW Unit) from rfl, hl] at hx1
 have hxl : l = xs.map (·.1) := by injection hx1
 have hxi : i < xs.length := by omega
 have e1 : (xs.map (·.1))[i]? = some (xs[i].1) := by rw [List.getElem?_map, List.getElem?_eq_getElem hxi]; rfl
 rw [hxl, e1] at hli
 have hli := Option.some.inj hli
 have hi' := hel i hi
 rw [List.getElem?_eq_getElem hxi, cKind] at hi'
 generalize xs[i] = x at hi' hli
 obtain ⟨ys, k, _, hy, hl3, hyl, hf⟩ := DataW.trod_struct Tryz.underlying161 hi'
 have h0 := hf 0 _ rfl; have h1 := hf 1 _ rfl; have h2 := hf 2 _ rfl
 match ys, hyl with
 | [y0, y1, y2], _ =>
  subst hy
  simp only [List.map_cons, List.map_nil, DataW.agg.injEq, List.cons.injEq, and_true] at hli
  obtain ⟨d0, d1, d2⟩ := hli
  simp only [List.getElem?_cons_zero, List.getElem?_cons_succ] at h0 h1 h2
  obtain ⟨s0, a0, b0, _⟩ := DataW.trod_string Tryz.underlying9 h0
  obtain ⟨s1, a1, b1, _⟩ := DataW.trod_int Tryz.underlying3 h1
  obtain ⟨s2, a2, b2, _⟩ := DataW.trod_string Tryz.underlying9 h2
  rw [b0] at d0; rw [b1] at d1; rw [b2] at d2
  have e0 : s0 = str (actWords.getD i []) := by
   injection d0 with d0; injection d0 with d0; rw [← d0]; rfl
  have e1 : s1 = (actOns.getD i 0 : Nat) := by
   injection d1 with d1; injection d1
  have e2 : s2 = str (actFields.getD i []) := by
   injection d2 with d2; injection d2 with d2; rw [← d2]; rfl
  subst e0; subst e1; subst e2
  refine ⟨?_, ?_, ?_⟩
  ·rw [show (i * 3 : Nat) = i * 3 + 0 from rfl]
   exact (World.var?_cell hg0 hv0 (i * 3 + 0)).trans (by rw [← Array.getElem?_toList]; exact cell_of_take (by decide) a0)
  ·exact (World.var?_cell hg0 hv0 (i * 3 + 1)).trans (by rw [← Array.getElem?_toList]; exact cell_of_take (by decide) a1)
  ·exact (World.var?_cell hg0 hv0 (i * 3 + 2)).trans (by rw [← Array.getElem?_toList]; exact cell_of_take (by decide) a2)
theorem door_met (os : Os) (args : Array Value) : laidMetH Tryz.prog [("moiety/act.kinds", Rows.laid_moiety_act_kinds)] ((World.doorLaid Tryz.prog 400 os).forCall (fun _ _ => 0) ⟨#[], args, []⟩).memory :=
 laidMetH_of_parts3 (fuel := 8) (laidMet_of_run' 8 (by kernel_rfl) (by kernel_rfl)) (by kernel_rfl) (by kernel_rfl)
end Go.Proofs.YtbemnfbndjolpaaGreatDoor

/- Arguments behind a call. -/
namespace Go.Proofs.YtbemnfbndjolpaaGreatDoor
open Go.ChangeShapes Go.WideShapes Go.ChangeAt Go.RowKit Go.Joins Moi

theorem arg_stays {H : Type} {enc : TypeId × Value → H} {t : TypeId} (hr : Tryz.prog.readableRec t = true) (hrow : t < Tryz.prog.types.size) {W W' : World} {v : Value} {d : DataW H} {ps : List MemPlace}
  (h : DataW.Trod enc Tryz.prog W 0 (fun _ => true) true t v d ps) (hb : Below W.heap.size W W') (hlt : ∀ x ∈ ps, x.block < W.heap.size) (sp : Nat → Bool) (hsp : ∀ x ∈ ps, sp x.block = true) :
  DataW.Trod enc Tryz.prog W' 0 sp true t v d ps :=
 WideElems.Trod_stays laidOut hr hrow h (fun x hx => hb.same (hlt x hx)) hsp

end Go.Proofs.YtbemnfbndjolpaaGreatDoor
