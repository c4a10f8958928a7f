/- An argument of type Act, opened. -/
import Derived.Test.YtocllhghbmbjpaaDoorOpenRec
import Derived.Test.YtocllhghbmbjpaaDoorWAct1
set_option linter.unusedSimpArgs false
set_option linter.unusedVariables false
set_option maxRecDepth 20000
namespace Go.Proofs.YtocllhghbmbjpaaDoor
open Go.ChangeShapes Go.WideShapes Go.ChangeAt Go.RowKit Go.Joins Go.Deep Moi
theorem cells_act : Tryd.prog.cellsOf 33 = 14 := by kernel_rfl
theorem cells_int : Tryd.prog.cellsOf 3 = 1 := by kernel_rfl
theorem cells_i64 : Tryd.prog.cellsOf 2 = 1 := by kernel_rfl
theorem cells_str : Tryd.prog.cellsOf 9 = 1 := by kernel_rfl
theorem cells_flo : Tryd.prog.cellsOf 28 = 1 := by kernel_rfl
theorem cells_bool : Tryd.prog.cellsOf 4 = 1 := by kernel_rfl
section
variable {H : Type} {enc : TypeId × Value → H} {P : Program} {w : World} {base : Nat} {spare : Nat → Bool} {held : Bool}
theorem trod_bool_ {fuel : Nat} {t : TypeId} {cs : List Value} {x : DataW H × List MemPlace} (ht : P.underlying t = some .bool) (h : DataW.trod enc P w base spare held fuel t cs = some x) :
    ∃ b, cs = [.bool b] := by
  cases fuel with
  | zero => simp [DataW.trod] at h
  | succ n =>
    unfold DataW.trod at h
    rw [ht] at h
    split at h <;> simp_all
end
theorem rec_cells {H : Type} {enc : TypeId × Value → H} {W : World} {fuel : Nat} {c0 c1 c2 c3 c4 c5 c6 c7 : Value} {x : DataW H × List MemPlace} (h : DataW.trod enc Tryd.prog W 0 (fun _ => true) true fuel 31 [c0, c1, c2, c3, c4, c5, c6, c7] = some x) :
    ∃ (r : MRec) (A : Option Addr) (n c : Nat), [c0, c1, c2, c3, c4, c5, c6, c7] = [.int .i64 r.kind, .int .i64 r.num, .int .i64 r.low, .int .i64 r.high, .float .f64 r.real, .int .i64 r.cap, .string (str r.text), .slice A n c] ∧ r.WF ∧ RdItems W A n r.list := by
  obtain ⟨xs, m, _, hx, _, hlen, hg⟩ := DataW.trod_struct Tryd.underlying31 h
  match xs, hlen with
  | [y0, y1, y2, y3, y4, y5, y6, y7], _ =>
    have u0 : DataW.trod enc Tryd.prog W 0 (fun _ => true) true m 3 ((([c0, c1, c2, c3, c4, c5, c6, c7] : List Value).drop 0).take (Tryd.prog.cellsOf 3)) = some y0 := hg 0 _ rfl; have u1 : DataW.trod enc Tryd.prog W 0 (fun _ => true) true m 2 ((([c0, c1, c2, c3, c4, c5, c6, c7] : List Value).drop 1).take (Tryd.prog.cellsOf 2)) = some y1 := hg 1 _ rfl; have u2 : DataW.trod enc Tryd.prog W 0 (fun _ => true) true m 2 ((([c0, c1, c2, c3, c4, c5, c6, c7] : List Value).drop 2).take (Tryd.prog.cellsOf 2)) = some y2 := hg 2 _ rfl; have u3 : DataW.trod enc Tryd.prog W 0 (fun _ => true) true m 2 ((([c0, c1, c2, c3, c4, c5, c6, c7] : List Value).drop 3).take (Tryd.prog.cellsOf 2)) = some y3 := hg 3 _ rfl; have u4 : DataW.trod enc Tryd.prog W 0 (fun _ => true) true m 28 ((([c0, c1, c2, c3, c4, c5, c6, c7] : List Value).drop 4).take (Tryd.prog.cellsOf 28)) = some y4 := hg 4 _ rfl; have u5 : DataW.trod enc Tryd.prog W 0 (fun _ => true) true m 3 ((([c0, c1, c2, c3, c4, c5, c6, c7] : List Value).drop 5).take (Tryd.prog.cellsOf 3)) = some y5 := hg 5 _ rfl; have u6 : DataW.trod enc Tryd.prog W 0 (fun _ => true) true m 9 ((([c0, c1, c2, c3, c4, c5, c6, c7] : List Value).drop 6).take (Tryd.prog.cellsOf 9)) = some y6 := hg 6 _ rfl; have u7 : DataW.trod enc Tryd.prog W 0 (fun _ => true) true m 29 ((([c0, c1, c2, c3, c4, c5, c6, c7] : List Value).drop 7).take (Tryd.prog.cellsOf 29)) = some y7 := hg 7 _ rfl
    obtain ⟨s0, e0, _, w0⟩ := DataW.trod_int Tryd.underlying3 u0
    obtain ⟨s1, e1, _, w1⟩ := DataW.trod_int Tryd.underlying2 u1
    obtain ⟨s2, e2, _, w2⟩ := DataW.trod_int Tryd.underlying2 u2
    obtain ⟨s3, e3, _, w3⟩ := DataW.trod_int Tryd.underlying2 u3
    obtain ⟨s4, e4, _, w4⟩ := trod_float Tryd.underlying28 u4
    obtain ⟨s5, e5, _, w5⟩ := DataW.trod_int Tryd.underlying3 u5
    obtain ⟨s6, e6, _, w6⟩ := DataW.trod_string Tryd.underlying9 u6
    obtain ⟨A, n, c, l, e7, hl⟩ := items_open u7
    simp only [cells_int, cells_i64, cells_str, cells_flo, show Tryd.prog.cellsOf 29 = 1 from by kernel_rfl] at e0 e1 e2 e3 e4 e5 e6 e7
    simp at e0 e1 e2 e3 e4 e5 e6 e7
    subst e0 e1 e2 e3 e4 e5 e6 e7
    exact ⟨⟨s0, s1, s2, s3, s4, s5, s6.data.toList, l⟩, A, n, c, rfl, ⟨i64_in_ w0, i64_in_ w1, i64_in_ w2, i64_in_ w3, f64_lt w4, i64_in_ w5⟩, hl⟩
/-- The cells of an act, opened. -/
theorem act_cells {H : Type} {enc : TypeId × Value → H} {W : World} {fuel : Nat} {l : List Value} {x : DataW H × List MemPlace} (hsz : l.length = 14) (hf : DataW.trod enc Tryd.prog W 0 (fun _ => true) true fuel 33 l = some x) :
    ∃ (a : MAct) (A : Option Addr) (n c : Nat), Value.agg l.toArray = actVal a A n c ∧ a.WF ∧ RdItems W A n a.make.list := by
  match l, hsz with
  | [c0, c1, c2, c3, c4, c5, c6, c7, c8, c9, c10, c11, c12, c13], _ =>
    obtain ⟨xs, m, _, hx, _, hlen, hg⟩ := DataW.trod_struct Tryd.underlying33 hf
    match xs, hlen with
    | [y0, y1, y2, y3, y4, y5, y6], _ =>
      have u0 : DataW.trod enc Tryd.prog W 0 (fun _ => true) true m 3 ((([c0, c1, c2, c3, c4, c5, c6, c7, c8, c9, c10, c11, c12, c13] : List Value).drop 0).take (Tryd.prog.cellsOf 3)) = some y0 := hg 0 _ rfl; have u1 : DataW.trod enc Tryd.prog W 0 (fun _ => true) true m 9 ((([c0, c1, c2, c3, c4, c5, c6, c7, c8, c9, c10, c11, c12, c13] : List Value).drop 1).take (Tryd.prog.cellsOf 9)) = some y1 := hg 1 _ rfl; have u2 : DataW.trod enc Tryd.prog W 0 (fun _ => true) true m 2 ((([c0, c1, c2, c3, c4, c5, c6, c7, c8, c9, c10, c11, c12, c13] : List Value).drop 2).take (Tryd.prog.cellsOf 2)) = some y2 := hg 2 _ rfl; have u3 : DataW.trod enc Tryd.prog W 0 (fun _ => true) true m 28 ((([c0, c1, c2, c3, c4, c5, c6, c7, c8, c9, c10, c11, c12, c13] : List Value).drop 3).take (Tryd.prog.cellsOf 28)) = some y3 := hg 3 _ rfl; have u4 : DataW.trod enc Tryd.prog W 0 (fun _ => true) true m 9 ((([c0, c1, c2, c3, c4, c5, c6, c7, c8, c9, c10, c11, c12, c13] : List Value).drop 4).take (Tryd.prog.cellsOf 9)) = some y4 := hg 4 _ rfl; have u5 : DataW.trod enc Tryd.prog W 0 (fun _ => true) true m 31 ((([c0, c1, c2, c3, c4, c5, c6, c7, c8, c9, c10, c11, c12, c13] : List Value).drop 5).take (Tryd.prog.cellsOf 31)) = some y5 := hg 5 _ rfl; have u6 : DataW.trod enc Tryd.prog W 0 (fun _ => true) true m 4 ((([c0, c1, c2, c3, c4, c5, c6, c7, c8, c9, c10, c11, c12, c13] : List Value).drop 13).take (Tryd.prog.cellsOf 4)) = some y6 := hg 6 _ rfl
      obtain ⟨s0, e0, _, w0⟩ := DataW.trod_int Tryd.underlying3 u0
      obtain ⟨s1, e1, _, w1⟩ := DataW.trod_string Tryd.underlying9 u1
      obtain ⟨s2, e2, _, w2⟩ := DataW.trod_int Tryd.underlying2 u2
      obtain ⟨s3, e3, _, w3⟩ := trod_float Tryd.underlying28 u3
      obtain ⟨s4, e4, _, w4⟩ := DataW.trod_string Tryd.underlying9 u4
      obtain ⟨s6, e6⟩ := trod_bool_ Tryd.underlying4 u6
      simp only [cells_int, cells_i64, cells_str, cells_flo, cells_bool, cells_rec] at e0 e1 e2 e3 e4 e6 u5
      simp [Value.cells] at e0 e1 e2 e3 e4 e6
      have u5' : DataW.trod enc Tryd.prog W 0 (fun _ => true) true m 31 [c5, c6, c7, c8, c9, c10, c11, c12] = some y5 := u5
      obtain ⟨r, A, n, c, e5, hwf, hl⟩ := rec_cells u5'
      simp at e5
      obtain ⟨e5, e6', e7, e8, e9, e10, e11, e12⟩ := e5
      subst e0 e1 e2 e3 e4 e6 e5 e6' e7 e8 e9 e10 e11 e12
      exact ⟨⟨s0, s1.data.toList, s2, s3, s4.data.toList, r, s6⟩, A, n, c, rfl, ⟨i64_in_ w0, i64_in_ w2, f64_lt w3, hwf⟩, hl⟩
/-- An argument of type Act, opened. -/
theorem act_open {H : Type} {enc : TypeId × Value → H} {W : World} {r : Reach} {b0 : Nat} {v : Value} {d : DataW H} {p : List MemPlace}
    (hv : Value.okWide Tryd.prog W r b0 33 v) (h : DataW.Trod enc Tryd.prog W 0 (fun _ => true) true 33 v d p) :
    ∃ (a : MAct) (A : Option Addr) (n c : Nat), v = actVal a A n c ∧ a.WF ∧ RdItems W A n a.make.list := by
  obtain ⟨cs, rfl, hsz⟩ := okWide_struct Tryd.underlying33 hv
  obtain ⟨l⟩ := cs
  obtain ⟨fuel, hf⟩ := h
  exact act_cells (hsz.trans cells_act) hf
end Go.Proofs.YtocllhghbmbjpaaDoor
