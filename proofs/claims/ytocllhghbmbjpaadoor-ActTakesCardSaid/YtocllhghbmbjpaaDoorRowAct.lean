/- A row of acts that come in. (Printed by wip/tools/gen_lactt.py.) -/
import Derived.Test.YtocllhghbmbjpaaDoorWAct5
import Derived.Test.YtocllhghbmbjpaaDoorTripAct
set_option linter.unusedSimpArgs false
set_option linter.unusedVariables false
set_option maxRecDepth 20000
namespace Go.Proofs.YtocllhghbmbjpaaDoor
open Go.RowKit Moi
def actAt (l : List MAct) (i : Nat) : MAct := l.getD i zeroAct
def catActs (l : List MAct) : List UInt8 := l.flatMap wAct
theorem actAt_drop (l : List MAct) (i : Nat) (h : i < l.length) : l.drop i = actAt l i :: l.drop (i + 1) := by
  rw [List.drop_eq_getElem_cons h]; simp [actAt, List.getD, h]
theorem catActs_take (l : List MAct) (i : Nat) (h : i < l.length) : catActs (l.take (i + 1)) = catActs (l.take i) ++ wAct (actAt l i) := by
  have : l.take (i + 1) = l.take i ++ [actAt l i] := by
    rw [List.take_add_one, List.getElem?_eq_getElem h]; simp [actAt, List.getD, h]
  rw [this]; simp [catActs]
theorem catActs_at (l : List MAct) (i : Nat) (h : i < l.length) : (catActs l).drop (catActs (l.take i)).length = wAct (actAt l i) ++ catActs (l.drop (i + 1)) := by
  have e : catActs l = catActs (l.take i) ++ (wAct (actAt l i) ++ catActs (l.drop (i + 1))) := by
    conv => lhs; rw [← List.take_append_drop i l]
    rw [actAt_drop l i h]; simp [catActs]
  rw [e, List.drop_left]
/-- A record in a row. -/
structure ActCells (W : World) (b o : Nat) (r : MAct) (A : Option Addr) (n c : Nat) : Prop where
  c0 : W.cell? ⟨b, o, none⟩ = some (.int .i64 r.kind)
  c1 : W.cell? ⟨b, o + 1, none⟩ = some (.string (str r.key))
  c2 : W.cell? ⟨b, o + 2, none⟩ = some (.int .i64 r.n)
  c3 : W.cell? ⟨b, o + 3, none⟩ = some (.float .f64 r.x)
  c4 : W.cell? ⟨b, o + 4, none⟩ = some (.string (str r.s))
  c5 : W.cell? ⟨b, o + 5, none⟩ = some (.int .i64 r.make.kind)
  c6 : W.cell? ⟨b, o + 6, none⟩ = some (.int .i64 r.make.num)
  c7 : W.cell? ⟨b, o + 7, none⟩ = some (.int .i64 r.make.low)
  c8 : W.cell? ⟨b, o + 8, none⟩ = some (.int .i64 r.make.high)
  c9 : W.cell? ⟨b, o + 9, none⟩ = some (.float .f64 r.make.real)
  c10 : W.cell? ⟨b, o + 10, none⟩ = some (.int .i64 r.make.cap)
  c11 : W.cell? ⟨b, o + 11, none⟩ = some (.string (str r.make.text))
  c12 : W.cell? ⟨b, o + 12, none⟩ = some (.slice A n c)
  c13 : W.cell? ⟨b, o + 13, none⟩ = some (.bool r.must)
  it : RdItems W A n r.make.list
  wf : r.WF
theorem ActCells.full {W : World} {b o : Nat} {r : MAct} {A : Option Addr} {n c : Nat} (h : ActCells W b o r A n c) : FullA r := ⟨h.wf, fun x hx => by
    obtain ⟨i, hi, rfl⟩ := List.getElem_of_mem hx
    have := h.it.wf i
    simpa [itAt, hi] using this⟩
theorem ActCells.cln {W W' : World} {b o : Nat} {r : MAct} {A : Option Addr} {n c : Nat} (h : ActCells W b o r A n c) (k : Cln W W') : ActCells W' b o r A n c := by
  have k' := Kept.of_below (S := fun _ => False) k
  exact ⟨k'.cell h.c0 id, k'.cell h.c1 id, k'.cell h.c2 id, k'.cell h.c3 id, k'.cell h.c4 id, k'.cell h.c5 id, k'.cell h.c6 id, k'.cell h.c7 id, k'.cell h.c8 id, k'.cell h.c9 id, k'.cell h.c10 id, k'.cell h.c11 id, k'.cell h.c12 id, k'.cell h.c13 id, h.it.cln k, h.wf⟩
structure RdActs (W : World) (A : Option Addr) (n : Nat) (l : List MAct) : Prop where
  len : l.length = n
  rows : 0 < n → ∃ b o, A = some ⟨b, o, none⟩ ∧ b < W.heap.size ∧ ∀ i, i < n → ∃ Ai ni ci, ActCells W b (o + i * 14) (actAt l i) Ai ni ci
theorem RdActs.cln {W W' : World} {A : Option Addr} {n : Nat} {l : List MAct} (h : RdActs W A n l) (k : Cln W W') : RdActs W' A n l := by
  refine ⟨h.len, fun h0 => ?_⟩
  obtain ⟨b, o, rfl, hb, hi⟩ := h.rows h0
  refine ⟨b, o, rfl, Nat.lt_of_lt_of_le hb k.size, fun i hlt => ?_⟩
  obtain ⟨Ai, ni, ci, hc⟩ := hi i hlt
  exact ⟨Ai, ni, ci, hc.cln k⟩
theorem catA_len (l : List MAct) : ∀ (h : ∀ i, i < l.length → checkAct (actAt l i) = 0 ∧ (actAt l i).WF), (catActs l).length ≤ 1400 * l.length := by
  induction l with
  | nil => intro _; simp [catActs]
  | cons x l ih =>
    intro h
    have h0 := h 0 (by simp)
    have hx := wAct_len h0.1 h0.2
    have := ih (fun i hi => by have := h (i + 1) (by simp; omega); simpa [actAt] using this)
    simp only [actAt, List.getD_cons_zero] at hx
    simp only [catActs, List.flatMap_cons, List.length_append, List.length_cons] at *
    omega
end Go.Proofs.YtocllhghbmbjpaaDoor
