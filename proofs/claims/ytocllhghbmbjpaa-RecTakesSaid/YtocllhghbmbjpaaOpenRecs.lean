/- An argument that is a row of records, opened. -/
import Derived.Test.YtocllhghbmbjpaaOpenRec
import Derived.Test.YtocllhghbmbjpaaLTakes
set_option linter.unusedSimpArgs false
set_option linter.unusedVariables false
set_option maxRecDepth 20000
namespace Go.Proofs.Ytocllhghbmbjpaa
open Go.ChangeShapes Go.WideShapes Go.ChangeAt Go.RowKit Go.Joins Go.Deep Moi
theorem add_at (b o k : Nat) : (⟨b, o, none⟩ : Addr).add k = ⟨b, o + k, none⟩ := by
  unfold Addr.add
  split
  · rename_i hz; subst hz; rfl
  · rfl
theorem recs_open {H : Type} {enc : TypeId × Value → H} {W : World} {r : Reach} {b0 : Nat} {v : Value} {d : DataW H} {p : List MemPlace}
    (hv : Value.okWide Try.prog W r b0 48 v) (h : DataW.Trod enc Try.prog W 0 (fun _ => true) true 48 v d p) :
    ∃ (A : Option Addr) (n c : Nat) (l : List MRec), v = .slice A n c ∧ RdRecs W A n l := by
  obtain ⟨A, n, c, rfl⟩ := okWide_slice Try.underlying48 hv
  obtain ⟨fuel, hf⟩ := h
  rcases open_slice_fields Try.underlying48 Try.underlying25 (by kernel_rfl) cells_rec hf with ⟨hcs, _⟩ | ⟨a, len, cap, m, D, Pl, hcs, hb, hl, hm, hmm, _, hx⟩
  · simp [Value.cells] at hcs
    obtain ⟨rfl, rfl, rfl⟩ := hcs
    exact ⟨none, 0, 0, [], rfl, rfl, fun h0 => absurd h0 (by omega)⟩
  · simp [Value.cells] at hcs
    obtain ⟨rfl, rfl, rfl⟩ := hcs
    have hml : n ≤ m := by rw [hmm]; simpa using hl
    by_cases hn0 : n = 0
    · subst hn0
      exact ⟨some a, 0, c, [], rfl, rfl, fun h0 => absurd h0 (by omega)⟩
    have hspot : a.spot = none := by
      obtain ⟨ys, k, _, _, _, hf⟩ := hx 0 (by omega)
      obtain ⟨v0, y0, g0, _, _⟩ := hf 0 _ rfl
      have hsp := World.cell?_spot g0
      simpa [Addr.add] using hsp
    obtain ⟨b, o, sp⟩ := a
    obtain rfl : sp = none := hspot
    have key : ∀ i, i < n → ∃ (r : MRec) (Ai : Option Addr) (ni ci : Nat), W.cell? ((⟨b, o, none⟩ : Addr).add (i * 8)) = some (.int .i64 r.kind) ∧ RecCells W b (o + i * 8) r Ai ni ci := by
      intro i hi
      obtain ⟨ys, k, _, _, _, hf⟩ := hx i (by omega)
      obtain ⟨v0, y0, g0, _, t0⟩ := hf 0 _ rfl
      obtain ⟨v1, y1, g1, _, t1⟩ := hf 1 _ rfl
      obtain ⟨v2, y2, g2, _, t2⟩ := hf 2 _ rfl
      obtain ⟨v3, y3, g3, _, t3⟩ := hf 3 _ rfl
      obtain ⟨v4, y4, g4, _, t4⟩ := hf 4 _ rfl
      obtain ⟨v5, y5, g5, _, t5⟩ := hf 5 _ rfl
      obtain ⟨v6, y6, g6, _, t6⟩ := hf 6 _ rfl
      obtain ⟨v7, y7, g7, _, t7⟩ := hf 7 _ rfl
      obtain ⟨s0, e0, _, w0⟩ := DataW.trod_int Try.underlying3 t0
      obtain ⟨s1, e1, _, w1⟩ := DataW.trod_int Try.underlying2 t1
      obtain ⟨s2, e2, _, w2⟩ := DataW.trod_int Try.underlying2 t2
      obtain ⟨s3, e3, _, w3⟩ := DataW.trod_int Try.underlying2 t3
      obtain ⟨s4, e4, _, w4⟩ := trod_float Try.underlying22 t4
      obtain ⟨s5, e5, _, w5⟩ := DataW.trod_int Try.underlying3 t5
      obtain ⟨s6, e6, _, w6⟩ := DataW.trod_string Try.underlying9 t6
      obtain ⟨Ai, ni, ci, l, e7, hl⟩ := items_open t7
      simp at e0 e1 e2 e3 e4 e5 e6 e7
      subst e0 e1 e2 e3 e4 e5 e6 e7
      simp only [add_at] at g0 g1 g2 g3 g4 g5 g6 g7 ⊢
      exact ⟨⟨s0, s1, s2, s3, s4, s5, s6.data.toList, l⟩, Ai, ni, ci, g0, g0, g1, g2, g3, g4, g5, g6, g7, hl, ⟨i64_in_ w0, i64_in_ w1, i64_in_ w2, i64_in_ w3, f64_lt w4, i64_in_ w5⟩⟩
    have hF : ∃ F : Nat → MRec, ∀ i, i < n → ∃ (Ai : Option Addr) (ni ci : Nat), W.cell? ((⟨b, o, none⟩ : Addr).add (i * 8)) = some (.int .i64 (F i).kind) ∧ RecCells W b (o + i * 8) (F i) Ai ni ci :=
      ⟨fun i => if h : i < n then Classical.choose (key i h) else zeroRec, fun i h => by simp only [dif_pos h]; exact Classical.choose_spec (key i h)⟩
    obtain ⟨F, hF⟩ := hF
    have hat : ∀ i, i < n → recAt ((List.range n).map F) i = F i := by intro i hi; simp [recAt, hi]
    refine ⟨some ⟨b, o, none⟩, n, c, (List.range n).map F, rfl, by simp, fun h0 => ?_⟩
    obtain ⟨_, _, _, h1, _⟩ := hF 0 h0
    have hbl := World.block_lt_of_cell? _ _ h1
    rw [add_at] at hbl
    refine ⟨b, o, rfl, hbl, fun i hi => ?_⟩
    rw [hat i hi]
    obtain ⟨Ai, ni, ci, _, h2⟩ := hF i hi
    exact ⟨Ai, ni, ci, h2⟩
end Go.Proofs.Ytocllhghbmbjpaa
