/- An argument that is a row of acts, opened. -/
import Derived.Test.YtocllhghbmbjpaaDoorOpenAct
import Derived.Test.YtocllhghbmbjpaaDoorRowAct
set_option linter.unusedSimpArgs false
set_option linter.unusedVariables false
set_option maxRecDepth 20000
namespace Go.Proofs.YtocllhghbmbjpaaDoor
open Go.ChangeShapes Go.WideShapes Go.ChangeAt Go.RowKit Go.Joins Go.Deep Moi
theorem add_at (b o k : Nat) : (⟨b, o, none⟩ : Addr).add k = ⟨b, o + k, none⟩ := by
  unfold Addr.add
  split
  · rename_i hz; subst hz; rfl
  · rfl
theorem acts_trod {H : Type} {enc : TypeId × Value → H} {W : World} {fuel : Nat} {A : Option Addr} {n c : Nat} {x : DataW H × List MemPlace}
    (hf : DataW.trod enc Tryd.prog W 0 (fun _ => true) true fuel 48 [.slice A n c] = some x) : ∃ l : List MAct, RdActs W A n l := by
  rcases open_slice Tryd.underlying48 hf with ⟨hcs, _⟩ | ⟨a, len, cap, m, k, D, Pl, hcs, hb, hl, hm, hmm, _, hx⟩
  · simp at hcs
    obtain ⟨rfl, rfl, rfl⟩ := hcs
    exact ⟨[], rfl, fun h0 => absurd h0 (by omega)⟩
  · simp at hcs
    obtain ⟨rfl, rfl, rfl⟩ := hcs
    have hml : n ≤ m := by rw [hmm]; simpa using hl
    by_cases hn0 : n = 0
    · subst hn0
      exact ⟨[], rfl, fun h0 => absurd h0 (by omega)⟩
    rw [cells_act] at hx
    have key0 : ∀ i, i < n → ∃ (r : MAct) (Ai : Option Addr) (ni ci : Nat) (l : List Value), Value.agg l.toArray = actVal r Ai ni ci ∧ r.WF ∧ RdItems W Ai ni r.make.list ∧ ∀ j, j < 14 → W.cell? ((a.add (i * 14)).add j) = l[j]? := by
      intro i hi
      obtain ⟨cs', hc, ht⟩ := hx i (by omega)
      obtain ⟨_, hlen, hcell⟩ := World.cells?_some hc
      obtain ⟨r, Ai, ni, ci, e, hwf, hit⟩ := act_cells hlen ht
      exact ⟨r, Ai, ni, ci, cs', e, hwf, hit, hcell⟩
    have hspot : a.spot = none := by
      obtain ⟨r, Ai, ni, ci, l, e, _, _, hcell⟩ := key0 0 (by omega)
      have h0 := hcell 0 (by omega)
      obtain rfl : l = (#[.int .i64 r.kind, .string (str r.key), .int .i64 r.n, .float .f64 r.x, .string (str r.s), .int .i64 r.make.kind, .int .i64 r.make.num, .int .i64 r.make.low, .int .i64 r.make.high, .float .f64 r.make.real, .int .i64 r.make.cap, .string (str r.make.text), .slice Ai ni ci, .bool r.must] : Array Value).toList := by
        injection e with e; exact congrArg Array.toList e
      have hsp := World.cell?_spot (v := .int .i64 r.kind) h0
      simpa [Addr.add] using hsp
    obtain ⟨b, o, sp⟩ := a
    obtain rfl : sp = none := hspot
    have key : ∀ i, i < n → ∃ (r : MAct) (Ai : Option Addr) (ni ci : Nat), ActCells W b (o + i * 14) r Ai ni ci := by
      intro i hi
      obtain ⟨r, Ai, ni, ci, l, e, hwf, hit, hcell⟩ := key0 i hi
      obtain rfl : l = (#[.int .i64 r.kind, .string (str r.key), .int .i64 r.n, .float .f64 r.x, .string (str r.s), .int .i64 r.make.kind, .int .i64 r.make.num, .int .i64 r.make.low, .int .i64 r.make.high, .float .f64 r.make.real, .int .i64 r.make.cap, .string (str r.make.text), .slice Ai ni ci, .bool r.must] : Array Value).toList := by
        injection e with e; exact congrArg Array.toList e
      simp only [add_at] at hcell
      exact ⟨r, Ai, ni, ci, hcell 0 (by omega), hcell 1 (by omega), hcell 2 (by omega), hcell 3 (by omega), hcell 4 (by omega), hcell 5 (by omega), hcell 6 (by omega), hcell 7 (by omega), hcell 8 (by omega), hcell 9 (by omega), hcell 10 (by omega), hcell 11 (by omega), hcell 12 (by omega), hcell 13 (by omega), hit, hwf⟩
    have hF : ∃ F : Nat → MAct, ∀ i, i < n → ∃ (Ai : Option Addr) (ni ci : Nat), ActCells W b (o + i * 14) (F i) Ai ni ci :=
      ⟨fun i => if h : i < n then Classical.choose (key i h) else zeroAct, fun i h => by simp only [dif_pos h]; exact Classical.choose_spec (key i h)⟩
    obtain ⟨F, hF⟩ := hF
    have hat : ∀ i, i < n → actAt ((List.range n).map F) i = F i := by intro i hi; simp [actAt, hi]
    refine ⟨(List.range n).map F, by simp, fun h0 => ?_⟩
    obtain ⟨_, _, _, h1⟩ := hF 0 h0
    refine ⟨b, o, rfl, World.block_lt_of_cell? _ _ h1.c0, fun i hi => ?_⟩
    rw [hat i hi]
    exact hF i hi
theorem acts_open {H : Type} {enc : TypeId × Value → H} {W : World} {r : Reach} {b0 : Nat} {v : Value} {d : DataW H} {p : List MemPlace}
    (hv : Value.okWide Tryd.prog W r b0 48 v) (h : DataW.Trod enc Tryd.prog W 0 (fun _ => true) true 48 v d p) :
    ∃ (A : Option Addr) (n c : Nat) (l : List MAct), v = .slice A n c ∧ RdActs W A n l := by
  obtain ⟨A, n, c, rfl⟩ := okWide_slice Tryd.underlying48 hv
  obtain ⟨fuel, hf⟩ := h
  obtain ⟨l, hl⟩ := acts_trod hf
  exact ⟨A, n, c, l, rfl, hl⟩
end Go.Proofs.YtocllhghbmbjpaaDoor
