/- The walk of the document's Check. -/
import Derived.Test.YtocllhghbmbjpaaDoorWItem
import Derived.Test.YtocllhghbmbjpaaDoorWOnly
import Derived.Test.YtocllhghbmbjpaaDoorRecs
import Derived.Deep.RegionHeld3
set_option linter.unusedSimpArgs false
set_option linter.unusedVariables false
set_option maxRecDepth 20000
namespace Go.Proofs.YtocllhghbmbjpaaDoor
open Go.RowKit Moi
attribute [local go_sem] toList_str str_size less_ltB store_float

theorem only_kind (r : MRec) (k : Nat) (hk : r.kind = (k : Int)) (h1 : 1 ≤ k ∧ k ≤ 9) (A : Option Addr) (n c : Nat) (hn : Hid (r.list.length = n)) (hr : r.real < 18446744073709551616) (w : World) :
    Calls Tryd.prog 71 #[recVal r A n c, .string (str (fieldsOf (k : Int)))] w fun e w' => e = .returned (.bool (bareB r (shapeOf r.kind))) ∧ Cln w w' := by
  rw [hk]
  have hc : k = 1 ∨ k = 2 ∨ k = 3 ∨ k = 4 ∨ k = 5 ∨ k = 6 ∨ k = 7 ∨ k = 8 ∨ k = 9 := by omega
  rcases hc with rfl | rfl | rfl | rfl | rfl | rfl | rfl | rfl | rfl
  · exact only_t r A n c hn hr w
  · exact only_n r A n c hn hr w
  · exact only_n r A n c hn hr w
  · exact only_nb r A n c hn hr w
  · exact only_r r A n c hn hr w
  · exact only_r r A n c hn hr w
  · exact only_r r A n c hn hr w
  · exact only_l r A n c hn hr w
  · exact only_l r A n c hn hr w
/-- What is kept of the record's block through the region that asks for its fields. -/
theorem recKeep {w W W' : World} {p0 p1 p2 p3 p4 p5 p6 p7 : Addr} {v0 v1 v2 v3 v4 v5 v6 v7 : Value} (hq : Cln W W')
    (h : W.cell? p0 = some v0 ∧ W.cell? p1 = some v1 ∧ W.cell? p2 = some v2 ∧ W.cell? p3 = some v3 ∧ W.cell? p4 = some v4 ∧ W.cell? p5 = some v5 ∧ W.cell? p6 = some v6 ∧ W.cell? p7 = some v7 ∧ Hid (Cln w W)) :
    W'.cell? p0 = some v0 ∧ W'.cell? p1 = some v1 ∧ W'.cell? p2 = some v2 ∧ W'.cell? p3 = some v3 ∧ W'.cell? p4 = some v4 ∧ W'.cell? p5 = some v5 ∧ W'.cell? p6 = some v6 ∧ W'.cell? p7 = some v7 ∧ Hid (Cln w W') := by
  have k := Kept.of_below (S := fun _ => False) hq
  obtain ⟨h0, h1, h2, h3, h4, h5, h6, h7, h8⟩ := h
  exact ⟨k.cell h0 id, k.cell h1 id, k.cell h2 id, k.cell h3 id, k.cell h4 id, k.cell h5 id, k.cell h6 id, k.cell h7 id, Lib.hid (cln_trans h8.out hq)⟩

theorem rcheck_bad (r : MRec) (A : Option Addr) (n c : Nat) (hk : r.kind < 1 ∨ 9 < r.kind) (w : World) :
    Calls Tryd.prog 41 #[recVal r A n c] w fun e w' => e = .returned (.int .i64 (checkRec r : Nat)) ∧ Cln w w' := by
  have hE : Hid (checkRec r = 5) := by unfold Hid checkRec; rw [if_pos hk]
  unfold recVal
  by_cases h1 : r.kind < 1
  · have t1 : decide (r.kind < 1) = true := decide_eq_true h1
    clear hk h1
    go_enter Tryd.func41, Tryd.ntmps41
    go_wp2_with fail
    go_ret
    exact ⟨ret_int (by rw [hE.out]; rfl), by (repeat (first | (with_reducible exact Below.refl _ _) | (with_reducible assumption) | (with_reducible refine Below.setCell ?_ (by first | omega | (simp; done) | (simp; omega)) _) | (with_reducible refine Below.alloc ?_ (by first | omega | (simp; done) | (simp; omega)) _) | (with_reducible refine Below.drew ?_) | (with_reducible refine below_drewN ?_ _)))⟩
  · have t1 : decide (r.kind < 1) = false := decide_eq_false h1
    have t2 : decide (9 < r.kind) = true := decide_eq_true (by omega)
    clear hk h1
    go_enter Tryd.func41, Tryd.ntmps41
    go_wp2_with fail
    go_ret
    exact ⟨ret_int (by rw [hE.out]; rfl), by (repeat (first | (with_reducible exact Below.refl _ _) | (with_reducible assumption) | (with_reducible refine Below.setCell ?_ (by first | omega | (simp; done) | (simp; omega)) _) | (with_reducible refine Below.alloc ?_ (by first | omega | (simp; done) | (simp; omega)) _) | (with_reducible refine Below.drew ?_) | (with_reducible refine below_drewN ?_ _)))⟩
set_option maxHeartbeats 4000000 in
theorem rcheck_bare (r : MRec) (k : Nat) (hk : r.kind = (k : Int)) (h1 : 1 ≤ k ∧ k ≤ 9) (A : Option Addr) (n c : Nat) (hn : Hid (r.list.length = n)) (hr : r.real < 18446744073709551616) (hB : bareB r (shapeOf r.kind) = false) (w : World) :
    Calls Tryd.prog 41 #[recVal r A n c] w fun e w' => e = .returned (.int .i64 (checkRec r : Nat)) ∧ Cln w w' := by
  have hE : Hid (checkRec r = 4) := by unfold Hid checkRec; rw [if_neg (by omega), if_pos hB]
  have cO : ∀ W : World, Calls Tryd.prog 71 #[.agg #[.int .i64 (k : Int), .int .i64 r.num, .int .i64 r.low, .int .i64 r.high, .float .f64 r.real, .int .i64 r.cap, .string (str r.text), .slice A n c], .string (str (fieldsOf (k : Int)))] W fun e w' => e = .returned (.bool false) ∧ Cln W w' := fun W => by
    have h := only_kind r k hk h1 A n c hn hr W
    rw [hB] at h; unfold recVal at h; rw [hk] at h; exact h
  have cF : ∀ W : World, Calls Tryd.prog 72 #[.int .i64 (k : Int)] W fun e w' => e = .returned (.string (str (fieldsOf (k : Int)))) ∧ Cln W w' := fun W => fields_any k (by omega) W
  have t1 : decide ((k : Int) < 1) = false := decide_eq_false (by omega)
  have t2 : decide (9 < (k : Int)) = false := decide_eq_false (by omega)
  have hb0 := Blk.new w 31 #[.int .i64 (k : Int), .int .i64 r.num, .int .i64 r.low, .int .i64 r.high, .float .f64 r.real, .int .i64 r.cap, .string (str r.text), .slice A n c]
  have hcl : Hid (Cln w (w.alloc (.cells #[.int .i64 (k : Int), .int .i64 r.num, .int .i64 r.low, .int .i64 r.high, .float .f64 r.real, .int .i64 r.cap, .string (str r.text), .slice A n c] 31))) := by unfold Hid; (repeat (first | (with_reducible exact Below.refl _ _) | (with_reducible assumption) | (with_reducible refine Below.setCell ?_ (by first | omega | (simp; done) | (simp; omega)) _) | (with_reducible refine Below.alloc ?_ (by first | omega | (simp; done) | (simp; omega)) _) | (with_reducible refine Below.drew ?_) | (with_reducible refine below_drewN ?_ _)))
  unfold recVal
  rw [hk]
  clear hB hk h1
  have g0 := hb0.cell 0; have g1 := hb0.cell 1; have g2 := hb0.cell 2; have g3 := hb0.cell 3; have g4 := hb0.cell 4; have g5 := hb0.cell 5; have g6 := hb0.cell 6; have g7 := hb0.cell 7
  go_enter Tryd.func41, Tryd.ntmps41
  go_wp2_with fail
  go_region_held3 (fun W => W.cell? ⟨w.heap.size, 0, none⟩ = some (.int .i64 (k : Int)) ∧ W.cell? ⟨w.heap.size, 1, none⟩ = some (.int .i64 r.num) ∧ W.cell? ⟨w.heap.size, 2, none⟩ = some (.int .i64 r.low) ∧ W.cell? ⟨w.heap.size, 3, none⟩ = some (.int .i64 r.high) ∧ W.cell? ⟨w.heap.size, 4, none⟩ = some (.float .f64 r.real) ∧ W.cell? ⟨w.heap.size, 5, none⟩ = some (.int .i64 r.cap) ∧ W.cell? ⟨w.heap.size, 6, none⟩ = some (.string (str r.text)) ∧ W.cell? ⟨w.heap.size, 7, none⟩ = some (.slice A n c) ∧ Hid (Cln w W))
    (first | exact recKeep hq (by assumption) | exact ⟨g0, g1, g2, g3, g4, g5, g6, g7, Lib.hid (Below.drew hcl.out)⟩)
    (first
      | (go_at_call 72; with_reducible refine (cF _).mono ?_; rintro e w' ⟨rfl, hq⟩)
      | (go_at_call 71; with_reducible refine (cO _).mono ?_; rintro e w' ⟨rfl, hq⟩))
  rename_i hS
  have hcl2 := hS.2.2.2.2.2.2.2.2.out
  clear hS
  go_wp2_with fail
  go_ret
  exact ⟨ret_int (by rw [hE.out]; rfl), hcl2⟩
end Go.Proofs.YtocllhghbmbjpaaDoor
