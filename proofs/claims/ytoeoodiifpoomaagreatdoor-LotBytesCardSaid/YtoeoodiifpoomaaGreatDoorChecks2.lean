import Derived.Test.YtoeoodiifpoomaaGreatDoorWItem
import Derived.Test.YtoeoodiifpoomaaGreatDoorWOnly
import Derived.Test.YtoeoodiifpoomaaGreatDoorRecs
import Derived.Deep.RegionHeld3
/- The walk of the document's Check. -/
set_option linter.unusedSimpArgs false
set_option linter.unusedVariables false
set_option maxRecDepth 20000
namespace Go.Proofs.YtoeoodiifpoomaaGreatDoor
open Go.RowKit Moi
attribute [local go_sem] toList_str str_size less_ltB store_float

theorem only_kind (r : MRec) (k : Nat) (hk : r.kind = (k : Int)) (h1 : 1 ≤ k ∧ k ≤ 9) (A : Option Addr) (n c : Nat) (hn : Hid (r.list.length = n)) (hr : r.real < 18446744073709551616) (w : World) :
    Calls Tryz.prog 146 #[recVal r A n c, .string (str (fieldsOf (k : Int)))] w fun e w' => e = .returned (.bool (bareB r (shapeOf r.kind))) ∧ Cln w w' := by
  rw [hk]
  have hc : k = 1 ∨ k = 2 ∨ k = 3 ∨ k = 4 ∨ k = 5 ∨ k = 6 ∨ k = 7 ∨ k = 8 ∨ k = 9 := by omega
  rcases hc with rfl | rfl | rfl | rfl | rfl | rfl | rfl | rfl | rfl
  · exact only_t r A n c hn hr w
  · exact only_n r A n c hn hr w
  · exact only_n r A n c hn hr w
  · exact only_nb r A n c hn hr w
  · exact only_r r A n c hn hr w
  · exact only_r r A n c hn hr w
  · exact only_r r A n c hn hr w
  · exact only_l r A n c hn hr w
  · exact only_l r A n c hn hr w
/-- What is kept of the record's block through the region that asks for its fields. -/
theorem recKeep {w W W' : World} {p0 p1 p2 p3 p4 p5 p6 p7 : Addr} {v0 v1 v2 v3 v4 v5 v6 v7 : Value} (hq : Cln W W')
    (h : W.cell? p0 = some v0 ∧ W.cell? p1 = some v1 ∧ W.cell? p2 = some v2 ∧ W.cell? p3 = some v3 ∧ W.cell? p4 = some v4 ∧ W.cell? p5 = some v5 ∧ W.cell? p6 = some v6 ∧ W.cell? p7 = some v7 ∧ Hid (Cln w W)) :
    W'.cell? p0 = some v0 ∧ W'.cell? p1 = some v1 ∧ W'.cell? p2 = some v2 ∧ W'.cell? p3 = some v3 ∧ W'.cell? p4 = some v4 ∧ W'.cell? p5 = some v5 ∧ W'.cell? p6 = some v6 ∧ W'.cell? p7 = some v7 ∧ Hid (Cln w W') := by
  have k := Kept.of_below (S := fun _ => False) hq
  obtain ⟨h0, h1, h2, h3, h4, h5, h6, h7, h8⟩ := h
  exact ⟨k.cell h0 id, k.cell h1 id, k.cell h2 id, k.cell h3 id, k.cell h4 id, k.cell h5 id, k.cell h6 id, k.cell h7 id, Lib.hid (cln_trans h8.out hq)⟩

theorem rcheck_bad (r : MRec) (A : Option Addr) (n c : Nat) (hk : r.kind < 1 ∨ 9 < r.kind) (w : World) :
    Calls Tryz.prog 109 #[recVal r A n c] w fun e w' => e = .returned (.int .i64 (checkRec r : Nat)) ∧ Cln w w' := by
  have hE : Hid (checkRec r = 5) := by unfold Hid checkRec; rw [if_pos hk]
  unfold recVal
  by_cases h1 : r.kind < 1
  · have t1 : decide (r.kind < 1) = true := decide_eq_true h1
    clear hk h1
    go_enter Tryz.func109, Tryz.ntmps109
    go_wp2_with fail
    go_ret
    exact ⟨ret_int (by rw [hE.out]; rfl), by (repeat (first | (with_reducible exact Below.refl _ _) | (with_reducible assumption) | (with_reducible refine Below.setCell ?_ (by first | omega | (simp; done) | (simp; omega)) _) | (with_reducible refine Below.alloc ?_ (by first | omega | (simp; done) | (simp; omega)) _) | (with_reducible refine Below.drew ?_) | (with_reducible refine below_drewN ?_ _)))⟩
  · have t1 : decide (r.kind < 1) = false := decide_eq_false h1
    have t2 : decide (9 < r.kind) = true := decide_eq_true (by omega)
    clear hk h1
    go_enter Tryz.func109, Tryz.ntmps109
    go_wp2_with fail
    go_ret
    exact ⟨ret_int (by rw [hE.out]; rfl), by (repeat (first | (with_reducible exact Below.refl _ _) | (with_reducible assumption) | (with_reducible refine Below.setCell ?_ (by first | omega | (simp; done) | (simp; omega)) _) | (with_reducible refine Below.alloc ?_ (by first | omega | (simp; done) | (simp; omega)) _) | (with_reducible refine Below.drew ?_) | (with_reducible refine below_drewN ?_ _)))⟩
set_option maxHeartbeats 4000000 in
theorem rcheck_bare (r : MRec) (k : Nat) (hk : r.kind = (k : Int)) (h1 : 1 ≤ k ∧ k ≤ 9) (A : Option Addr) (n c : Nat) (hn : Hid (r.list.length = n)) (hr : r.real < 18446744073709551616) (hB : bareB r (shapeOf r.kind) = false) (w : World) :
    Calls Tryz.prog 109 #[recVal r A n c] w fun e w' => e = .returned (.int .i64 (checkRec r : Nat)) ∧ Cln w w' := by
  have hE : Hid (checkRec r = 4) := by unfold Hid checkRec; rw [if_neg (by omega), if_pos hB]
  have cO : ∀ W : World, Calls Tryz.prog 146 #[.agg #[.int .i64 (k : Int), .int .i64 r.num, .int .i64 r.low, .int .i64 r.high, .float .f64 r.real, .int .i64 r.cap, .string (str r.text), .slice A n c], .string (str (fieldsOf (k : Int)))] W fun e w' => e = .returned (.bool false) ∧ Cln W w' := fun W => by
    have h := only_kind r k hk h1 A n c hn hr W
    rw [hB] at h; unfold recVal at h; rw [hk] at h; exact h
  have cF : ∀ W : World, Calls Tryz.prog 147 #[.int .i64 (k : Int)] W fun e w' => e = .returned (.string (str (fieldsOf (k : Int)))) ∧ Cln W w' := fun W => fields_any k (by omega) W
  have t1 : decide ((k : Int) < 1) = false := decide_eq_false (by omega)
  have t2 : decide (9 < (k : Int)) = false := decide_eq_false (by omega)
  have hb0 := Blk.new w 83 #[.int .i64 (k : Int), .int .i64 r.num, .int .i64 r.low, .int .i64 r.high, .float .f64 r.real, .int .i64 r.cap, .string (str r.text), .slice A n c]
  have hcl : Hid (Cln w (w.alloc (.cells #[.int .i64 (k : Int), .int .i64 r.num, .int .i64 r.low, .int .i64 r.high, .float .f64 r.real, .int .i64 r.cap, .string (str r.text), .slice A n c] 83))) := by unfold Hid; (repeat (first | (with_reducible exact Below.refl _ _) | (with_reducible assumption) | (with_reducible refine Below.setCell ?_ (by first | omega | (simp; done) | (simp; omega)) _) | (with_reducible refine Below.alloc ?_ (by first | omega | (simp; done) | (simp; omega)) _) | (with_reducible refine Below.drew ?_) | (with_reducible refine below_drewN ?_ _)))
  unfold recVal
  rw [hk]
  clear hB hk h1
  have g0 := hb0.cell 0; have g1 := hb0.cell 1; have g2 := hb0.cell 2; have g3 := hb0.cell 3; have g4 := hb0.cell 4; have g5 := hb0.cell 5; have g6 := hb0.cell 6; have g7 := hb0.cell 7
  go_enter Tryz.func109, Tryz.ntmps109
  go_wp2_with fail
  go_region_held3 (fun W => W.cell? ⟨w.heap.size, 0, none⟩ = some (.int .i64 (k : Int)) ∧ W.cell? ⟨w.heap.size, 1, none⟩ = some (.int .i64 r.num) ∧ W.cell? ⟨w.heap.size, 2, none⟩ = some (.int .i64 r.low) ∧ W.cell? ⟨w.heap.size, 3, none⟩ = some (.int .i64 r.high) ∧ W.cell? ⟨w.heap.size, 4, none⟩ = some (.float .f64 r.real) ∧ W.cell? ⟨w.heap.size, 5, none⟩ = some (.int .i64 r.cap) ∧ W.cell? ⟨w.heap.size, 6, none⟩ = some (.string (str r.text)) ∧ W.cell? ⟨w.heap.size, 7, none⟩ = some (.slice A n c) ∧ Hid (Cln w W))
    (first | exact recKeep hq (by assumption) | exact ⟨g0, g1, g2, g3, g4, g5, g6, g7, Lib.hid (Below.drew hcl.out)⟩)
    (first
      | (go_at_call 147; with_reducible refine (cF _).mono ?_; rintro e w' ⟨rfl, hq⟩)
      | (go_at_call 146; with_reducible refine (cO _).mono ?_; rintro e w' ⟨rfl, hq⟩))
  rename_i hS
  have hcl2 := hS.2.2.2.2.2.2.2.2.out
  clear hS
  go_wp2_with fail
  go_ret
  exact ⟨ret_int (by rw [hE.out]; rfl), hcl2⟩
end Go.Proofs.YtoeoodiifpoomaaGreatDoor

/- The walk of the document's Check, where the fields fit. (Printed by wip/tools/gen_rcheck.py.) -/
set_option linter.unusedSimpArgs false
set_option linter.unusedVariables false
set_option maxRecDepth 20000
namespace Go.Proofs.YtoeoodiifpoomaaGreatDoor
open Go.RowKit Moi
attribute [local go_sem] toList_str str_size less_ltB store_float
set_option maxHeartbeats 8000000 in
theorem rcheck_low (r : MRec) (k : Nat) (hk : r.kind = (k : Int)) (h1 : 1 ≤ k ∧ k ≤ 9) (A : Option Addr) (n c : Nat) (hn : Hid (r.list.length = n)) (hr : r.real < 18446744073709551616) (hB : bareB r (shapeOf r.kind) = true) (h8 : k < 8) (w : World) :
    Calls Tryz.prog 109 #[recVal r A n c] w fun e w' => e = .returned (.int .i64 (checkRec r : Nat)) ∧ Cln w w' := by
  have hE : Hid (checkRec r = if k = 1 ∧ 64 < r.text.length then 3 else if k = 4 ∧ (r.low < -2305843009213693952 ∨ 2305843009213693952 < r.high ∨ r.num < r.low ∨ r.high < r.num) then 1 else if fproper r.real = false then 4 else 0) := by
    have ht : ¬ k = 1 → r.text.length = 0 := fun h => by
      unfold bareB shapeOf at hB; rw [hk] at hB
      have : ¬ ((k : Int) = 1) := by omega
      simp [this] at hB
      rw [hB.1.1.1.1]; rfl
    unfold Hid checkRec; rw [if_neg (by omega), if_neg (by rw [hB]; simp), hk]
    by_cases hx : k = 1
    · subst hx; simp
    · have := ht hx
      have h64 : ¬ 64 < r.text.length := by omega
      have e4 : ((k : Int) = 4) = (k = 4) := by rw [eq_iff_iff]; omega
      have e8 : ((k : Int) < 8) := by omega
      simp only [h64, hx, e4, e8, if_true, if_false, false_and]
  have cO : ∀ W : World, Calls Tryz.prog 146 #[.agg #[.int .i64 (k : Int), .int .i64 r.num, .int .i64 r.low, .int .i64 r.high, .float .f64 r.real, .int .i64 r.cap, .string (str r.text), .slice A n c], .string (str (fieldsOf (k : Int)))] W fun e w' => e = .returned (.bool true) ∧ Cln W w' := fun W => by
    have h := only_kind r k hk h1 A n c hn hr W
    rw [hB] at h; unfold recVal at h; rw [hk] at h; exact h
  have cF : ∀ W : World, Calls Tryz.prog 147 #[.int .i64 (k : Int)] W fun e w' => e = .returned (.string (str (fieldsOf (k : Int)))) ∧ Cln W w' := fun W => fields_any k (by omega) W
  have t1 : decide ((k : Int) < 1) = false := decide_eq_false (by omega)
  have t2 : decide (9 < (k : Int)) = false := decide_eq_false (by omega)
  have hb0 := Blk.new w 83 #[.int .i64 (k : Int), .int .i64 r.num, .int .i64 r.low, .int .i64 r.high, .float .f64 r.real, .int .i64 r.cap, .string (str r.text), .slice A n c]
  have hcl : Hid (Cln w (w.alloc (.cells #[.int .i64 (k : Int), .int .i64 r.num, .int .i64 r.low, .int .i64 r.high, .float .f64 r.real, .int .i64 r.cap, .string (str r.text), .slice A n c] 83))) := by unfold Hid; (repeat (first | (with_reducible exact Below.refl _ _) | (with_reducible assumption) | (with_reducible refine Below.setCell ?_ (by first | omega | (simp; done) | (simp; omega)) _) | (with_reducible refine Below.alloc ?_ (by first | omega | (simp; done) | (simp; omega)) _) | (with_reducible refine Below.drew ?_) | (with_reducible refine below_drewN ?_ _)))
  have hk' := Lib.hid hk
  have h1' := Lib.hid h1
  have h8' := Lib.hid h8
  clear hB hk h1
  unfold recVal
  rw [hk'.out]
  have g0 := hb0.cell 0; have g1 := hb0.cell 1; have g2 := hb0.cell 2; have g3 := hb0.cell 3; have g4 := hb0.cell 4; have g5 := hb0.cell 5; have g6 := hb0.cell 6; have g7 := hb0.cell 7
  go_enter Tryz.func109, Tryz.ntmps109
  go_wp2_with fail
  go_region_held3 (fun W => W.cell? ⟨w.heap.size, 0, none⟩ = some (.int .i64 (k : Int)) ∧ W.cell? ⟨w.heap.size, 1, none⟩ = some (.int .i64 r.num) ∧ W.cell? ⟨w.heap.size, 2, none⟩ = some (.int .i64 r.low) ∧ W.cell? ⟨w.heap.size, 3, none⟩ = some (.int .i64 r.high) ∧ W.cell? ⟨w.heap.size, 4, none⟩ = some (.float .f64 r.real) ∧ W.cell? ⟨w.heap.size, 5, none⟩ = some (.int .i64 r.cap) ∧ W.cell? ⟨w.heap.size, 6, none⟩ = some (.string (str r.text)) ∧ W.cell? ⟨w.heap.size, 7, none⟩ = some (.slice A n c) ∧ Hid (Cln w W))
    (first | exact recKeep hq (by assumption) | exact ⟨g0, g1, g2, g3, g4, g5, g6, g7, Lib.hid (Below.drew hcl.out)⟩)
    (first
      | (go_at_call 147; with_reducible refine (cF _).mono ?_; rintro e w' ⟨rfl, hq⟩)
      | (go_at_call 146; with_reducible refine (cO _).mono ?_; rintro e w' ⟨rfl, hq⟩))
  rename_i hS
  have f0 := hS.1; have f1 := hS.2.1; have f2 := hS.2.2.1; have f3 := hS.2.2.2.1; have f4 := hS.2.2.2.2.1; have f5 := hS.2.2.2.2.2.1; have f6 := hS.2.2.2.2.2.2.1; have f7 := hS.2.2.2.2.2.2.2.1
  have hcl2 := hS.2.2.2.2.2.2.2.2
  clear hS g0 g1 g2 g3 g4 g5 g6 g7 hb0
  have hbk : (k : Int) < 8 := by omega
  clear h8
  go_wp2_with ((go_at_call 108; refine (rproper_any _ hr _).mono ?_; rintro e w' ⟨rfl, rfl⟩))
  all_goals
    go_ret
    refine ⟨ret_int ?_, hcl2.out⟩
    rw [hE.out]
    (repeat' split) <;> first | rfl | omega | (simp_all; done) | (exfalso; simp_all; omega)
set_option maxHeartbeats 8000000 in
theorem rcheck_list (r : MRec) (k : Nat) (hk : r.kind = (k : Int)) (h1 : 1 ≤ k ∧ k ≤ 9) (A : Option Addr) (n c : Nat) (hn : Hid (r.list.length = n)) (hr : r.real < 18446744073709551616) (hB : bareB r (shapeOf r.kind) = true) (h8 : k = 8 ∨ k = 9) (hbn : n ≤ 140737488355328) (w : World) (hit : RdItems w A n r.list) :
    Calls Tryz.prog 109 #[recVal r A n c] w fun e w' => e = .returned (.int .i64 (checkRec r : Nat)) ∧ Cln w w' := by
  have hE : Hid (checkRec r = if fproper r.real = false then 4 else if r.cap < 1 ∨ 32 < r.cap then 1 else if r.cap < (n : Int) then 8 else itemsErr (k : Int) none r.list) := by
    have ht : r.text.length = 0 := by
      unfold bareB shapeOf at hB; rw [hk] at hB
      have : ¬ ((k : Int) = 1) := by omega
      simp [this] at hB
      rw [hB.1.1.1.1]; rfl
    have h64 : ¬ 64 < r.text.length := by omega
    have e4 : ¬ ((k : Int) = 4) := by omega
    have e8 : ¬ ((k : Int) < 8) := by omega
    unfold Hid checkRec; rw [if_neg (by omega), if_neg (by rw [hB]; simp), hk, hn.out]
    simp only [h64, e4, e8, if_false, false_and]
  have q1 : ((k : Int) == 1) = false := by rw [beq_eq_false_iff_ne]; omega
  have q4 : ((k : Int) == 4) = false := by rw [beq_eq_false_iff_ne]; omega
  have q8 : decide ((k : Int) < 8) = false := decide_eq_false (by omega)
  have hbi : n ≤ 140737488355328 := hbn
  have cO : ∀ W : World, Calls Tryz.prog 146 #[.agg #[.int .i64 (k : Int), .int .i64 r.num, .int .i64 r.low, .int .i64 r.high, .float .f64 r.real, .int .i64 r.cap, .string (str r.text), .slice A n c], .string (str (fieldsOf (k : Int)))] W fun e w' => e = .returned (.bool true) ∧ Cln W w' := fun W => by
    have h := only_kind r k hk h1 A n c hn hr W
    rw [hB] at h; unfold recVal at h; rw [hk] at h; exact h
  have cF : ∀ W : World, Calls Tryz.prog 147 #[.int .i64 (k : Int)] W fun e w' => e = .returned (.string (str (fieldsOf (k : Int)))) ∧ Cln W w' := fun W => fields_any k (by omega) W
  have t1 : decide ((k : Int) < 1) = false := decide_eq_false (by omega)
  have t2 : decide (9 < (k : Int)) = false := decide_eq_false (by omega)
  have hb0 := Blk.new w 83 #[.int .i64 (k : Int), .int .i64 r.num, .int .i64 r.low, .int .i64 r.high, .float .f64 r.real, .int .i64 r.cap, .string (str r.text), .slice A n c]
  have hcl : Hid (Cln w (w.alloc (.cells #[.int .i64 (k : Int), .int .i64 r.num, .int .i64 r.low, .int .i64 r.high, .float .f64 r.real, .int .i64 r.cap, .string (str r.text), .slice A n c] 83))) := by unfold Hid; (repeat (first | (with_reducible exact Below.refl _ _) | (with_reducible assumption) | (with_reducible refine Below.setCell ?_ (by first | omega | (simp; done) | (simp; omega)) _) | (with_reducible refine Below.alloc ?_ (by first | omega | (simp; done) | (simp; omega)) _) | (with_reducible refine Below.drew ?_) | (with_reducible refine below_drewN ?_ _)))
  have hk' := Lib.hid hk
  have h1' := Lib.hid h1
  have h8' := Lib.hid h8
  clear hB hk h1 h8 hbn
  unfold recVal
  rw [hk'.out]
  have g0 := hb0.cell 0; have g1 := hb0.cell 1; have g2 := hb0.cell 2; have g3 := hb0.cell 3; have g4 := hb0.cell 4; have g5 := hb0.cell 5; have g6 := hb0.cell 6; have g7 := hb0.cell 7
  go_enter Tryz.func109, Tryz.ntmps109
  go_wp2_with fail
  go_region_held3 (fun W => W.cell? ⟨w.heap.size, 0, none⟩ = some (.int .i64 (k : Int)) ∧ W.cell? ⟨w.heap.size, 1, none⟩ = some (.int .i64 r.num) ∧ W.cell? ⟨w.heap.size, 2, none⟩ = some (.int .i64 r.low) ∧ W.cell? ⟨w.heap.size, 3, none⟩ = some (.int .i64 r.high) ∧ W.cell? ⟨w.heap.size, 4, none⟩ = some (.float .f64 r.real) ∧ W.cell? ⟨w.heap.size, 5, none⟩ = some (.int .i64 r.cap) ∧ W.cell? ⟨w.heap.size, 6, none⟩ = some (.string (str r.text)) ∧ W.cell? ⟨w.heap.size, 7, none⟩ = some (.slice A n c) ∧ Hid (Cln w W))
    (first | exact recKeep hq (by assumption) | exact ⟨g0, g1, g2, g3, g4, g5, g6, g7, Lib.hid (Below.drew hcl.out)⟩)
    (first
      | (go_at_call 147; with_reducible refine (cF _).mono ?_; rintro e w' ⟨rfl, hq⟩)
      | (go_at_call 146; with_reducible refine (cO _).mono ?_; rintro e w' ⟨rfl, hq⟩))
  rename_i W1 hS
  have f0 := hS.1; have f1 := hS.2.1; have f2 := hS.2.2.1; have f3 := hS.2.2.2.1; have f4 := hS.2.2.2.2.1; have f5 := hS.2.2.2.2.2.1; have f6 := hS.2.2.2.2.2.2.1; have f7 := hS.2.2.2.2.2.2.2.1
  have hcl2 := hS.2.2.2.2.2.2.2.2
  have hS' := Lib.hid hS
  clear hS g0 g1 g2 g3 g4 g5 g6 g7 hb0
  cases hP : fproper r.real with
  | false =>
    have hF : Hid (checkRec r = 4) := by unfold Hid; rw [hE.out, if_pos hP]
    clear hE
    go_wp2_with ((go_at_call 108; refine (rproper_any _ hr _).mono ?_; rintro e w' ⟨rfl, rfl⟩))
    go_ret
    exact ⟨ret_int (by rw [hF.out]; rfl), hcl2.out⟩
  | true =>
  by_cases hc1 : r.cap < 1
  · have hF : Hid (checkRec r = 1) := by unfold Hid; rw [hE.out, if_neg (by rw [hP]; simp), if_pos (.inl hc1)]
    have d1 : decide (r.cap < 1) = true := decide_eq_true hc1
    clear hE hc1
    go_wp2_with ((go_at_call 108; refine (rproper_any _ hr _).mono ?_; rintro e w' ⟨rfl, rfl⟩))
    go_ret
    exact ⟨ret_int (by rw [hF.out]; rfl), hcl2.out⟩
  have d1 : decide (r.cap < 1) = false := decide_eq_false hc1
  by_cases hc2 : 32 < r.cap
  · have hF : Hid (checkRec r = 1) := by unfold Hid; rw [hE.out, if_neg (by rw [hP]; simp), if_pos (.inr hc2)]
    have d2 : decide (32 < r.cap) = true := decide_eq_true hc2
    clear hE hc1 hc2
    go_wp2_with ((go_at_call 108; refine (rproper_any _ hr _).mono ?_; rintro e w' ⟨rfl, rfl⟩))
    go_ret
    exact ⟨ret_int (by rw [hF.out]; rfl), hcl2.out⟩
  have d2 : decide (32 < r.cap) = false := decide_eq_false hc2
  by_cases hc3 : r.cap < (n : Int)
  · have hF : Hid (checkRec r = 8) := by unfold Hid; rw [hE.out, if_neg (by rw [hP]; simp), if_neg (by omega), if_pos hc3]
    have d3 : decide (r.cap < (n : Int)) = true := decide_eq_true hc3
    clear hE hc1 hc2 hc3
    go_wp2_with ((go_at_call 108; refine (rproper_any _ hr _).mono ?_; rintro e w' ⟨rfl, rfl⟩))
    go_ret
    exact ⟨ret_int (by rw [hF.out]; rfl), hcl2.out⟩
  have d3 : decide (r.cap < (n : Int)) = false := decide_eq_false hc3
  have hF : Hid (checkRec r = itemsErr (k : Int) none r.list) := by unfold Hid; rw [hE.out, if_neg (by rw [hP]; simp), if_neg (by omega), if_neg hc3]
  clear hE hc1 hc2 hc3
  go_wp2_with ((go_at_call 108; refine (rproper_any _ hr _).mono ?_; rintro e w' ⟨rfl, rfl⟩))
  clear f0 f1 f2 f3 f4 f5 f6 f7 hcl2
  go_loopw [4] (fun v wr => ∃ i : Nat, i ≤ n ∧ v = .int .i64 (i : Nat) ∧ Hid (wr.cell? ⟨w.heap.size, 0, none⟩ = some (.int .i64 (k : Int)) ∧ wr.cell? ⟨w.heap.size, 1, none⟩ = some (.int .i64 r.num) ∧ wr.cell? ⟨w.heap.size, 2, none⟩ = some (.int .i64 r.low) ∧ wr.cell? ⟨w.heap.size, 3, none⟩ = some (.int .i64 r.high) ∧ wr.cell? ⟨w.heap.size, 4, none⟩ = some (.float .f64 r.real) ∧ wr.cell? ⟨w.heap.size, 5, none⟩ = some (.int .i64 r.cap) ∧ wr.cell? ⟨w.heap.size, 6, none⟩ = some (.string (str r.text)) ∧ wr.cell? ⟨w.heap.size, 7, none⟩ = some (.slice A n c) ∧ Hid (Cln w wr)) ∧ Hid (checkRec r = itemsErr (k : Int) (prevOf r.list i) (r.list.drop i))) (fun v _ => (n - intOf v).toNat)
  case atStart => exact ⟨0, Nat.zero_le _, rfl, hS', hF⟩
  case round =>
    obtain ⟨i, hi, rfl, hS, hH⟩ := hrel
    clear hS' hF
    have hclR := hS.out.2.2.2.2.2.2.2.2
    have hitr := hit.cln hclR.out
    have f0 := hS.out.1; have f7 := hS.out.2.2.2.2.2.2.2.1
    by_cases hlt : i < n
    · have hstep := Lib.hid (hH.out.trans (itemsErr_step (k : Int) r.list i (by rw [hn.out]; exact hlt)))
      clear hH
      have cI := item_any (k : Int) r.list A n c i wr hitr hbi hlt
      generalize hq : itemErr (k : Int) (prevOf r.list i) (itAt r.list i) = q at hstep cI
      clear hq
      by_cases hq0 : q = 0
      · subst hq0
        have hH2 : Hid (checkRec r = itemsErr (k : Int) (prevOf r.list (i + 1)) (r.list.drop (i + 1))) := by unfold Hid; rw [hstep.out, if_pos rfl]
        clear hstep
        go_wp2_with fail
        refine cI.mono ?_; rintro e w2 ⟨rfl, hq⟩
        have hS2 := Lib.hid (recKeep hq hS.out)
        clear cI hq f0 f7 hitr
        go_wp2_with fail
        go_roundw
        case rel => exact ⟨i + 1, hlt, by go_num, hS2, hH2⟩
        case measure => simp [intOf]; omega
      · have hH2 : Hid (checkRec r = q) := by unfold Hid; rw [hstep.out, if_neg hq0]
        have z1 : (((q : Nat) : Int) == 0) = false := by rw [beq_eq_false_iff_ne]; omega
        have z2 : ¬ ((q : Nat) : Int) = 0 := by omega
        clear hstep
        go_wp2_with fail
        refine cI.mono ?_; rintro e w2 ⟨rfl, hq⟩
        have hS2 := recKeep hq hS.out
        have hcl3 := hS2.2.2.2.2.2.2.2.2
        clear cI hq f0 f7 hitr hS2
        go_wp2_with fail
        go_ret
        exact ⟨ret_int (by rw [hH2.out]), hcl3.out⟩
    · obtain rfl : i = n := by omega
      have t3 : decide ((i : Int) < (i : Int)) = false := decide_eq_false (by omega)
      have hH2 : Hid (checkRec r = 0) := by unfold Hid; rw [hH.out, List.drop_of_length_le (by rw [hn.out]; exact Nat.le_refl _)]; rfl
      clear hH
      go_wp2_with fail
      go_ret
      exact ⟨ret_int (by rw [hH2.out]; rfl), hclR.out⟩
theorem rcheck_any (r : MRec) (A : Option Addr) (n c : Nat) (hb : n ≤ 140737488355328) (hf : r.WF) (w : World) (hr : RdItems w A n r.list) :
    Calls Tryz.prog 109 #[recVal r A n c] w fun e w' => e = .returned (.int .i64 (checkRec r : Nat)) ∧ Cln w w' := by
  by_cases hk : r.kind < 1 ∨ 9 < r.kind
  · exact rcheck_bad r A n c hk w
  · obtain ⟨k, hk2⟩ : ∃ k : Nat, r.kind = (k : Int) := ⟨r.kind.toNat, by omega⟩
    have h1 : 1 ≤ k ∧ k ≤ 9 := by omega
    cases hB : bareB r (shapeOf r.kind) with
    | false => exact rcheck_bare r k hk2 h1 A n c hr.len hf.real hB w
    | true =>
      by_cases h8 : k < 8
      · exact rcheck_low r k hk2 h1 A n c hr.len hf.real hB h8 w
      · exact rcheck_list r k hk2 h1 A n c hr.len hf.real hB (by omega) hb w hr
end Go.Proofs.YtoeoodiifpoomaaGreatDoor
