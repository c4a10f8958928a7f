/- The law LotChecks. (Printed by wip/tools/gen_llotc.py.) -/
import Derived.Test.YtoeoodiifpoomaaGreatDoorLSps
import Derived.Test.YtoeoodiifpoomaaGreatDoorWLot3
import Derived.Deep.RegionHeld3
set_option linter.unusedSimpArgs false
set_option linter.unusedVariables false
set_option maxRecDepth 20000
namespace Go.Proofs.YtoeoodiifpoomaaGreatDoor
open Go.RowKit Moi
attribute [local go_sem] toList_str str_size less_ltB store_float
theorem heldKeep4 {w W W' : World} {p0 p1 p2 p3 : Addr} {v0 v1 v2 v3 : Value} (hq : Cln W W')
    (h : W.cell? p0 = some v0 ∧ W.cell? p1 = some v1 ∧ W.cell? p2 = some v2 ∧ W.cell? p3 = some v3 ∧ Hid (Cln w W)) :
    W'.cell? p0 = some v0 ∧ W'.cell? p1 = some v1 ∧ W'.cell? p2 = some v2 ∧ W'.cell? p3 = some v3 ∧ Hid (Cln w W') := by
  have k := Kept.of_below (S := fun _ => False) hq
  obtain ⟨h0, h1, h2, h3, h6⟩ := h
  exact ⟨k.cell h0 id, k.cell h1 id, k.cell h2 id, k.cell h3 id, Lib.hid (cln_trans h6.out hq)⟩
set_option maxHeartbeats 8000000 in
theorem lLotChecks (a b : MLot) (A B : Option Addr) (n c k d : Nat) (w : World) (hK : KindsAt w) (hr : RdDeals w A n a.deals) (hs : RdDeals w B k b.deals) :
    Calls Tryz.prog 3 #[.agg #[.int .i64 a.num, .slice A n c], .agg #[.int .i64 b.num, .slice B k d]] w fun e w' => e = .returned (.bool true) ∧ Cln w w' := by
  have hn : Hid (a.deals.length = n) := hr.len
  have hb0 := (Blk.new w 24 #[.int .i64 a.num, .slice A n c]).alloc (.cells #[.int .i64 b.num, .slice B k d] 24)
  have hb1 := Blk.new (w.alloc (.cells #[.int .i64 a.num, .slice A n c] 24)) 24 #[.int .i64 b.num, .slice B k d]
  rw [World.size_alloc] at hb1
  have hcl : Cln w ((w.alloc (.cells #[.int .i64 a.num, .slice A n c] 24)).alloc (.cells #[.int .i64 b.num, .slice B k d] 24)) := by (repeat (first | (with_reducible exact Below.refl _ _) | (with_reducible assumption) | (with_reducible refine Below.setCell ?_ (by first | omega | (simp; done) | (simp; omega)) _) | (with_reducible refine Below.alloc ?_ (by first | omega | (simp; done) | (simp; omega)) _) | (with_reducible refine Below.drew ?_) | (with_reducible refine below_drewN ?_ _)))
  have cSp := speaks_lot _ (hK.cln hcl)
  go_enter Tryz.func3, Tryz.ntmps3
  go_wp2_with fail
  refine cSp.mono ?_; rintro e w1 ⟨rfl, hq⟩
  clear cSp
  have hA1 := Lib.hid (hb0.cln hq); have hB1 := Lib.hid (hb1.cln hq)
  have hcl1 := Lib.hid (cln_trans hcl hq)
  have hr1 := Lib.hid (hr.cln hcl1.out); have hs1 := Lib.hid (hs.cln hcl1.out)
  have hK1 := Lib.hid (hK.cln hcl1.out)
  clear hb0 hb1 hcl hq hr hs hK
  have hcur : Hid (Cln w1 w1) := Below.refl _ _
  have cGa : ∀ W : World, (W.cell? ⟨w.heap.size, 0, none⟩ = some (.int .i64 a.num) ∧ W.cell? ⟨w.heap.size, 1, none⟩ = some (.slice A n c) ∧ W.cell? ⟨w.heap.size + 1, 0, none⟩ = some (.int .i64 b.num) ∧ W.cell? ⟨w.heap.size + 1, 1, none⟩ = some (.slice B k d) ∧ Hid (Cln w1 W)) → Calls Tryz.prog 14 #[.slice A n c] W fun e w' => e = .returned (.int .i64 (bigNL a.deals)) ∧ Cln W w' := fun W h => bigL_any a.deals A n c W (hr1.out.cln h.2.2.2.2.out)
  have cGb : ∀ W : World, (W.cell? ⟨w.heap.size, 0, none⟩ = some (.int .i64 a.num) ∧ W.cell? ⟨w.heap.size, 1, none⟩ = some (.slice A n c) ∧ W.cell? ⟨w.heap.size + 1, 0, none⟩ = some (.int .i64 b.num) ∧ W.cell? ⟨w.heap.size + 1, 1, none⟩ = some (.slice B k d) ∧ Hid (Cln w1 W)) → Calls Tryz.prog 14 #[.slice B k d] W fun e w' => e = .returned (.int .i64 (bigNL b.deals)) ∧ Cln W w' := fun W h => bigL_any b.deals B k d W (hs1.out.cln h.2.2.2.2.out)
  go_wp2_with fail
  rcases bigL_or a.deals with ha0 | ha0
  · rcases bigL_or b.deals with hb0 | hb0
    · have hma := bigL_mod ha0; have hmb := bigL_mod hb0
      have hn1 : n ≤ 140737488355328 := by have := (bigL_le ha0).1; rw [hn.out] at this; omega
      have cR : ∀ W : World, (W.cell? ⟨w.heap.size, 0, none⟩ = some (.int .i64 a.num) ∧ W.cell? ⟨w.heap.size, 1, none⟩ = some (.slice A n c) ∧ W.cell? ⟨w.heap.size + 1, 0, none⟩ = some (.int .i64 b.num) ∧ W.cell? ⟨w.heap.size + 1, 1, none⟩ = some (.slice B k d) ∧ Hid (Cln w1 W)) → Calls Tryz.prog 18 #[.agg #[.int .i64 a.num, .slice A n c], .agg #[.int .i64 b.num, .slice B k d]] W fun e w' => e = .returned (.bool (sameLot a b)) ∧ Cln W w' := fun W h => rlsame_any a b A B n c k d hma hmb hn1 W (hr1.out.cln h.2.2.2.2.out) (hs1.out.cln h.2.2.2.2.out)
      have cAB : ∀ W : World, (W.cell? ⟨w.heap.size, 0, none⟩ = some (.int .i64 a.num) ∧ W.cell? ⟨w.heap.size, 1, none⟩ = some (.slice A n c) ∧ W.cell? ⟨w.heap.size + 1, 0, none⟩ = some (.int .i64 b.num) ∧ W.cell? ⟨w.heap.size + 1, 1, none⟩ = some (.slice B k d) ∧ Hid (Cln w1 W)) → Calls Tryz.prog 17 #[.agg #[.int .i64 a.num, .slice A n c], .agg #[.int .i64 b.num, .slice B k d]] W fun e w' => e = .returned (.bool (sameLot a b)) ∧ Cln W w' := fun W h => lsame_any a b A B n c k d hma hmb hn1 W (hr1.out.cln h.2.2.2.2.out) (hs1.out.cln h.2.2.2.2.out)
      have cAA : ∀ W : World, (W.cell? ⟨w.heap.size, 0, none⟩ = some (.int .i64 a.num) ∧ W.cell? ⟨w.heap.size, 1, none⟩ = some (.slice A n c) ∧ W.cell? ⟨w.heap.size + 1, 0, none⟩ = some (.int .i64 b.num) ∧ W.cell? ⟨w.heap.size + 1, 1, none⟩ = some (.slice B k d) ∧ Hid (Cln w1 W)) → Calls Tryz.prog 17 #[.agg #[.int .i64 a.num, .slice A n c], .agg #[.int .i64 a.num, .slice A n c]] W fun e w' => e = .returned (.bool true) ∧ Cln W w' := fun W h => by
        have := lsame_any a a A A n c n c hma hma hn1 W (hr1.out.cln h.2.2.2.2.out) (hr1.out.cln h.2.2.2.2.out)
        rw [sameLot_refl] at this
        exact this
      have cC : ∀ W, Cln w1 W → Calls Tryz.prog 15 #[.agg #[.int .i64 a.num, .slice A n c]] W fun e w' => e = .returned (.tuple #[.int .i64 ((checkLot a).1 : Nat), .int .i64 ((checkLot a).2 : Nat)]) ∧ Cln W w' := fun W h => lcheck_any a A n c hma W (hK1.out.cln h) (hr1.out.cln h)
      have cRC : ∀ W, Cln w1 W → Calls Tryz.prog 16 #[.agg #[.int .i64 a.num, .slice A n c]] W fun e w' => e = .returned (.tuple #[.int .i64 ((checkLot a).1 : Nat), .int .i64 ((checkLot a).2 : Nat)]) ∧ Cln W w' := fun W h => rlcheck_any a A n c hma W (hK1.out.cln h) (hr1.out.cln h)
      generalize sameLot a b = s at cR cAB
      generalize (checkLot a).1 = e1 at cC cRC
      generalize (checkLot a).2 = e2 at cC cRC
      have tE1 : (((e1 : Nat) : Int) == ((e1 : Nat) : Int)) = true := beq_self_eq_true _
      have tE2 : (((e2 : Nat) : Int) == ((e2 : Nat) : Int)) = true := beq_self_eq_true _
      have tS : (s == s) = true := beq_self_eq_true _
      rw [ha0] at cGa; rw [hb0] at cGb
      clear ha0 hb0 hma hmb hn1
      have g0 := (hA1.out.cln hcur.out).cell 0; have g1 := (hA1.out.cln hcur.out).cell 1; have k0 := (hB1.out.cln hcur.out).cell 0; have k1 := (hB1.out.cln hcur.out).cell 1
      have hcurD := Lib.hid (cln_trans hcur.out (Below.drew (Below.refl _ _)))
      clear hcur
      go_region_held3 (fun W => W.cell? ⟨w.heap.size, 0, none⟩ = some (.int .i64 a.num) ∧ W.cell? ⟨w.heap.size, 1, none⟩ = some (.slice A n c) ∧ W.cell? ⟨w.heap.size + 1, 0, none⟩ = some (.int .i64 b.num) ∧ W.cell? ⟨w.heap.size + 1, 1, none⟩ = some (.slice B k d) ∧ Hid (Cln w1 W))
        (first | exact heldKeep4 hq (by assumption) | exact ⟨g0, g1, k0, k1, hcurD⟩)
        (first
          | (go_at_call 14; with_reducible refine (cGa _ (by assumption)).mono ?_; rintro e w' ⟨rfl, hq⟩)
          | (go_at_call 14; with_reducible refine (cGb _ (by assumption)).mono ?_; rintro e w' ⟨rfl, hq⟩))
      rename_i hS
      have hcur := Lib.hid hS.2.2.2.2.out
      clear hS hcurD g0 g1 k0 k1
      clear cGa cGb
      have g0 := (hA1.out.cln hcur.out).cell; have l0 := (hA1.out.cln hcur.out).lt
      go_wp2_with fail
      refine (cC _ hcur.out).mono ?_; rintro e w2 ⟨rfl, hq⟩
      replace hcur := Lib.hid (cln_trans hcur.out hq)
      clear hq g0 l0
      have g0 := (hA1.out.cln hcur.out).cell; have l0 := (hA1.out.cln hcur.out).lt
      go_wp2_with fail
      refine (cRC _ hcur.out).mono ?_; rintro e w3 ⟨rfl, hq⟩
      replace hcur := Lib.hid (cln_trans hcur.out hq)
      clear hq g0 l0 cC cRC
      go_wp2_with fail
      have g0 := (hA1.out.cln hcur.out).cell 0; have g1 := (hA1.out.cln hcur.out).cell 1; have k0 := (hB1.out.cln hcur.out).cell 0; have k1 := (hB1.out.cln hcur.out).cell 1
      have hcurD := Lib.hid (cln_trans hcur.out (Below.drew (Below.refl _ _)))
      clear hcur
      go_region_held3 (fun W => W.cell? ⟨w.heap.size, 0, none⟩ = some (.int .i64 a.num) ∧ W.cell? ⟨w.heap.size, 1, none⟩ = some (.slice A n c) ∧ W.cell? ⟨w.heap.size + 1, 0, none⟩ = some (.int .i64 b.num) ∧ W.cell? ⟨w.heap.size + 1, 1, none⟩ = some (.slice B k d) ∧ Hid (Cln w1 W))
        (first | exact heldKeep4 hq (by assumption) | exact ⟨g0, g1, k0, k1, hcurD⟩)
        (first
          | (go_at_call 17; with_reducible refine (cAB _ (by assumption)).mono ?_; rintro e w' ⟨rfl, hq⟩)
          | (go_at_call 18; with_reducible refine (cR _ (by assumption)).mono ?_; rintro e w' ⟨rfl, hq⟩)
          | (go_at_call 17; with_reducible refine (cAA _ (by assumption)).mono ?_; rintro e w' ⟨rfl, hq⟩))
      rename_i hS
      have hcur := Lib.hid hS.2.2.2.2.out
      clear hS hcurD g0 g1 k0 k1
      go_wp2_with fail
      go_ret
      exact ⟨rfl, cln_trans hcl1.out hcur.out⟩
    · rw [ha0] at cGa; rw [hb0] at cGb
      clear ha0 hb0
      have g0 := (hA1.out.cln hcur.out).cell 0; have g1 := (hA1.out.cln hcur.out).cell 1; have k0 := (hB1.out.cln hcur.out).cell 0; have k1 := (hB1.out.cln hcur.out).cell 1
      have hcurD := Lib.hid (cln_trans hcur.out (Below.drew (Below.refl _ _)))
      clear hcur
      go_region_held3 (fun W => W.cell? ⟨w.heap.size, 0, none⟩ = some (.int .i64 a.num) ∧ W.cell? ⟨w.heap.size, 1, none⟩ = some (.slice A n c) ∧ W.cell? ⟨w.heap.size + 1, 0, none⟩ = some (.int .i64 b.num) ∧ W.cell? ⟨w.heap.size + 1, 1, none⟩ = some (.slice B k d) ∧ Hid (Cln w1 W))
        (first | exact heldKeep4 hq (by assumption) | exact ⟨g0, g1, k0, k1, hcurD⟩)
        (first
          | (go_at_call 14; with_reducible refine (cGa _ (by assumption)).mono ?_; rintro e w' ⟨rfl, hq⟩)
          | (go_at_call 14; with_reducible refine (cGb _ (by assumption)).mono ?_; rintro e w' ⟨rfl, hq⟩))
      rename_i hS
      have hcur := Lib.hid hS.2.2.2.2.out
      clear hS hcurD g0 g1 k0 k1
      go_wp2_with fail
      go_ret
      exact ⟨rfl, cln_trans hcl1.out hcur.out⟩
  · rcases bigL_or b.deals with hb0 | hb0
    · rw [ha0] at cGa; rw [hb0] at cGb
      clear ha0 hb0
      have g0 := (hA1.out.cln hcur.out).cell 0; have g1 := (hA1.out.cln hcur.out).cell 1; have k0 := (hB1.out.cln hcur.out).cell 0; have k1 := (hB1.out.cln hcur.out).cell 1
      have hcurD := Lib.hid (cln_trans hcur.out (Below.drew (Below.refl _ _)))
      clear hcur
      go_region_held3 (fun W => W.cell? ⟨w.heap.size, 0, none⟩ = some (.int .i64 a.num) ∧ W.cell? ⟨w.heap.size, 1, none⟩ = some (.slice A n c) ∧ W.cell? ⟨w.heap.size + 1, 0, none⟩ = some (.int .i64 b.num) ∧ W.cell? ⟨w.heap.size + 1, 1, none⟩ = some (.slice B k d) ∧ Hid (Cln w1 W))
        (first | exact heldKeep4 hq (by assumption) | exact ⟨g0, g1, k0, k1, hcurD⟩)
        (first
          | (go_at_call 14; with_reducible refine (cGa _ (by assumption)).mono ?_; rintro e w' ⟨rfl, hq⟩)
          | (go_at_call 14; with_reducible refine (cGb _ (by assumption)).mono ?_; rintro e w' ⟨rfl, hq⟩))
      rename_i hS
      have hcur := Lib.hid hS.2.2.2.2.out
      clear hS hcurD g0 g1 k0 k1
      go_wp2_with fail
      go_ret
      exact ⟨rfl, cln_trans hcl1.out hcur.out⟩
    · rw [ha0] at cGa; rw [hb0] at cGb
      clear ha0 hb0
      have g0 := (hA1.out.cln hcur.out).cell 0; have g1 := (hA1.out.cln hcur.out).cell 1; have k0 := (hB1.out.cln hcur.out).cell 0; have k1 := (hB1.out.cln hcur.out).cell 1
      have hcurD := Lib.hid (cln_trans hcur.out (Below.drew (Below.refl _ _)))
      clear hcur
      go_region_held3 (fun W => W.cell? ⟨w.heap.size, 0, none⟩ = some (.int .i64 a.num) ∧ W.cell? ⟨w.heap.size, 1, none⟩ = some (.slice A n c) ∧ W.cell? ⟨w.heap.size + 1, 0, none⟩ = some (.int .i64 b.num) ∧ W.cell? ⟨w.heap.size + 1, 1, none⟩ = some (.slice B k d) ∧ Hid (Cln w1 W))
        (first | exact heldKeep4 hq (by assumption) | exact ⟨g0, g1, k0, k1, hcurD⟩)
        (first
          | (go_at_call 14; with_reducible refine (cGa _ (by assumption)).mono ?_; rintro e w' ⟨rfl, hq⟩)
          | (go_at_call 14; with_reducible refine (cGb _ (by assumption)).mono ?_; rintro e w' ⟨rfl, hq⟩))
      rename_i hS
      have hcur := Lib.hid hS.2.2.2.2.out
      clear hS hcurD g0 g1 k0 k1
      go_wp2_with fail
      go_ret
      exact ⟨rfl, cln_trans hcl1.out hcur.out⟩
end Go.Proofs.YtoeoodiifpoomaaGreatDoor
