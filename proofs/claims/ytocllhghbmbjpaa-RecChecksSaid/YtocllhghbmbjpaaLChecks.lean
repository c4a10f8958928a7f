/- The law RecChecks. -/
import Derived.Test.YtocllhghbmbjpaaWSpeaks
import Derived.Test.YtocllhghbmbjpaaWRCheck2
import Derived.Deep.RegionHeld3
set_option linter.unusedSimpArgs false
set_option linter.unusedVariables false
set_option maxRecDepth 20000
namespace Go.Proofs.Ytocllhghbmbjpaa
open Go.RowKit Moi
attribute [local go_sem] toList_str str_size less_ltB store_float

theorem bigN_le (r : MRec) (h : bigN r = 0) : r.list.length ≤ 100 ∧ r.text.length ≤ 1000 := by
  unfold bigN at h
  split at h
  · cases h
  · rename_i hb
    unfold bigRec at hb
    simp at hb
    omega
theorem bigN_or (r : MRec) : bigN r = 0 ∨ bigN r = 1 := by unfold bigN; split <;> simp

set_option maxHeartbeats 8000000 in
theorem lChecks (r : MRec) (A : Option Addr) (n c : Nat) (hf : r.WF) (k : Int) (w : World) (hr : RdItems w A n r.list) :
    Calls Try.prog 3 #[recVal r A n c, .int .i64 k] w fun e w' => e = .returned (.bool true) ∧ Cln w w' := by
  have hn : Hid (r.list.length = n) := hr.len
  have hb0 := Blk.new w 25 #[.int .i64 r.kind, .int .i64 r.num, .int .i64 r.low, .int .i64 r.high, .float .f64 r.real, .int .i64 r.cap, .string (str r.text), .slice A n c]
  have hcl : Cln w (w.alloc (.cells #[.int .i64 r.kind, .int .i64 r.num, .int .i64 r.low, .int .i64 r.high, .float .f64 r.real, .int .i64 r.cap, .string (str r.text), .slice A n c] 25)) := by (repeat (first | (with_reducible exact Below.refl _ _) | (with_reducible assumption) | (with_reducible refine Below.setCell ?_ (by first | omega | (simp; done) | (simp; omega)) _) | (with_reducible refine Below.alloc ?_ (by first | omega | (simp; done) | (simp; omega)) _) | (with_reducible refine Below.drew ?_) | (with_reducible refine below_drewN ?_ _)))
  unfold recVal
  go_enter Try.func3, Try.ntmps3
  go_wp2_with fail
  refine (speaks_any _).mono ?_; rintro e w1 ⟨rfl, hq⟩
  have hb1 := hb0.cln hq
  have hcl1 := cln_trans hcl hq
  have hr1 := hr.cln hcl1
  have hc1 := hb1.cell
  clear hb0 hcl hq hr
  go_wp2_with fail
  refine (big_any r A n c _ hr1).mono ?_; rintro e w2 ⟨rfl, hq⟩
  have hb2 := hb1.cln hq
  have hcl2 := cln_trans hcl1 hq
  have hr2 := hr1.cln hq
  have hlt2 := hb2.lt
  clear hb1 hcl1 hq hr1 hc1
  rcases bigN_or r with hbig | hbig
  case inr =>
    rw [hbig]
    go_wp2_with fail
    go_ret
    exact ⟨rfl, hcl2⟩
  obtain ⟨hn100, _⟩ := bigN_le r hbig
  rw [hn.out] at hn100
  rw [hbig]
  clear hbig
  -- the rest, by program (wip/tools/gen_lchecks.py)
  have cC : ∀ W : World, (W.cell? ⟨w.heap.size, 0, none⟩ = some (.int .i64 r.kind) ∧ W.cell? ⟨w.heap.size, 1, none⟩ = some (.int .i64 r.num) ∧ W.cell? ⟨w.heap.size, 2, none⟩ = some (.int .i64 r.low) ∧ W.cell? ⟨w.heap.size, 3, none⟩ = some (.int .i64 r.high) ∧ W.cell? ⟨w.heap.size, 4, none⟩ = some (.float .f64 r.real) ∧ W.cell? ⟨w.heap.size, 5, none⟩ = some (.int .i64 r.cap) ∧ W.cell? ⟨w.heap.size, 6, none⟩ = some (.string (str r.text)) ∧ W.cell? ⟨w.heap.size, 7, none⟩ = some (.slice A n c) ∧ Hid (Cln w2 W)) → Calls Try.prog 11 #[.agg #[.int .i64 r.kind, .int .i64 r.num, .int .i64 r.low, .int .i64 r.high, .float .f64 r.real, .int .i64 r.cap, .string (str r.text), .slice A n c]] W fun e w' => e = .returned (.int .i64 (checkRec r : Nat)) ∧ Cln W w' := fun W h => check_any r A n c (by omega) hf W (hr2.cln h.2.2.2.2.2.2.2.2.out)
  have cR : ∀ W : World, (W.cell? ⟨w.heap.size, 0, none⟩ = some (.int .i64 r.kind) ∧ W.cell? ⟨w.heap.size, 1, none⟩ = some (.int .i64 r.num) ∧ W.cell? ⟨w.heap.size, 2, none⟩ = some (.int .i64 r.low) ∧ W.cell? ⟨w.heap.size, 3, none⟩ = some (.int .i64 r.high) ∧ W.cell? ⟨w.heap.size, 4, none⟩ = some (.float .f64 r.real) ∧ W.cell? ⟨w.heap.size, 5, none⟩ = some (.int .i64 r.cap) ∧ W.cell? ⟨w.heap.size, 6, none⟩ = some (.string (str r.text)) ∧ W.cell? ⟨w.heap.size, 7, none⟩ = some (.slice A n c) ∧ Hid (Cln w2 W)) → Calls Try.prog 12 #[.agg #[.int .i64 r.kind, .int .i64 r.num, .int .i64 r.low, .int .i64 r.high, .float .f64 r.real, .int .i64 r.cap, .string (str r.text), .slice A n c]] W fun e w' => e = .returned (.int .i64 (checkRec r : Nat)) ∧ Cln W w' := fun W h => rcheck_any r A n c (by omega) hf W (hr2.cln h.2.2.2.2.2.2.2.2.out)
  have g0 := hb2.cell 0; have g1 := hb2.cell 1; have g2 := hb2.cell 2; have g3 := hb2.cell 3; have g4 := hb2.cell 4; have g5 := hb2.cell 5; have g6 := hb2.cell 6; have g7 := hb2.cell 7
  have hcl2' := Lib.hid hcl2
  have hb2' := Lib.hid hb2
  clear hcl2 hb2 hr2 hf
  have hz : ∀ a : Nat, (((a : Nat) : Int) == (a : Int)) = true := fun a => by simp
  have hz' := hz (checkRec r)
  clear hz
  by_cases hk0 : k < 0
  · have hname : Hid (nameOf k = []) := by unfold Hid nameOf; rw [if_pos (.inl (by omega))]
    have d1 : decide (0 ≤ k) = false := decide_eq_false (by omega)
    have made1 : Cln w2 (w2.alloc (.cells #[.string ⟨#[]⟩, .string ⟨#[116, 101, 120, 116]⟩, .string ⟨#[115, 117, 109]⟩, .string ⟨#[99, 111, 117, 110, 116]⟩, .string ⟨#[112, 117, 114, 115, 101]⟩, .string ⟨#[112, 101, 97, 107]⟩, .string ⟨#[100, 105, 112]⟩, .string ⟨#[108, 101, 118, 101, 108]⟩, .string ⟨#[115, 101, 116]⟩, .string ⟨#[116, 111, 112]⟩] 9)) := by (repeat (first | (with_reducible exact Below.refl _ _) | (with_reducible assumption) | (with_reducible refine Below.setCell ?_ (by first | omega | (simp; done) | (simp; omega)) _) | (with_reducible refine Below.alloc ?_ (by first | omega | (simp; done) | (simp; omega)) _) | (with_reducible refine Below.drew ?_) | (with_reducible refine below_drewN ?_ _)))
    have cN : ∀ W : World, Calls Try.prog 13 #[.int .i64 k] W fun e w' => e = .returned (.string ⟨#[]⟩) ∧ Cln W w' := fun W => by
      refine (name_any k W).mono ?_
      rintro e w' ⟨rfl, rfl⟩
      exact ⟨by rw [hname.out]; rfl, Below.refl _ _⟩
    go_wp2_with fail
    have hbm := hb2'.out.cln made1
    have m0 := hbm.cell 0; have m1 := hbm.cell 1; have m2 := hbm.cell 2; have m3 := hbm.cell 3; have m4 := hbm.cell 4; have m5 := hbm.cell 5; have m6 := hbm.cell 6; have m7 := hbm.cell 7
    have hcm := Lib.hid made1
    clear made1 hbm g0 g1 g2 g3 g4 g5 g6 g7
    go_region_held3 (fun W => W.cell? ⟨w.heap.size, 0, none⟩ = some (.int .i64 r.kind) ∧ W.cell? ⟨w.heap.size, 1, none⟩ = some (.int .i64 r.num) ∧ W.cell? ⟨w.heap.size, 2, none⟩ = some (.int .i64 r.low) ∧ W.cell? ⟨w.heap.size, 3, none⟩ = some (.int .i64 r.high) ∧ W.cell? ⟨w.heap.size, 4, none⟩ = some (.float .f64 r.real) ∧ W.cell? ⟨w.heap.size, 5, none⟩ = some (.int .i64 r.cap) ∧ W.cell? ⟨w.heap.size, 6, none⟩ = some (.string (str r.text)) ∧ W.cell? ⟨w.heap.size, 7, none⟩ = some (.slice A n c) ∧ Hid (Cln w2 W))
      (first | exact recKeep hq (by assumption) | exact ⟨m0, m1, m2, m3, m4, m5, m6, m7, Lib.hid (Below.drew hcm.out)⟩)
      (first
        | (go_at_call 11; with_reducible refine (cC _ (by assumption)).mono ?_; rintro e w' ⟨rfl, hq⟩)
        | (go_at_call 12; with_reducible refine (cR _ (by assumption)).mono ?_; rintro e w' ⟨rfl, hq⟩)
        | (go_at_call 13; with_reducible refine (cN _).mono ?_; rintro e w' ⟨rfl, hq⟩))
    rename_i hS
    have hfin := cln_trans hcl2'.out hS.2.2.2.2.2.2.2.2.out
    clear hS
    go_wp2_with fail
    go_ret
    exact ⟨rfl, hfin⟩
  by_cases hk9 : 10 ≤ k
  · have hname : Hid (nameOf k = []) := by unfold Hid nameOf; rw [if_pos (.inr (by omega))]
    have d1 : decide (0 ≤ k) = true := decide_eq_true (by omega)
    have d2 : decide (k < 10) = false := decide_eq_false (by omega)
    have made1 : Cln w2 (w2.alloc (.cells #[.string ⟨#[]⟩, .string ⟨#[116, 101, 120, 116]⟩, .string ⟨#[115, 117, 109]⟩, .string ⟨#[99, 111, 117, 110, 116]⟩, .string ⟨#[112, 117, 114, 115, 101]⟩, .string ⟨#[112, 101, 97, 107]⟩, .string ⟨#[100, 105, 112]⟩, .string ⟨#[108, 101, 118, 101, 108]⟩, .string ⟨#[115, 101, 116]⟩, .string ⟨#[116, 111, 112]⟩] 9)) := by (repeat (first | (with_reducible exact Below.refl _ _) | (with_reducible assumption) | (with_reducible refine Below.setCell ?_ (by first | omega | (simp; done) | (simp; omega)) _) | (with_reducible refine Below.alloc ?_ (by first | omega | (simp; done) | (simp; omega)) _) | (with_reducible refine Below.drew ?_) | (with_reducible refine below_drewN ?_ _)))
    have cN : ∀ W : World, Calls Try.prog 13 #[.int .i64 k] W fun e w' => e = .returned (.string ⟨#[]⟩) ∧ Cln W w' := fun W => by
      refine (name_any k W).mono ?_
      rintro e w' ⟨rfl, rfl⟩
      exact ⟨by rw [hname.out]; rfl, Below.refl _ _⟩
    go_wp2_with fail
    have hbm := hb2'.out.cln made1
    have m0 := hbm.cell 0; have m1 := hbm.cell 1; have m2 := hbm.cell 2; have m3 := hbm.cell 3; have m4 := hbm.cell 4; have m5 := hbm.cell 5; have m6 := hbm.cell 6; have m7 := hbm.cell 7
    have hcm := Lib.hid made1
    clear made1 hbm g0 g1 g2 g3 g4 g5 g6 g7
    go_region_held3 (fun W => W.cell? ⟨w.heap.size, 0, none⟩ = some (.int .i64 r.kind) ∧ W.cell? ⟨w.heap.size, 1, none⟩ = some (.int .i64 r.num) ∧ W.cell? ⟨w.heap.size, 2, none⟩ = some (.int .i64 r.low) ∧ W.cell? ⟨w.heap.size, 3, none⟩ = some (.int .i64 r.high) ∧ W.cell? ⟨w.heap.size, 4, none⟩ = some (.float .f64 r.real) ∧ W.cell? ⟨w.heap.size, 5, none⟩ = some (.int .i64 r.cap) ∧ W.cell? ⟨w.heap.size, 6, none⟩ = some (.string (str r.text)) ∧ W.cell? ⟨w.heap.size, 7, none⟩ = some (.slice A n c) ∧ Hid (Cln w2 W))
      (first | exact recKeep hq (by assumption) | exact ⟨m0, m1, m2, m3, m4, m5, m6, m7, Lib.hid (Below.drew hcm.out)⟩)
      (first
        | (go_at_call 11; with_reducible refine (cC _ (by assumption)).mono ?_; rintro e w' ⟨rfl, hq⟩)
        | (go_at_call 12; with_reducible refine (cR _ (by assumption)).mono ?_; rintro e w' ⟨rfl, hq⟩)
        | (go_at_call 13; with_reducible refine (cN _).mono ?_; rintro e w' ⟨rfl, hq⟩))
    rename_i hS
    have hfin := cln_trans hcl2'.out hS.2.2.2.2.2.2.2.2.out
    clear hS
    go_wp2_with fail
    go_ret
    exact ⟨rfl, hfin⟩
  have hkc : k = 0 ∨ k = 1 ∨ k = 2 ∨ k = 3 ∨ k = 4 ∨ k = 5 ∨ k = 6 ∨ k = 7 ∨ k = 8 ∨ k = 9 := by omega
  clear hk0 hk9
  rcases hkc with rfl | rfl | rfl | rfl | rfl | rfl | rfl | rfl | rfl | rfl
  · have hname : Hid (nameOf 0 = []) := by unfold Hid; decide
    have made1 : Cln w2 (w2.alloc (.cells #[.string ⟨#[]⟩, .string ⟨#[116, 101, 120, 116]⟩, .string ⟨#[115, 117, 109]⟩, .string ⟨#[99, 111, 117, 110, 116]⟩, .string ⟨#[112, 117, 114, 115, 101]⟩, .string ⟨#[112, 101, 97, 107]⟩, .string ⟨#[100, 105, 112]⟩, .string ⟨#[108, 101, 118, 101, 108]⟩, .string ⟨#[115, 101, 116]⟩, .string ⟨#[116, 111, 112]⟩] 9)) := by (repeat (first | (with_reducible exact Below.refl _ _) | (with_reducible assumption) | (with_reducible refine Below.setCell ?_ (by first | omega | (simp; done) | (simp; omega)) _) | (with_reducible refine Below.alloc ?_ (by first | omega | (simp; done) | (simp; omega)) _) | (with_reducible refine Below.drew ?_) | (with_reducible refine below_drewN ?_ _)))
    have cN : ∀ W : World, Calls Try.prog 13 #[.int .i64 0] W fun e w' => e = .returned (.string ⟨#[]⟩) ∧ Cln W w' := fun W => by
      refine (name_any 0 W).mono ?_
      rintro e w' ⟨rfl, rfl⟩
      exact ⟨by rw [hname.out]; rfl, Below.refl _ _⟩
    go_wp2_with fail
    have hbm := hb2'.out.cln made1
    have m0 := hbm.cell 0; have m1 := hbm.cell 1; have m2 := hbm.cell 2; have m3 := hbm.cell 3; have m4 := hbm.cell 4; have m5 := hbm.cell 5; have m6 := hbm.cell 6; have m7 := hbm.cell 7
    have hcm := Lib.hid made1
    clear made1 hbm g0 g1 g2 g3 g4 g5 g6 g7
    go_region_held3 (fun W => W.cell? ⟨w.heap.size, 0, none⟩ = some (.int .i64 r.kind) ∧ W.cell? ⟨w.heap.size, 1, none⟩ = some (.int .i64 r.num) ∧ W.cell? ⟨w.heap.size, 2, none⟩ = some (.int .i64 r.low) ∧ W.cell? ⟨w.heap.size, 3, none⟩ = some (.int .i64 r.high) ∧ W.cell? ⟨w.heap.size, 4, none⟩ = some (.float .f64 r.real) ∧ W.cell? ⟨w.heap.size, 5, none⟩ = some (.int .i64 r.cap) ∧ W.cell? ⟨w.heap.size, 6, none⟩ = some (.string (str r.text)) ∧ W.cell? ⟨w.heap.size, 7, none⟩ = some (.slice A n c) ∧ Hid (Cln w2 W))
      (first | exact recKeep hq (by assumption) | exact ⟨m0, m1, m2, m3, m4, m5, m6, m7, Lib.hid (Below.drew hcm.out)⟩)
      (first
        | (go_at_call 11; with_reducible refine (cC _ (by assumption)).mono ?_; rintro e w' ⟨rfl, hq⟩)
        | (go_at_call 12; with_reducible refine (cR _ (by assumption)).mono ?_; rintro e w' ⟨rfl, hq⟩)
        | (go_at_call 13; with_reducible refine (cN _).mono ?_; rintro e w' ⟨rfl, hq⟩))
    rename_i hS
    have hfin := cln_trans hcl2'.out hS.2.2.2.2.2.2.2.2.out
    clear hS
    go_wp2_with fail
    go_ret
    exact ⟨rfl, hfin⟩
  · have hname : Hid (nameOf 1 = [116, 101, 120, 116]) := by unfold Hid; decide
    have made1 : Cln w2 (w2.alloc (.cells #[.string ⟨#[]⟩, .string ⟨#[116, 101, 120, 116]⟩, .string ⟨#[115, 117, 109]⟩, .string ⟨#[99, 111, 117, 110, 116]⟩, .string ⟨#[112, 117, 114, 115, 101]⟩, .string ⟨#[112, 101, 97, 107]⟩, .string ⟨#[100, 105, 112]⟩, .string ⟨#[108, 101, 118, 101, 108]⟩, .string ⟨#[115, 101, 116]⟩, .string ⟨#[116, 111, 112]⟩] 9)) := by (repeat (first | (with_reducible exact Below.refl _ _) | (with_reducible assumption) | (with_reducible refine Below.setCell ?_ (by first | omega | (simp; done) | (simp; omega)) _) | (with_reducible refine Below.alloc ?_ (by first | omega | (simp; done) | (simp; omega)) _) | (with_reducible refine Below.drew ?_) | (with_reducible refine below_drewN ?_ _)))
    have cN : ∀ W : World, Calls Try.prog 13 #[.int .i64 1] W fun e w' => e = .returned (.string ⟨#[116, 101, 120, 116]⟩) ∧ Cln W w' := fun W => by
      refine (name_any 1 W).mono ?_
      rintro e w' ⟨rfl, rfl⟩
      exact ⟨by rw [hname.out]; rfl, Below.refl _ _⟩
    go_wp2_with fail
    have hbm := hb2'.out.cln made1
    have m0 := hbm.cell 0; have m1 := hbm.cell 1; have m2 := hbm.cell 2; have m3 := hbm.cell 3; have m4 := hbm.cell 4; have m5 := hbm.cell 5; have m6 := hbm.cell 6; have m7 := hbm.cell 7
    have hcm := Lib.hid made1
    clear made1 hbm g0 g1 g2 g3 g4 g5 g6 g7
    go_region_held3 (fun W => W.cell? ⟨w.heap.size, 0, none⟩ = some (.int .i64 r.kind) ∧ W.cell? ⟨w.heap.size, 1, none⟩ = some (.int .i64 r.num) ∧ W.cell? ⟨w.heap.size, 2, none⟩ = some (.int .i64 r.low) ∧ W.cell? ⟨w.heap.size, 3, none⟩ = some (.int .i64 r.high) ∧ W.cell? ⟨w.heap.size, 4, none⟩ = some (.float .f64 r.real) ∧ W.cell? ⟨w.heap.size, 5, none⟩ = some (.int .i64 r.cap) ∧ W.cell? ⟨w.heap.size, 6, none⟩ = some (.string (str r.text)) ∧ W.cell? ⟨w.heap.size, 7, none⟩ = some (.slice A n c) ∧ Hid (Cln w2 W))
      (first | exact recKeep hq (by assumption) | exact ⟨m0, m1, m2, m3, m4, m5, m6, m7, Lib.hid (Below.drew hcm.out)⟩)
      (first
        | (go_at_call 11; with_reducible refine (cC _ (by assumption)).mono ?_; rintro e w' ⟨rfl, hq⟩)
        | (go_at_call 12; with_reducible refine (cR _ (by assumption)).mono ?_; rintro e w' ⟨rfl, hq⟩)
        | (go_at_call 13; with_reducible refine (cN _).mono ?_; rintro e w' ⟨rfl, hq⟩))
    rename_i hS
    have hfin := cln_trans hcl2'.out hS.2.2.2.2.2.2.2.2.out
    clear hS
    go_wp2_with fail
    go_ret
    exact ⟨rfl, hfin⟩
  · have hname : Hid (nameOf 2 = [115, 117, 109]) := by unfold Hid; decide
    have made1 : Cln w2 (w2.alloc (.cells #[.string ⟨#[]⟩, .string ⟨#[116, 101, 120, 116]⟩, .string ⟨#[115, 117, 109]⟩, .string ⟨#[99, 111, 117, 110, 116]⟩, .string ⟨#[112, 117, 114, 115, 101]⟩, .string ⟨#[112, 101, 97, 107]⟩, .string ⟨#[100, 105, 112]⟩, .string ⟨#[108, 101, 118, 101, 108]⟩, .string ⟨#[115, 101, 116]⟩, .string ⟨#[116, 111, 112]⟩] 9)) := by (repeat (first | (with_reducible exact Below.refl _ _) | (with_reducible assumption) | (with_reducible refine Below.setCell ?_ (by first | omega | (simp; done) | (simp; omega)) _) | (with_reducible refine Below.alloc ?_ (by first | omega | (simp; done) | (simp; omega)) _) | (with_reducible refine Below.drew ?_) | (with_reducible refine below_drewN ?_ _)))
    have cN : ∀ W : World, Calls Try.prog 13 #[.int .i64 2] W fun e w' => e = .returned (.string ⟨#[115, 117, 109]⟩) ∧ Cln W w' := fun W => by
      refine (name_any 2 W).mono ?_
      rintro e w' ⟨rfl, rfl⟩
      exact ⟨by rw [hname.out]; rfl, Below.refl _ _⟩
    go_wp2_with fail
    have hbm := hb2'.out.cln made1
    have m0 := hbm.cell 0; have m1 := hbm.cell 1; have m2 := hbm.cell 2; have m3 := hbm.cell 3; have m4 := hbm.cell 4; have m5 := hbm.cell 5; have m6 := hbm.cell 6; have m7 := hbm.cell 7
    have hcm := Lib.hid made1
    clear made1 hbm g0 g1 g2 g3 g4 g5 g6 g7
    go_region_held3 (fun W => W.cell? ⟨w.heap.size, 0, none⟩ = some (.int .i64 r.kind) ∧ W.cell? ⟨w.heap.size, 1, none⟩ = some (.int .i64 r.num) ∧ W.cell? ⟨w.heap.size, 2, none⟩ = some (.int .i64 r.low) ∧ W.cell? ⟨w.heap.size, 3, none⟩ = some (.int .i64 r.high) ∧ W.cell? ⟨w.heap.size, 4, none⟩ = some (.float .f64 r.real) ∧ W.cell? ⟨w.heap.size, 5, none⟩ = some (.int .i64 r.cap) ∧ W.cell? ⟨w.heap.size, 6, none⟩ = some (.string (str r.text)) ∧ W.cell? ⟨w.heap.size, 7, none⟩ = some (.slice A n c) ∧ Hid (Cln w2 W))
      (first | exact recKeep hq (by assumption) | exact ⟨m0, m1, m2, m3, m4, m5, m6, m7, Lib.hid (Below.drew hcm.out)⟩)
      (first
        | (go_at_call 11; with_reducible refine (cC _ (by assumption)).mono ?_; rintro e w' ⟨rfl, hq⟩)
        | (go_at_call 12; with_reducible refine (cR _ (by assumption)).mono ?_; rintro e w' ⟨rfl, hq⟩)
        | (go_at_call 13; with_reducible refine (cN _).mono ?_; rintro e w' ⟨rfl, hq⟩))
    rename_i hS
    have hfin := cln_trans hcl2'.out hS.2.2.2.2.2.2.2.2.out
    clear hS
    go_wp2_with fail
    go_ret
    exact ⟨rfl, hfin⟩
  · have hname : Hid (nameOf 3 = [99, 111, 117, 110, 116]) := by unfold Hid; decide
    have made1 : Cln w2 (w2.alloc (.cells #[.string ⟨#[]⟩, .string ⟨#[116, 101, 120, 116]⟩, .string ⟨#[115, 117, 109]⟩, .string ⟨#[99, 111, 117, 110, 116]⟩, .string ⟨#[112, 117, 114, 115, 101]⟩, .string ⟨#[112, 101, 97, 107]⟩, .string ⟨#[100, 105, 112]⟩, .string ⟨#[108, 101, 118, 101, 108]⟩, .string ⟨#[115, 101, 116]⟩, .string ⟨#[116, 111, 112]⟩] 9)) := by (repeat (first | (with_reducible exact Below.refl _ _) | (with_reducible assumption) | (with_reducible refine Below.setCell ?_ (by first | omega | (simp; done) | (simp; omega)) _) | (with_reducible refine Below.alloc ?_ (by first | omega | (simp; done) | (simp; omega)) _) | (with_reducible refine Below.drew ?_) | (with_reducible refine below_drewN ?_ _)))
    have cN : ∀ W : World, Calls Try.prog 13 #[.int .i64 3] W fun e w' => e = .returned (.string ⟨#[99, 111, 117, 110, 116]⟩) ∧ Cln W w' := fun W => by
      refine (name_any 3 W).mono ?_
      rintro e w' ⟨rfl, rfl⟩
      exact ⟨by rw [hname.out]; rfl, Below.refl _ _⟩
    go_wp2_with fail
    have hbm := hb2'.out.cln made1
    have m0 := hbm.cell 0; have m1 := hbm.cell 1; have m2 := hbm.cell 2; have m3 := hbm.cell 3; have m4 := hbm.cell 4; have m5 := hbm.cell 5; have m6 := hbm.cell 6; have m7 := hbm.cell 7
    have hcm := Lib.hid made1
    clear made1 hbm g0 g1 g2 g3 g4 g5 g6 g7
    go_region_held3 (fun W => W.cell? ⟨w.heap.size, 0, none⟩ = some (.int .i64 r.kind) ∧ W.cell? ⟨w.heap.size, 1, none⟩ = some (.int .i64 r.num) ∧ W.cell? ⟨w.heap.size, 2, none⟩ = some (.int .i64 r.low) ∧ W.cell? ⟨w.heap.size, 3, none⟩ = some (.int .i64 r.high) ∧ W.cell? ⟨w.heap.size, 4, none⟩ = some (.float .f64 r.real) ∧ W.cell? ⟨w.heap.size, 5, none⟩ = some (.int .i64 r.cap) ∧ W.cell? ⟨w.heap.size, 6, none⟩ = some (.string (str r.text)) ∧ W.cell? ⟨w.heap.size, 7, none⟩ = some (.slice A n c) ∧ Hid (Cln w2 W))
      (first | exact recKeep hq (by assumption) | exact ⟨m0, m1, m2, m3, m4, m5, m6, m7, Lib.hid (Below.drew hcm.out)⟩)
      (first
        | (go_at_call 11; with_reducible refine (cC _ (by assumption)).mono ?_; rintro e w' ⟨rfl, hq⟩)
        | (go_at_call 12; with_reducible refine (cR _ (by assumption)).mono ?_; rintro e w' ⟨rfl, hq⟩)
        | (go_at_call 13; with_reducible refine (cN _).mono ?_; rintro e w' ⟨rfl, hq⟩))
    rename_i hS
    have hfin := cln_trans hcl2'.out hS.2.2.2.2.2.2.2.2.out
    clear hS
    go_wp2_with fail
    go_ret
    exact ⟨rfl, hfin⟩
  · have hname : Hid (nameOf 4 = [112, 117, 114, 115, 101]) := by unfold Hid; decide
    have made1 : Cln w2 (w2.alloc (.cells #[.string ⟨#[]⟩, .string ⟨#[116, 101, 120, 116]⟩, .string ⟨#[115, 117, 109]⟩, .string ⟨#[99, 111, 117, 110, 116]⟩, .string ⟨#[112, 117, 114, 115, 101]⟩, .string ⟨#[112, 101, 97, 107]⟩, .string ⟨#[100, 105, 112]⟩, .string ⟨#[108, 101, 118, 101, 108]⟩, .string ⟨#[115, 101, 116]⟩, .string ⟨#[116, 111, 112]⟩] 9)) := by (repeat (first | (with_reducible exact Below.refl _ _) | (with_reducible assumption) | (with_reducible refine Below.setCell ?_ (by first | omega | (simp; done) | (simp; omega)) _) | (with_reducible refine Below.alloc ?_ (by first | omega | (simp; done) | (simp; omega)) _) | (with_reducible refine Below.drew ?_) | (with_reducible refine below_drewN ?_ _)))
    have cN : ∀ W : World, Calls Try.prog 13 #[.int .i64 4] W fun e w' => e = .returned (.string ⟨#[112, 117, 114, 115, 101]⟩) ∧ Cln W w' := fun W => by
      refine (name_any 4 W).mono ?_
      rintro e w' ⟨rfl, rfl⟩
      exact ⟨by rw [hname.out]; rfl, Below.refl _ _⟩
    go_wp2_with fail
    have hbm := hb2'.out.cln made1
    have m0 := hbm.cell 0; have m1 := hbm.cell 1; have m2 := hbm.cell 2; have m3 := hbm.cell 3; have m4 := hbm.cell 4; have m5 := hbm.cell 5; have m6 := hbm.cell 6; have m7 := hbm.cell 7
    have hcm := Lib.hid made1
    clear made1 hbm g0 g1 g2 g3 g4 g5 g6 g7
    go_region_held3 (fun W => W.cell? ⟨w.heap.size, 0, none⟩ = some (.int .i64 r.kind) ∧ W.cell? ⟨w.heap.size, 1, none⟩ = some (.int .i64 r.num) ∧ W.cell? ⟨w.heap.size, 2, none⟩ = some (.int .i64 r.low) ∧ W.cell? ⟨w.heap.size, 3, none⟩ = some (.int .i64 r.high) ∧ W.cell? ⟨w.heap.size, 4, none⟩ = some (.float .f64 r.real) ∧ W.cell? ⟨w.heap.size, 5, none⟩ = some (.int .i64 r.cap) ∧ W.cell? ⟨w.heap.size, 6, none⟩ = some (.string (str r.text)) ∧ W.cell? ⟨w.heap.size, 7, none⟩ = some (.slice A n c) ∧ Hid (Cln w2 W))
      (first | exact recKeep hq (by assumption) | exact ⟨m0, m1, m2, m3, m4, m5, m6, m7, Lib.hid (Below.drew hcm.out)⟩)
      (first
        | (go_at_call 11; with_reducible refine (cC _ (by assumption)).mono ?_; rintro e w' ⟨rfl, hq⟩)
        | (go_at_call 12; with_reducible refine (cR _ (by assumption)).mono ?_; rintro e w' ⟨rfl, hq⟩)
        | (go_at_call 13; with_reducible refine (cN _).mono ?_; rintro e w' ⟨rfl, hq⟩))
    rename_i hS
    have hfin := cln_trans hcl2'.out hS.2.2.2.2.2.2.2.2.out
    clear hS
    go_wp2_with fail
    go_ret
    exact ⟨rfl, hfin⟩
  · have hname : Hid (nameOf 5 = [112, 101, 97, 107]) := by unfold Hid; decide
    have made1 : Cln w2 (w2.alloc (.cells #[.string ⟨#[]⟩, .string ⟨#[116, 101, 120, 116]⟩, .string ⟨#[115, 117, 109]⟩, .string ⟨#[99, 111, 117, 110, 116]⟩, .string ⟨#[112, 117, 114, 115, 101]⟩, .string ⟨#[112, 101, 97, 107]⟩, .string ⟨#[100, 105, 112]⟩, .string ⟨#[108, 101, 118, 101, 108]⟩, .string ⟨#[115, 101, 116]⟩, .string ⟨#[116, 111, 112]⟩] 9)) := by (repeat (first | (with_reducible exact Below.refl _ _) | (with_reducible assumption) | (with_reducible refine Below.setCell ?_ (by first | omega | (simp; done) | (simp; omega)) _) | (with_reducible refine Below.alloc ?_ (by first | omega | (simp; done) | (simp; omega)) _) | (with_reducible refine Below.drew ?_) | (with_reducible refine below_drewN ?_ _)))
    have cN : ∀ W : World, Calls Try.prog 13 #[.int .i64 5] W fun e w' => e = .returned (.string ⟨#[112, 101, 97, 107]⟩) ∧ Cln W w' := fun W => by
      refine (name_any 5 W).mono ?_
      rintro e w' ⟨rfl, rfl⟩
      exact ⟨by rw [hname.out]; rfl, Below.refl _ _⟩
    go_wp2_with fail
    have hbm := hb2'.out.cln made1
    have m0 := hbm.cell 0; have m1 := hbm.cell 1; have m2 := hbm.cell 2; have m3 := hbm.cell 3; have m4 := hbm.cell 4; have m5 := hbm.cell 5; have m6 := hbm.cell 6; have m7 := hbm.cell 7
    have hcm := Lib.hid made1
    clear made1 hbm g0 g1 g2 g3 g4 g5 g6 g7
    go_region_held3 (fun W => W.cell? ⟨w.heap.size, 0, none⟩ = some (.int .i64 r.kind) ∧ W.cell? ⟨w.heap.size, 1, none⟩ = some (.int .i64 r.num) ∧ W.cell? ⟨w.heap.size, 2, none⟩ = some (.int .i64 r.low) ∧ W.cell? ⟨w.heap.size, 3, none⟩ = some (.int .i64 r.high) ∧ W.cell? ⟨w.heap.size, 4, none⟩ = some (.float .f64 r.real) ∧ W.cell? ⟨w.heap.size, 5, none⟩ = some (.int .i64 r.cap) ∧ W.cell? ⟨w.heap.size, 6, none⟩ = some (.string (str r.text)) ∧ W.cell? ⟨w.heap.size, 7, none⟩ = some (.slice A n c) ∧ Hid (Cln w2 W))
      (first | exact recKeep hq (by assumption) | exact ⟨m0, m1, m2, m3, m4, m5, m6, m7, Lib.hid (Below.drew hcm.out)⟩)
      (first
        | (go_at_call 11; with_reducible refine (cC _ (by assumption)).mono ?_; rintro e w' ⟨rfl, hq⟩)
        | (go_at_call 12; with_reducible refine (cR _ (by assumption)).mono ?_; rintro e w' ⟨rfl, hq⟩)
        | (go_at_call 13; with_reducible refine (cN _).mono ?_; rintro e w' ⟨rfl, hq⟩))
    rename_i hS
    have hfin := cln_trans hcl2'.out hS.2.2.2.2.2.2.2.2.out
    clear hS
    go_wp2_with fail
    go_ret
    exact ⟨rfl, hfin⟩
  · have hname : Hid (nameOf 6 = [100, 105, 112]) := by unfold Hid; decide
    have made1 : Cln w2 (w2.alloc (.cells #[.string ⟨#[]⟩, .string ⟨#[116, 101, 120, 116]⟩, .string ⟨#[115, 117, 109]⟩, .string ⟨#[99, 111, 117, 110, 116]⟩, .string ⟨#[112, 117, 114, 115, 101]⟩, .string ⟨#[112, 101, 97, 107]⟩, .string ⟨#[100, 105, 112]⟩, .string ⟨#[108, 101, 118, 101, 108]⟩, .string ⟨#[115, 101, 116]⟩, .string ⟨#[116, 111, 112]⟩] 9)) := by (repeat (first | (with_reducible exact Below.refl _ _) | (with_reducible assumption) | (with_reducible refine Below.setCell ?_ (by first | omega | (simp; done) | (simp; omega)) _) | (with_reducible refine Below.alloc ?_ (by first | omega | (simp; done) | (simp; omega)) _) | (with_reducible refine Below.drew ?_) | (with_reducible refine below_drewN ?_ _)))
    have cN : ∀ W : World, Calls Try.prog 13 #[.int .i64 6] W fun e w' => e = .returned (.string ⟨#[100, 105, 112]⟩) ∧ Cln W w' := fun W => by
      refine (name_any 6 W).mono ?_
      rintro e w' ⟨rfl, rfl⟩
      exact ⟨by rw [hname.out]; rfl, Below.refl _ _⟩
    go_wp2_with fail
    have hbm := hb2'.out.cln made1
    have m0 := hbm.cell 0; have m1 := hbm.cell 1; have m2 := hbm.cell 2; have m3 := hbm.cell 3; have m4 := hbm.cell 4; have m5 := hbm.cell 5; have m6 := hbm.cell 6; have m7 := hbm.cell 7
    have hcm := Lib.hid made1
    clear made1 hbm g0 g1 g2 g3 g4 g5 g6 g7
    go_region_held3 (fun W => W.cell? ⟨w.heap.size, 0, none⟩ = some (.int .i64 r.kind) ∧ W.cell? ⟨w.heap.size, 1, none⟩ = some (.int .i64 r.num) ∧ W.cell? ⟨w.heap.size, 2, none⟩ = some (.int .i64 r.low) ∧ W.cell? ⟨w.heap.size, 3, none⟩ = some (.int .i64 r.high) ∧ W.cell? ⟨w.heap.size, 4, none⟩ = some (.float .f64 r.real) ∧ W.cell? ⟨w.heap.size, 5, none⟩ = some (.int .i64 r.cap) ∧ W.cell? ⟨w.heap.size, 6, none⟩ = some (.string (str r.text)) ∧ W.cell? ⟨w.heap.size, 7, none⟩ = some (.slice A n c) ∧ Hid (Cln w2 W))
      (first | exact recKeep hq (by assumption) | exact ⟨m0, m1, m2, m3, m4, m5, m6, m7, Lib.hid (Below.drew hcm.out)⟩)
      (first
        | (go_at_call 11; with_reducible refine (cC _ (by assumption)).mono ?_; rintro e w' ⟨rfl, hq⟩)
        | (go_at_call 12; with_reducible refine (cR _ (by assumption)).mono ?_; rintro e w' ⟨rfl, hq⟩)
        | (go_at_call 13; with_reducible refine (cN _).mono ?_; rintro e w' ⟨rfl, hq⟩))
    rename_i hS
    have hfin := cln_trans hcl2'.out hS.2.2.2.2.2.2.2.2.out
    clear hS
    go_wp2_with fail
    go_ret
    exact ⟨rfl, hfin⟩
  · have hname : Hid (nameOf 7 = [108, 101, 118, 101, 108]) := by unfold Hid; decide
    have made1 : Cln w2 (w2.alloc (.cells #[.string ⟨#[]⟩, .string ⟨#[116, 101, 120, 116]⟩, .string ⟨#[115, 117, 109]⟩, .string ⟨#[99, 111, 117, 110, 116]⟩, .string ⟨#[112, 117, 114, 115, 101]⟩, .string ⟨#[112, 101, 97, 107]⟩, .string ⟨#[100, 105, 112]⟩, .string ⟨#[108, 101, 118, 101, 108]⟩, .string ⟨#[115, 101, 116]⟩, .string ⟨#[116, 111, 112]⟩] 9)) := by (repeat (first | (with_reducible exact Below.refl _ _) | (with_reducible assumption) | (with_reducible refine Below.setCell ?_ (by first | omega | (simp; done) | (simp; omega)) _) | (with_reducible refine Below.alloc ?_ (by first | omega | (simp; done) | (simp; omega)) _) | (with_reducible refine Below.drew ?_) | (with_reducible refine below_drewN ?_ _)))
    have cN : ∀ W : World, Calls Try.prog 13 #[.int .i64 7] W fun e w' => e = .returned (.string ⟨#[108, 101, 118, 101, 108]⟩) ∧ Cln W w' := fun W => by
      refine (name_any 7 W).mono ?_
      rintro e w' ⟨rfl, rfl⟩
      exact ⟨by rw [hname.out]; rfl, Below.refl _ _⟩
    go_wp2_with fail
    have hbm := hb2'.out.cln made1
    have m0 := hbm.cell 0; have m1 := hbm.cell 1; have m2 := hbm.cell 2; have m3 := hbm.cell 3; have m4 := hbm.cell 4; have m5 := hbm.cell 5; have m6 := hbm.cell 6; have m7 := hbm.cell 7
    have hcm := Lib.hid made1
    clear made1 hbm g0 g1 g2 g3 g4 g5 g6 g7
    go_region_held3 (fun W => W.cell? ⟨w.heap.size, 0, none⟩ = some (.int .i64 r.kind) ∧ W.cell? ⟨w.heap.size, 1, none⟩ = some (.int .i64 r.num) ∧ W.cell? ⟨w.heap.size, 2, none⟩ = some (.int .i64 r.low) ∧ W.cell? ⟨w.heap.size, 3, none⟩ = some (.int .i64 r.high) ∧ W.cell? ⟨w.heap.size, 4, none⟩ = some (.float .f64 r.real) ∧ W.cell? ⟨w.heap.size, 5, none⟩ = some (.int .i64 r.cap) ∧ W.cell? ⟨w.heap.size, 6, none⟩ = some (.string (str r.text)) ∧ W.cell? ⟨w.heap.size, 7, none⟩ = some (.slice A n c) ∧ Hid (Cln w2 W))
      (first | exact recKeep hq (by assumption) | exact ⟨m0, m1, m2, m3, m4, m5, m6, m7, Lib.hid (Below.drew hcm.out)⟩)
      (first
        | (go_at_call 11; with_reducible refine (cC _ (by assumption)).mono ?_; rintro e w' ⟨rfl, hq⟩)
        | (go_at_call 12; with_reducible refine (cR _ (by assumption)).mono ?_; rintro e w' ⟨rfl, hq⟩)
        | (go_at_call 13; with_reducible refine (cN _).mono ?_; rintro e w' ⟨rfl, hq⟩))
    rename_i hS
    have hfin := cln_trans hcl2'.out hS.2.2.2.2.2.2.2.2.out
    clear hS
    go_wp2_with fail
    go_ret
    exact ⟨rfl, hfin⟩
  · have hname : Hid (nameOf 8 = [115, 101, 116]) := by unfold Hid; decide
    have made1 : Cln w2 (w2.alloc (.cells #[.string ⟨#[]⟩, .string ⟨#[116, 101, 120, 116]⟩, .string ⟨#[115, 117, 109]⟩, .string ⟨#[99, 111, 117, 110, 116]⟩, .string ⟨#[112, 117, 114, 115, 101]⟩, .string ⟨#[112, 101, 97, 107]⟩, .string ⟨#[100, 105, 112]⟩, .string ⟨#[108, 101, 118, 101, 108]⟩, .string ⟨#[115, 101, 116]⟩, .string ⟨#[116, 111, 112]⟩] 9)) := by (repeat (first | (with_reducible exact Below.refl _ _) | (with_reducible assumption) | (with_reducible refine Below.setCell ?_ (by first | omega | (simp; done) | (simp; omega)) _) | (with_reducible refine Below.alloc ?_ (by first | omega | (simp; done) | (simp; omega)) _) | (with_reducible refine Below.drew ?_) | (with_reducible refine below_drewN ?_ _)))
    have cN : ∀ W : World, Calls Try.prog 13 #[.int .i64 8] W fun e w' => e = .returned (.string ⟨#[115, 101, 116]⟩) ∧ Cln W w' := fun W => by
      refine (name_any 8 W).mono ?_
      rintro e w' ⟨rfl, rfl⟩
      exact ⟨by rw [hname.out]; rfl, Below.refl _ _⟩
    go_wp2_with fail
    have hbm := hb2'.out.cln made1
    have m0 := hbm.cell 0; have m1 := hbm.cell 1; have m2 := hbm.cell 2; have m3 := hbm.cell 3; have m4 := hbm.cell 4; have m5 := hbm.cell 5; have m6 := hbm.cell 6; have m7 := hbm.cell 7
    have hcm := Lib.hid made1
    clear made1 hbm g0 g1 g2 g3 g4 g5 g6 g7
    go_region_held3 (fun W => W.cell? ⟨w.heap.size, 0, none⟩ = some (.int .i64 r.kind) ∧ W.cell? ⟨w.heap.size, 1, none⟩ = some (.int .i64 r.num) ∧ W.cell? ⟨w.heap.size, 2, none⟩ = some (.int .i64 r.low) ∧ W.cell? ⟨w.heap.size, 3, none⟩ = some (.int .i64 r.high) ∧ W.cell? ⟨w.heap.size, 4, none⟩ = some (.float .f64 r.real) ∧ W.cell? ⟨w.heap.size, 5, none⟩ = some (.int .i64 r.cap) ∧ W.cell? ⟨w.heap.size, 6, none⟩ = some (.string (str r.text)) ∧ W.cell? ⟨w.heap.size, 7, none⟩ = some (.slice A n c) ∧ Hid (Cln w2 W))
      (first | exact recKeep hq (by assumption) | exact ⟨m0, m1, m2, m3, m4, m5, m6, m7, Lib.hid (Below.drew hcm.out)⟩)
      (first
        | (go_at_call 11; with_reducible refine (cC _ (by assumption)).mono ?_; rintro e w' ⟨rfl, hq⟩)
        | (go_at_call 12; with_reducible refine (cR _ (by assumption)).mono ?_; rintro e w' ⟨rfl, hq⟩)
        | (go_at_call 13; with_reducible refine (cN _).mono ?_; rintro e w' ⟨rfl, hq⟩))
    rename_i hS
    have hfin := cln_trans hcl2'.out hS.2.2.2.2.2.2.2.2.out
    clear hS
    go_wp2_with fail
    go_ret
    exact ⟨rfl, hfin⟩
  · have hname : Hid (nameOf 9 = [116, 111, 112]) := by unfold Hid; decide
    have made1 : Cln w2 (w2.alloc (.cells #[.string ⟨#[]⟩, .string ⟨#[116, 101, 120, 116]⟩, .string ⟨#[115, 117, 109]⟩, .string ⟨#[99, 111, 117, 110, 116]⟩, .string ⟨#[112, 117, 114, 115, 101]⟩, .string ⟨#[112, 101, 97, 107]⟩, .string ⟨#[100, 105, 112]⟩, .string ⟨#[108, 101, 118, 101, 108]⟩, .string ⟨#[115, 101, 116]⟩, .string ⟨#[116, 111, 112]⟩] 9)) := by (repeat (first | (with_reducible exact Below.refl _ _) | (with_reducible assumption) | (with_reducible refine Below.setCell ?_ (by first | omega | (simp; done) | (simp; omega)) _) | (with_reducible refine Below.alloc ?_ (by first | omega | (simp; done) | (simp; omega)) _) | (with_reducible refine Below.drew ?_) | (with_reducible refine below_drewN ?_ _)))
    have cN : ∀ W : World, Calls Try.prog 13 #[.int .i64 9] W fun e w' => e = .returned (.string ⟨#[116, 111, 112]⟩) ∧ Cln W w' := fun W => by
      refine (name_any 9 W).mono ?_
      rintro e w' ⟨rfl, rfl⟩
      exact ⟨by rw [hname.out]; rfl, Below.refl _ _⟩
    go_wp2_with fail
    have hbm := hb2'.out.cln made1
    have m0 := hbm.cell 0; have m1 := hbm.cell 1; have m2 := hbm.cell 2; have m3 := hbm.cell 3; have m4 := hbm.cell 4; have m5 := hbm.cell 5; have m6 := hbm.cell 6; have m7 := hbm.cell 7
    have hcm := Lib.hid made1
    clear made1 hbm g0 g1 g2 g3 g4 g5 g6 g7
    go_region_held3 (fun W => W.cell? ⟨w.heap.size, 0, none⟩ = some (.int .i64 r.kind) ∧ W.cell? ⟨w.heap.size, 1, none⟩ = some (.int .i64 r.num) ∧ W.cell? ⟨w.heap.size, 2, none⟩ = some (.int .i64 r.low) ∧ W.cell? ⟨w.heap.size, 3, none⟩ = some (.int .i64 r.high) ∧ W.cell? ⟨w.heap.size, 4, none⟩ = some (.float .f64 r.real) ∧ W.cell? ⟨w.heap.size, 5, none⟩ = some (.int .i64 r.cap) ∧ W.cell? ⟨w.heap.size, 6, none⟩ = some (.string (str r.text)) ∧ W.cell? ⟨w.heap.size, 7, none⟩ = some (.slice A n c) ∧ Hid (Cln w2 W))
      (first | exact recKeep hq (by assumption) | exact ⟨m0, m1, m2, m3, m4, m5, m6, m7, Lib.hid (Below.drew hcm.out)⟩)
      (first
        | (go_at_call 11; with_reducible refine (cC _ (by assumption)).mono ?_; rintro e w' ⟨rfl, hq⟩)
        | (go_at_call 12; with_reducible refine (cR _ (by assumption)).mono ?_; rintro e w' ⟨rfl, hq⟩)
        | (go_at_call 13; with_reducible refine (cN _).mono ?_; rintro e w' ⟨rfl, hq⟩))
    rename_i hS
    have hfin := cln_trans hcl2'.out hS.2.2.2.2.2.2.2.2.out
    clear hS
    go_wp2_with fail
    go_ret
    exact ⟨rfl, hfin⟩
end Go.Proofs.Ytocllhghbmbjpaa
