/- The walk of the document's item. (Printed by wip/tools/gen_item.py out of the walk of rec.items.) -/
import Derived.Test.YtoeoodiifpoomaaGreatDoorRecs
import Derived.Test.YtoeoodiifpoomaaGreatDoorWAhead
import Derived.Deep.RegionWith
import Derived.StillTailTactics
set_option linter.unusedSimpArgs false
set_option linter.unusedVariables false
set_option maxRecDepth 20000
namespace Go.Proofs.YtoeoodiifpoomaaGreatDoor
open Go.RowKit Moi
attribute [local go_sem] toList_str str_size less_ltB store_float

set_option maxHeartbeats 4000000 in
theorem item_any (k : Int) (l : List MItem) (A : Option Addr) (n c i : Nat) (w : World) (hr : RdItems w A n l) (hb : n ≤ 140737488355328) (hlt : i < n) :
    Calls Tryz.prog 148 #[.int .i64 k, .slice A n c, .int .i64 (i : Nat)] w fun e w' => e = .returned (.int .i64 (itemErr k (prevOf l i) (itAt l i) : Nat)) ∧ Cln w w' := by
  have hi : i ≤ n := by omega
  obtain ⟨b, o, rfl, hblt, hcell⟩ := hr.cells (by omega)
  obtain ⟨hc0, hc1⟩ := hcell i hlt
  have hx := hr.wf i
  generalize hX : itAt l i = x at hc0 hc1 hx
  clear hX
  have hcell' := Lib.hid hcell; clear hcell
  by_cases hlen : 16 < x.name.length
  · have hE : Hid (itemErr k (prevOf l i) x = 3) := by unfold Hid itemErr; rw [if_pos hlen]
    have t1 : decide (16 < (x.name.length : Int)) = true := decide_eq_true (by omega)
    clear hlen hcell'
    go_enter Tryz.func148, Tryz.ntmps148
    go_wp2_with fail
    go_ret
    refine ⟨ret_int (by rw [hE.out]; rfl), ?_⟩
    (repeat (first | (with_reducible exact Below.refl _ _) | (with_reducible assumption) | (with_reducible refine Below.setCell ?_ (by first | omega | (simp; done) | (simp; omega)) _) | (with_reducible refine Below.alloc ?_ (by first | omega | (simp; done) | (simp; omega)) _) | (with_reducible refine Below.drew ?_) | (with_reducible refine below_drewN ?_ _)))
  · have t1 : decide (16 < (x.name.length : Int)) = false := decide_eq_false (by omega)
    have hlen' := Lib.hid hlen; clear hlen
    by_cases hS : k = 8 ∧ fsame x.score 0 = false
    · have hE : Hid (itemErr k (prevOf l i) x = 4) := by unfold Hid itemErr; rw [if_neg hlen'.out, if_pos (.inl hS)]
      obtain ⟨hk8, t3⟩ := hS
      have t2 : (k == 8) = true := by rw [beq_iff_eq]; exact hk8
      clear hcell' hk8
      go_enter Tryz.func148, Tryz.ntmps148
      go_wp2_with (first | (go_at_call 175; refine (zero_any _ hx _).mono ?_; rintro e w' ⟨rfl, rfl⟩) | (go_at_call 108; refine (rproper_any _ hx _).mono ?_; rintro e w' ⟨rfl, rfl⟩))
      go_ret
      refine ⟨ret_int (by rw [hE.out]; rfl), ?_⟩
      (repeat (first | (with_reducible exact Below.refl _ _) | (with_reducible assumption) | (with_reducible refine Below.setCell ?_ (by first | omega | (simp; done) | (simp; omega)) _) | (with_reducible refine Below.alloc ?_ (by first | omega | (simp; done) | (simp; omega)) _) | (with_reducible refine Below.drew ?_) | (with_reducible refine below_drewN ?_ _)))
    · cases hP : fproper x.score with
      | false =>
        have hE : Hid (itemErr k (prevOf l i) x = 4) := by unfold Hid itemErr; rw [if_neg hlen'.out, if_pos (.inr hP)]
        clear hcell'
        by_cases hk8 : k = 8
        · have t2 : (k == 8) = true := by rw [beq_iff_eq]; exact hk8
          have t3 : fsame x.score 0 = true := by
            cases h : fsame x.score 0 with
            | true => rfl
            | false => exact absurd ⟨hk8, h⟩ hS
          clear hS hk8
          go_enter Tryz.func148, Tryz.ntmps148
          go_wp2_with (first | (go_at_call 175; refine (zero_any _ hx _).mono ?_; rintro e w' ⟨rfl, rfl⟩) | (go_at_call 108; refine (rproper_any _ hx _).mono ?_; rintro e w' ⟨rfl, rfl⟩))
          go_ret
          refine ⟨ret_int (by rw [hE.out]; rfl), ?_⟩
          (repeat (first | (with_reducible exact Below.refl _ _) | (with_reducible assumption) | (with_reducible refine Below.setCell ?_ (by first | omega | (simp; done) | (simp; omega)) _) | (with_reducible refine Below.alloc ?_ (by first | omega | (simp; done) | (simp; omega)) _) | (with_reducible refine Below.drew ?_) | (with_reducible refine below_drewN ?_ _)))
        · have t2 : (k == 8) = false := by rw [beq_eq_false_iff_ne]; exact hk8
          clear hS hk8
          go_enter Tryz.func148, Tryz.ntmps148
          go_wp2_with (first | (go_at_call 175; refine (zero_any _ hx _).mono ?_; rintro e w' ⟨rfl, rfl⟩) | (go_at_call 108; refine (rproper_any _ hx _).mono ?_; rintro e w' ⟨rfl, rfl⟩))
          go_ret
          refine ⟨ret_int (by rw [hE.out]; rfl), ?_⟩
          (repeat (first | (with_reducible exact Below.refl _ _) | (with_reducible assumption) | (with_reducible refine Below.setCell ?_ (by first | omega | (simp; done) | (simp; omega)) _) | (with_reducible refine Below.alloc ?_ (by first | omega | (simp; done) | (simp; omega)) _) | (with_reducible refine Below.drew ?_) | (with_reducible refine below_drewN ?_ _)))
      | true =>
        have hE0 : Hid (itemErr k (prevOf l i) x = match prevOf l i with
            | none => 0
            | some y => if k = 8 ∧ ltB y.name x.name = false then 4 else if k = 9 ∧ better y x = false then 4 else 0) := by
          unfold Hid itemErr; rw [if_neg hlen'.out, if_neg (by rintro (h | h); exact hS h; rw [hP] at h; cases h)]; cases prevOf l i <;> rfl
        have hbi : (i : Int) + 1 ≤ 9223372036854775807 := by omega
        by_cases hi0 : i = 0
        · have hE : Hid (itemErr k (prevOf l i) x = 0) := by unfold Hid; rw [hE0.out, hi0]; rfl
          have t4 : decide (0 < (i : Int)) = false := decide_eq_false (by omega)
          have t4' : decide (0 < i) = false := decide_eq_false (by omega)
          clear hE0 hcell'
          by_cases hk8 : k = 8
          · have t2 : (k == 8) = true := by rw [beq_iff_eq]; exact hk8
            have t3 : fsame x.score 0 = true := by
              cases h : fsame x.score 0 with
              | true => rfl
              | false => exact absurd ⟨hk8, h⟩ hS
            clear hS hk8 hi0
            go_enter Tryz.func148, Tryz.ntmps148
            go_wp2_with (first | (go_at_call 175; refine (zero_any _ hx _).mono ?_; rintro e w' ⟨rfl, rfl⟩) | (go_at_call 108; refine (rproper_any _ hx _).mono ?_; rintro e w' ⟨rfl, rfl⟩))
            go_quiet (fail)
            go_wp2_with fail
            go_quiet (fail)
            go_wp2_with fail
            go_ret
            refine ⟨ret_int (by rw [hE.out]; rfl), ?_⟩
            (repeat (first | (with_reducible exact Below.refl _ _) | (with_reducible assumption) | (with_reducible refine Below.setCell ?_ (by first | omega | (simp; done) | (simp; omega)) _) | (with_reducible refine Below.alloc ?_ (by first | omega | (simp; done) | (simp; omega)) _) | (with_reducible refine Below.drew ?_) | (with_reducible refine below_drewN ?_ _)))
          · have t2 : (k == 8) = false := by rw [beq_eq_false_iff_ne]; exact hk8
            clear hS hk8 hi0
            go_enter Tryz.func148, Tryz.ntmps148
            go_wp2_with (first | (go_at_call 175; refine (zero_any _ hx _).mono ?_; rintro e w' ⟨rfl, rfl⟩) | (go_at_call 108; refine (rproper_any _ hx _).mono ?_; rintro e w' ⟨rfl, rfl⟩))
            go_quiet (fail)
            go_wp2_with fail
            go_quiet (fail)
            go_wp2_with fail
            go_ret
            refine ⟨ret_int (by rw [hE.out]; rfl), ?_⟩
            (repeat (first | (with_reducible exact Below.refl _ _) | (with_reducible assumption) | (with_reducible refine Below.setCell ?_ (by first | omega | (simp; done) | (simp; omega)) _) | (with_reducible refine Below.alloc ?_ (by first | omega | (simp; done) | (simp; omega)) _) | (with_reducible refine Below.drew ?_) | (with_reducible refine below_drewN ?_ _)))
        · have t4 : decide (0 < (i : Int)) = true := decide_eq_true (by omega)
          have t4' : decide (0 < i) = true := decide_eq_true (by omega)
          obtain ⟨hd0, hd1⟩ := hcell'.out (i - 1) (by omega)
          have hy := hr.wf (i - 1)
          have hprev : Hid (prevOf l i = some (itAt l (i - 1))) := by unfold Hid prevOf; rw [if_neg hi0]
          generalize itAt l (i - 1) = y at hd0 hd1 hy hprev
          have hE1 : Hid (itemErr k (prevOf l i) x = if k = 8 ∧ ltB y.name x.name = false then 4 else if k = 9 ∧ better y x = false then 4 else 0) := by
            unfold Hid; rw [hE0.out, hprev.out]
          clear hE0 hcell'
          have hw1 : IntKind.i64.wrap ((i : Int) - 1) = (i : Int) - 1 := IntWalk.i64_in _ (by omega)
          have hw2 : (0 : Int) ≤ (i : Int) - 1 := by omega
          have hw2' : (1 : Int) ≤ (i : Int) := by omega
          have hw3 : (i : Int) - 1 < (n : Int) := by omega
          have hw4 : ((i : Int) - 1).toNat = i - 1 := by omega
          by_cases hk8 : k = 8
          · have t2 : (k == 8) = true := by rw [beq_iff_eq]; exact hk8
            have t2' : (k == 9) = false := by rw [beq_eq_false_iff_ne]; omega
            have t3 : fsame x.score 0 = true := by
              cases h : fsame x.score 0 with
              | true => rfl
              | false => exact absurd ⟨hk8, h⟩ hS
            cases hlB : ltB y.name x.name with
            | false =>
              have hE : Hid (itemErr k (prevOf l i) x = 4) := by unfold Hid; rw [hE1.out, if_pos ⟨hk8, hlB⟩]
              clear hS hk8 hi0 hE1
              go_enter Tryz.func148, Tryz.ntmps148
              go_wp2_with (first | (go_at_call 175; refine (zero_any _ hx _).mono ?_; rintro e w' ⟨rfl, rfl⟩) | (go_at_call 108; refine (rproper_any _ hx _).mono ?_; rintro e w' ⟨rfl, rfl⟩))
              go_quiet (fail)
              go_wp2_with fail
              go_ret
              refine ⟨ret_int (by rw [hE.out]; rfl), ?_⟩
              (repeat (first | (with_reducible exact Below.refl _ _) | (with_reducible assumption) | (with_reducible refine Below.setCell ?_ (by first | omega | (simp; done) | (simp; omega)) _) | (with_reducible refine Below.alloc ?_ (by first | omega | (simp; done) | (simp; omega)) _) | (with_reducible refine Below.drew ?_) | (with_reducible refine below_drewN ?_ _)))
            | true =>
              have hE : Hid (itemErr k (prevOf l i) x = 0) := by unfold Hid; rw [hE1.out, if_neg (by rw [hlB]; simp), if_neg (by omega)]
              clear hS hk8 hi0 hE1
              go_enter Tryz.func148, Tryz.ntmps148
              go_wp2_with (first | (go_at_call 175; refine (zero_any _ hx _).mono ?_; rintro e w' ⟨rfl, rfl⟩) | (go_at_call 108; refine (rproper_any _ hx _).mono ?_; rintro e w' ⟨rfl, rfl⟩))
              go_quiet (fail)
              go_wp2_with fail
              go_quiet (fail)
              go_wp2_with fail
              go_ret
              refine ⟨ret_int (by rw [hE.out]; rfl), ?_⟩
              (repeat (first | (with_reducible exact Below.refl _ _) | (with_reducible assumption) | (with_reducible refine Below.setCell ?_ (by first | omega | (simp; done) | (simp; omega)) _) | (with_reducible refine Below.alloc ?_ (by first | omega | (simp; done) | (simp; omega)) _) | (with_reducible refine Below.drew ?_) | (with_reducible refine below_drewN ?_ _)))
          · have t2 : (k == 8) = false := by rw [beq_eq_false_iff_ne]; exact hk8
            by_cases hk9 : k = 9
            · have t2' : (k == 9) = true := by rw [beq_iff_eq]; exact hk9
              cases hlB : better y x with
              | false =>
                have hE : Hid (itemErr k (prevOf l i) x = 4) := by unfold Hid; rw [hE1.out, if_neg (fun h => hk8 h.1), if_pos ⟨hk9, hlB⟩]
                clear hS hk8 hi0 hE1 hk9
                go_enter Tryz.func148, Tryz.ntmps148
                go_wp2_with (first | (go_at_call 175; refine (zero_any _ hx _).mono ?_; rintro e w' ⟨rfl, rfl⟩) | (go_at_call 108; refine (rproper_any _ hx _).mono ?_; rintro e w' ⟨rfl, rfl⟩))
                go_quiet (fail)
                go_wp2_with fail
                (refine region_tail 13 (by kernel_rfl) (by kernel_rfl) ?_; simp only [List.take_succ_cons, List.take_zero, List.drop_succ_cons, List.drop_zero]; (repeat still_step); refine wpStill_nil ?_)
                go_wp2_with fail
                refine (ahead_any y x hy hx _).mono ?_; rintro e w1 ⟨rfl, hq⟩; rw [hlB]
                go_wp2_with fail
                go_ret
                refine ⟨ret_int (by rw [hE.out]; rfl), ?_⟩
                exact cln_trans (by (repeat (first | (with_reducible exact Below.refl _ _) | (with_reducible assumption) | (with_reducible refine Below.setCell ?_ (by first | omega | (simp; done) | (simp; omega)) _) | (with_reducible refine Below.alloc ?_ (by first | omega | (simp; done) | (simp; omega)) _) | (with_reducible refine Below.drew ?_) | (with_reducible refine below_drewN ?_ _)))) hq
              | true =>
                have hE : Hid (itemErr k (prevOf l i) x = 0) := by unfold Hid; rw [hE1.out, if_neg (fun h => hk8 h.1), if_neg (by rw [hlB]; simp)]
                clear hS hk8 hi0 hE1 hk9
                go_enter Tryz.func148, Tryz.ntmps148
                go_wp2_with (first | (go_at_call 175; refine (zero_any _ hx _).mono ?_; rintro e w' ⟨rfl, rfl⟩) | (go_at_call 108; refine (rproper_any _ hx _).mono ?_; rintro e w' ⟨rfl, rfl⟩))
                go_quiet (fail)
                go_wp2_with fail
                (refine region_tail 13 (by kernel_rfl) (by kernel_rfl) ?_; simp only [List.take_succ_cons, List.take_zero, List.drop_succ_cons, List.drop_zero]; (repeat still_step); refine wpStill_nil ?_)
                go_wp2_with fail
                refine (ahead_any y x hy hx _).mono ?_; rintro e w1 ⟨rfl, hq⟩; rw [hlB]
                go_wp2_with fail
                go_ret
                refine ⟨ret_int (by rw [hE.out]; rfl), ?_⟩
                exact cln_trans (by (repeat (first | (with_reducible exact Below.refl _ _) | (with_reducible assumption) | (with_reducible refine Below.setCell ?_ (by first | omega | (simp; done) | (simp; omega)) _) | (with_reducible refine Below.alloc ?_ (by first | omega | (simp; done) | (simp; omega)) _) | (with_reducible refine Below.drew ?_) | (with_reducible refine below_drewN ?_ _)))) hq
            · have hE : Hid (itemErr k (prevOf l i) x = 0) := by unfold Hid; rw [hE1.out, if_neg (fun h => hk8 h.1), if_neg (fun h => hk9 h.1)]
              have t2' : (k == 9) = false := by rw [beq_eq_false_iff_ne]; exact hk9
              clear hS hk8 hi0 hE1 hk9
              go_enter Tryz.func148, Tryz.ntmps148
              go_wp2_with (first | (go_at_call 175; refine (zero_any _ hx _).mono ?_; rintro e w' ⟨rfl, rfl⟩) | (go_at_call 108; refine (rproper_any _ hx _).mono ?_; rintro e w' ⟨rfl, rfl⟩))
              go_quiet (fail)
              go_wp2_with fail
              go_quiet (fail)
              go_wp2_with fail
              go_ret
              refine ⟨ret_int (by rw [hE.out]; rfl), ?_⟩
              (repeat (first | (with_reducible exact Below.refl _ _) | (with_reducible assumption) | (with_reducible refine Below.setCell ?_ (by first | omega | (simp; done) | (simp; omega)) _) | (with_reducible refine Below.alloc ?_ (by first | omega | (simp; done) | (simp; omega)) _) | (with_reducible refine Below.drew ?_) | (with_reducible refine below_drewN ?_ _)))
end Go.Proofs.YtoeoodiifpoomaaGreatDoor
