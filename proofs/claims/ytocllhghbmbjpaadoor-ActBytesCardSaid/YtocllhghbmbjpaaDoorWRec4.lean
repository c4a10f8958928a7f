/- The walk of rec.Check. -/
import Derived.Test.YtocllhghbmbjpaaDoorWRec2
import Derived.Test.YtocllhghbmbjpaaDoorWRec3
set_option linter.unusedSimpArgs false
set_option linter.unusedVariables false
set_option maxRecDepth 20000
namespace Go.Proofs.YtocllhghbmbjpaaDoor
open Go.RowKit Moi
attribute [local go_sem] toList_str str_size less_ltB store_float

set_option maxHeartbeats 4000000 in
theorem check_any (r : MRec) (A : Option Addr) (n c : Nat) (hb : n ≤ 140737488355328) (hf : r.WF) (w : World) (hr : RdItems w A n r.list) :
    Calls Tryd.prog 37 #[recVal r A n c] w fun e w' => e = .returned (.int .i64 (checkRec r : Nat)) ∧ Cln w w' := by
  have hreal := hf.real
  have hl : Hid (r.list.length = n) := hr.len
  have hend : ∀ (v : Int) (w' : World), v = (checkRec r : Nat) → Cln w w' → (Ending.returned (.int .i64 v) = .returned (.int .i64 (checkRec r : Nat)) ∧ Cln w w') := fun v w' h h2 => ⟨by rw [h], h2⟩
  have hsh : Hid ((shapeOf r.kind).bounds = decide (r.kind = 4) ∧ (shapeOf r.kind).list = decide (r.kind = 8 ∨ r.kind = 9)) := ⟨rfl, rfl⟩
  unfold recVal
  cases hB : bareB r (shapeOf r.kind) with
  | false =>
    go_enter Tryd.func37, Tryd.ntmps37
    go_wp2_with fail
    refine (shaped_any r.kind _).mono ?_; rintro e w1 ⟨rfl, hq⟩; unfold shapeVal
    have hsz : w.heap.size < w1.heap.size := by have := hq.size; simp at this; omega
    have hne : ¬ w.heap.size = w1.heap.size := by omega
    have hblk := (Blk.new w 31 #[.int .i64 r.kind, .int .i64 r.num, .int .i64 r.low, .int .i64 r.high, .float .f64 r.real, .int .i64 r.cap, .string (str r.text), .slice A n c]).cln hq
    have hc := hblk.cell
    have hq1 : Cln w w1 := cln_trans ((Below.refl _ _).alloc (Nat.le_refl _) _) hq
    clear hblk
    go_wp2_with (go_at_call 67; refine (bare_any r (shapeOf r.kind) A n c hl hreal _).mono ?_; rintro e w2 ⟨rfl, hq2⟩; rw [hB]; have hq3 := cln_trans (cln_trans hq1 ((Below.refl _ _).alloc (Nat.le_refl _) _)) hq2; clear hq2)
    all_goals
      go_ret
      refine hend _ _ ?_ (by first | assumption | exact cln_trans hq1 (by (repeat (first | (with_reducible exact Below.refl _ _) | (with_reducible assumption) | (with_reducible refine Below.setCell ?_ (by first | omega | (simp; done) | (simp; omega)) _) | (with_reducible refine Below.alloc ?_ (by first | omega | (simp; done) | (simp; omega)) _) | (with_reducible refine Below.drew ?_) | (with_reducible refine below_drewN ?_ _)))))
      unfold checkRec
      first
        | (rw [if_pos (by omega)]; rfl)
        | (rw [if_neg (by omega), if_pos hB]; rfl)
  | true =>
    go_enter Tryd.func37, Tryd.ntmps37
    go_wp2_with fail
    refine (shaped_any r.kind _).mono ?_; rintro e w1 ⟨rfl, hq⟩; unfold shapeVal
    have hsz : w.heap.size < w1.heap.size := by have := hq.size; simp at this; omega
    have hne : ¬ w.heap.size = w1.heap.size := by omega
    have hblk := (Blk.new w 31 #[.int .i64 r.kind, .int .i64 r.num, .int .i64 r.low, .int .i64 r.high, .float .f64 r.real, .int .i64 r.cap, .string (str r.text), .slice A n c]).cln hq
    have hc := hblk.cell
    have hq1 : Cln w w1 := cln_trans ((Below.refl _ _).alloc (Nat.le_refl _) _) hq
    by_cases hk : r.kind < 1 ∨ 9 < r.kind
    · go_wp2_with fail
      all_goals
        first
          | (exfalso; omega)
          | (go_ret
             refine hend _ _ ?_ (cln_trans hq1 (by (repeat (first | (with_reducible exact Below.refl _ _) | (with_reducible assumption) | (with_reducible refine Below.setCell ?_ (by first | omega | (simp; done) | (simp; omega)) _) | (with_reducible refine Below.alloc ?_ (by first | omega | (simp; done) | (simp; omega)) _) | (with_reducible refine Below.drew ?_) | (with_reducible refine below_drewN ?_ _)))))
             unfold checkRec
             rw [if_pos hk]; rfl)
    · have k1 : ¬ r.kind ≤ 0 := by omega
      have k2 : ¬ 10 ≤ r.kind := by omega
      have k3 : decide (r.kind ≤ 0 ∨ 10 ≤ r.kind) = false := by simp; omega
      have hk' := Lib.hid hk; clear hk
      have hblk' := hblk.alloc (.cells #[.bool (shapeOf r.kind).text, .bool (shapeOf r.kind).num, .bool (shapeOf r.kind).bounds, .bool (shapeOf r.kind).real, .bool (shapeOf r.kind).list] 98)
      have hblk2 := Blk.new w1 98 #[.bool (shapeOf r.kind).text, .bool (shapeOf r.kind).num, .bool (shapeOf r.kind).bounds, .bool (shapeOf r.kind).real, .bool (shapeOf r.kind).list]
      clear hblk
      go_wp2_with (first
        | (go_at_call 67; refine (bare_any r (shapeOf r.kind) A n c hl hreal _).mono ?_; rintro e w2 ⟨rfl, hq2⟩; rw [hB]; have hc2 := (hblk'.cln hq2).cell; have hs2 := (hblk2.cln hq2).cell; have hq3 := cln_trans (cln_trans hq1 ((Below.refl _ _).alloc (Nat.le_refl _) _)) hq2; clear hq2 hblk' hblk2)
        | (go_at_call 36; refine (fproper_any _ hreal _).mono ?_; rintro e w' ⟨rfl, rfl⟩)
        | (go_at_call 68; refine (items_any r.kind r.list A n c _ (hr.cln hq3) hb).mono ?_; rintro e w3 ⟨rfl, hq4⟩; have hq5 := cln_trans hq3 hq4; clear hq4))
      all_goals
        go_ret
        refine hend _ _ ?_ (by first | assumption)
        obtain ⟨e1, e2⟩ := hsh.out
        have hk := hk'.out
        have hl0 := hl.out
        simp only [e1, e2, decide_eq_true_eq, decide_eq_false_iff_not, Bool.not_eq_true', Bool.not_eq_false', Bool.not_eq_true, Bool.not_eq_false] at *
        unfold checkRec
        rw [if_neg hk, if_neg (by rw [hB]; simp)]
        (repeat' split) <;> first | rfl | omega | (simp_all; done) | (exfalso; simp_all; omega)
end Go.Proofs.YtocllhghbmbjpaaDoor
