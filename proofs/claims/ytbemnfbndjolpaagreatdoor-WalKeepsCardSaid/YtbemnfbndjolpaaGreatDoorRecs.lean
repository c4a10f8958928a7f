import Derived.Test.YtbemnfbndjolpaaGreatDoorWFlo
import Derived.Test.YtbemnfbndjolpaaGreatDoorMem
import Derived.Laws.Strings
import Derived.Test.YtbemnfbndjolpaaGreatDoorPlain
import Derived.Deep.RegionWith
import Derived.StillTailTactics
import Derived.Lib.SliceRun
/- The walks of package rec: items, checks. -/
set_option linter.unusedSimpArgs false
set_option linter.unusedVariables false
set_option maxRecDepth 20000
namespace Go.Proofs.YtbemnfbndjolpaaGreatDoor
open Go.RowKit Moi

theorem toList_str (l : List UInt8) : (str l).toList = l := by rw [ByteArray.toList_eq]; rfl
theorem less_ltB : ∀ a b : List UInt8, Op.bytesLess a b = ltB a b
 | a, [] => by cases a <;> rfl
 | [], _ :: _ => rfl
 | x :: a, y :: b => by rw [Op.bytesLess, ltB, less_ltB a b]
theorem store_float (P : Program) (w : World) (a : Addr) (m : Mode) (k : FloatKind) (b : Nat) : (store a (.float k b) m).run P w = stored P w a (.float k b) m := run_store P w a _ m rfl
attribute [local go_sem] toList_str str_size less_ltB store_float

def itemVal (x : MItem) : Value := .agg #[.float .f64 x.score, .string (str x.name)]
theorem better_any (a b : MItem) (ha : a.score < 18446744073709551616) (hb : b.score < 18446744073709551616) (w : World) :
  Calls Tryz.prog 140 #[itemVal a, itemVal b] w fun e w' => e = .returned (.bool (better a b)) ∧ Cln w w' := by
 unfold itemVal
 cases h : fsame a.score b.score with
 | true =>
  go_enter Tryz.func140, Tryz.ntmps140
  go_wp2_with fail
  refine (fsame_any _ _ ha hb _).mono ?_; rintro e w' ⟨rfl, rfl⟩
  go_wp2_with fail
  go_ret
  exact ⟨ret_bool (by unfold better; rw [h]; rfl), ((Below.refl _ w).alloc (Nat.le_refl _) _).alloc (by simp) _⟩
 | false =>
  go_enter Tryz.func140, Tryz.ntmps140
  go_wp2_with fail
  refine (fsame_any _ _ ha hb _).mono ?_; rintro e w' ⟨rfl, rfl⟩
  go_wp2_with fail
  refine (fless_any _ _ hb ha _).mono ?_; rintro e w' ⟨rfl, rfl⟩
  go_wp2_with fail
  go_ret
  exact ⟨ret_bool (by unfold better; rw [h]; rfl), ((Below.refl _ w).alloc (Nat.le_refl _) _).alloc (by simp) _⟩

def itemVals (l : List MItem) : List Value := l.flatMap fun x => [.float .f64 x.score, .string (str x.name)]
def itAt (l : List MItem) (i : Nat) : MItem := l.getD i ⟨0, []⟩
structure RdItems (w : World) (A : Option Addr) (n : Nat) (l : List MItem) : Prop where
 len : l.length = n
 wf : ∀ i, (itAt l i).score < 18446744073709551616
 cells : 0 < n → ∃ b o, A = some ⟨b, o, none⟩ ∧ b < w.heap.size ∧ ∀ i, i < n → w.cell? ⟨b, o + i * 2, none⟩ = some (.float .f64 (itAt l i).score) ∧ w.cell? ⟨b, o + i * 2 + 1, none⟩ = some (.string (str (itAt l i).name))
section
variable {S : Nat → Prop} {w w' : World} {A : Option Addr} {n : Nat} {l : List MItem}
theorem RdItems.kept (h : RdItems w A n l) (k : Kept S w w') (hn : ∀ ad, A = some ad → ad.block < w.heap.size → ¬ S ad.block) : RdItems w' A n l := by
 refine ⟨h.len, h.wf, fun h0 => ?_⟩
 obtain ⟨b, o, rfl, hb, hc⟩ := h.cells h0
 have hn' := hn ⟨b, o, none⟩ rfl hb
 exact ⟨b, o, rfl, Nat.lt_of_lt_of_le hb k.size, fun i hi => ⟨k.cell (hc i hi).1 hn', k.cell (hc i hi).2 hn'⟩⟩
theorem RdItems.drewN (h : RdItems w A n l) (k : Nat) : RdItems (w.drewN k) A n l := ⟨h.len, h.wf, h.cells⟩
theorem RdItems.cln (h : RdItems w A n l) (k : Cln w w') : RdItems w' A n l :=
 h.kept (Kept.of_below (S := fun _ => False) k) fun _ _ _ h => h
end

def recVal (r : MRec) (A : Option Addr) (n c : Nat) : Value :=
 .agg #[.int .i64 r.kind, .int .i64 r.num, .int .i64 r.low, .int .i64 r.high, .float .f64 r.real, .int .i64 r.cap, .string (str r.text), .slice A n c]
def shapeVal (s : Shape) : Value := .agg #[.bool s.text, .bool s.num, .bool s.bounds, .bool s.real, .bool s.list]

theorem shaped_any (k : Int) (w : World) :
  Calls Tryz.prog 118 #[.int .i64 k] w fun e w' => e = .returned (shapeVal (shapeOf k)) ∧ Cln w w' := by
 go_enter Tryz.func118, Tryz.ntmps118
 go_wp2_with fail
 all_goals
  simp only [beq_iff_eq, beq_eq_false_iff_ne, ne_eq] at *
  refine bodyPost_ret (v := shapeVal (shapeOf k)) ?_ rfl ⟨rfl, ?_⟩
  ·simp [results, Tryz.results118, go_sem, shapeVal, shapeOf, *]
  ·repeat (first | exact Below.refl _ _ | refine Below.setCell ?_ (by simp) _ | refine Below.alloc ?_ (by simp) _)

set_option maxHeartbeats 4000000 in
theorem bare_any (r : MRec) (s : Shape) (A : Option Addr) (n c : Nat) (hn : Hid (r.list.length = n)) (hr : r.real < 18446744073709551616) (w : World) :
  Calls Tryz.prog 125 #[recVal r A n c, shapeVal s] w fun e w' => e = .returned (.bool (bareB r s)) ∧ Cln w w' := by
 have hl : Hid ((r.list == []) = decide (n = 0)) := by
  unfold Hid; rw [← hn.out]; cases r.list <;> simp
 unfold recVal shapeVal
 go_enter Tryz.func125, Tryz.ntmps125
 go_wp2_with (go_at_call 122; refine (fsame_any _ _ hr (by omega) _).mono ?_; rintro e w' ⟨rfl, rfl⟩)
 all_goals
  go_ret
  refine ⟨ret_bool ?_, ((Below.refl _ w).alloc (Nat.le_refl _) _).alloc (by simp) _⟩
  have hl' := hl.out
  simp_all [bareB]
  try exact beq_cast n 0

def prevOf (l : List MItem) (i : Nat) : Option MItem := if i = 0 then none else some (itAt l (i - 1))
theorem itemsErr_step (k : Int) (l : List MItem) (i : Nat) (hi : i < l.length) :
  itemsErr k (prevOf l i) (l.drop i) = if itemErr k (prevOf l i) (itAt l i) = 0 then itemsErr k (prevOf l (i + 1)) (l.drop (i + 1)) else itemErr k (prevOf l i) (itAt l i) := by
 have e : l.drop i = itAt l i :: l.drop (i + 1) := by
  rw [List.drop_eq_getElem_cons hi]; simp [itAt, List.getD, hi]
 rw [e, itemsErr]
 rfl

set_option maxHeartbeats 800000 in
theorem items_any (k : Int) (l : List MItem) (A : Option Addr) (n c : Nat) (w : World) (hr : RdItems w A n l) (hb : n ≤ 140737488355328) :
  Calls Tryz.prog 126 #[.int .i64 k, .slice A n c] w fun e w' => e = .returned (.int .i64 (itemsErr k none l : Nat)) ∧ Cln w w' := by
 go_enter Tryz.func126, Tryz.ntmps126
 go_wp2_with fail
 go_loopw [9] (fun v wr => ∃ i : Nat, i ≤ n ∧ v = .int .i64 (i : Nat) ∧ Cln w wr ∧ Hid (itemsErr k none l = itemsErr k (prevOf l i) (l.drop i))) (fun v _ => (n - intOf v).toNat)
 case atStart => exact ⟨0, Nat.zero_le _, rfl, Below.refl _ _, rfl⟩
 case round =>
  obtain ⟨i, hi, rfl, hk, hH⟩ := hrel
  by_cases hlt : i < n
  ·have hr' := hr.cln hk
   obtain ⟨b, o, rfl, hblt, hcell⟩ := hr'.cells (by omega)
   obtain ⟨hc0, hc1⟩ := hcell i hlt
   have hstep := Lib.hid (hH.out.trans (itemsErr_step k l i (by rw [hr.len]; exact hlt)))
   clear hH
   have hx := hr.wf i
   generalize hX : itAt l i = x at hc0 hc1 hstep hx
   clear hX
   have hcell' := Lib.hid hcell; clear hcell
   by_cases hlen : 16 < x.name.length
   ·have hE : Hid (itemErr k (prevOf l i) x = 3) := by unfold Hid itemErr; rw [if_pos hlen]
    have t1 : decide (16 < (x.name.length : Int)) = true := decide_eq_true (by omega)
    clear hlen hcell'
    go_wp2_with fail
    go_ret
    refine ⟨ret_int (by rw [hstep.out, hE.out]; rfl), cln_trans hk ?_⟩
    (repeat with_reducible first | exact cR _ | assumption | refine cA ?_ _ | refine cD ?_ | refine cN ?_ _ | refine cS ?_ (by first | omega | (simp <;> omega)) _)
   ·have t1 : decide (16 < (x.name.length : Int)) = false := decide_eq_false (by omega)
    have hlen' := Lib.hid hlen; clear hlen
    by_cases hS : k = 8 ∧ fsame x.score 0 = false
    ·have hE : Hid (itemErr k (prevOf l i) x = 4) := by unfold Hid itemErr; rw [if_neg hlen'.out, if_pos (.inl hS)]
     obtain ⟨hk8, t3⟩ := hS
     have t2 : (k == 8) = true := by rw [beq_iff_eq]; exact hk8
     clear hcell' hk8
     go_wp2_with (first | (go_at_call 122; refine (fsame_any _ _ hx (by omega) _).mono ?_; rintro e w' ⟨rfl, rfl⟩) | (go_at_call 112; refine (fproper_any _ hx _).mono ?_; rintro e w' ⟨rfl, rfl⟩))
     go_ret
     refine ⟨ret_int (by rw [hstep.out, hE.out]; rfl), cln_trans hk ?_⟩
     (repeat with_reducible first | exact cR _ | assumption | refine cA ?_ _ | refine cD ?_ | refine cN ?_ _ | refine cS ?_ (by first | omega | (simp <;> omega)) _)
    ·cases hP : fproper x.score with
     | false =>
      have hE : Hid (itemErr k (prevOf l i) x = 4) := by unfold Hid itemErr; rw [if_neg hlen'.out, if_pos (.inr hP)]
      clear hcell'
      by_cases hk8 : k = 8
      ·have t2 : (k == 8) = true := by rw [beq_iff_eq]; exact hk8
       have t3 : fsame x.score 0 = true := by
        cases h : fsame x.score 0 with
        | true => rfl
        | false => exact absurd ⟨hk8, h⟩ hS
       clear hS hk8
       go_wp2_with (first | (go_at_call 122; refine (fsame_any _ _ hx (by omega) _).mono ?_; rintro e w' ⟨rfl, rfl⟩) | (go_at_call 112; refine (fproper_any _ hx _).mono ?_; rintro e w' ⟨rfl, rfl⟩))
       go_ret
       refine ⟨ret_int (by rw [hstep.out, hE.out]; rfl), cln_trans hk ?_⟩
       (repeat with_reducible first | exact cR _ | assumption | refine cA ?_ _ | refine cD ?_ | refine cN ?_ _ | refine cS ?_ (by first | omega | (simp <;> omega)) _)
      ·have t2 : (k == 8) = false := by rw [beq_eq_false_iff_ne]; exact hk8
       clear hS hk8
       go_wp2_with (first | (go_at_call 122; refine (fsame_any _ _ hx (by omega) _).mono ?_; rintro e w' ⟨rfl, rfl⟩) | (go_at_call 112; refine (fproper_any _ hx _).mono ?_; rintro e w' ⟨rfl, rfl⟩))
       go_ret
       refine ⟨ret_int (by rw [hstep.out, hE.out]; rfl), cln_trans hk ?_⟩
       (repeat with_reducible first | exact cR _ | assumption | refine cA ?_ _ | refine cD ?_ | refine cN ?_ _ | refine cS ?_ (by first | omega | (simp <;> omega)) _)
     | true =>
      have hE0 : Hid (itemErr k (prevOf l i) x = match prevOf l i with
        | none => 0
        | some y => if k = 8 ∧ ltB y.name x.name = false then 4 else if k = 9 ∧ better y x = false then 4 else 0) := by
       unfold Hid itemErr; rw [if_neg hlen'.out, if_neg (by rintro (h | h); exact hS h; rw [hP] at h; cases h)]; cases prevOf l i <;> rfl
      have hbi : (i : Int) + 1 ≤ 9223372036854775807 := by omega
      by_cases hi0 : i = 0
      ·have hE : Hid (itemErr k (prevOf l i) x = 0) := by unfold Hid; rw [hE0.out, hi0]; rfl
       have t4 : decide (0 < (i : Int)) = false := decide_eq_false (by omega)
       have t4' : decide (0 < i) = false := decide_eq_false (by omega)
       clear hE0 hcell'
       by_cases hk8 : k = 8
       ·have t2 : (k == 8) = true := by rw [beq_iff_eq]; exact hk8
        have t3 : fsame x.score 0 = true := by
         cases h : fsame x.score 0 with
         | true => rfl
         | false => exact absurd ⟨hk8, h⟩ hS
        clear hS hk8 hi0
        go_wp2_with (first | (go_at_call 122; refine (fsame_any _ _ hx (by omega) _).mono ?_; rintro e w' ⟨rfl, rfl⟩) | (go_at_call 112; refine (fproper_any _ hx _).mono ?_; rintro e w' ⟨rfl, rfl⟩))
        go_quiet (fail)
        go_wp2_with fail
        go_quiet (fail)
        go_wp2_with fail
        go_roundw
        case rel => exact ⟨i + 1, hlt, by go_num, cln_trans hk (by (repeat with_reducible first | exact cR _ | assumption | refine cA ?_ _ | refine cD ?_ | refine cN ?_ _ | refine cS ?_ (by first | omega | (simp <;> omega)) _)), by unfold Hid; rw [hstep.out, hE.out]; rfl⟩
        case measure => simp [intOf]; omega
       ·have t2 : (k == 8) = false := by rw [beq_eq_false_iff_ne]; exact hk8
        clear hS hk8 hi0
        go_wp2_with (first | (go_at_call 122; refine (fsame_any _ _ hx (by omega) _).mono ?_; rintro e w' ⟨rfl, rfl⟩) | (go_at_call 112; refine (fproper_any _ hx _).mono ?_; rintro e w' ⟨rfl, rfl⟩))
        go_quiet (fail)
        go_wp2_with fail
        go_quiet (fail)
        go_wp2_with fail
        go_roundw
        case rel => exact ⟨i + 1, hlt, by go_num, cln_trans hk (by (repeat with_reducible first | exact cR _ | assumption | refine cA ?_ _ | refine cD ?_ | refine cN ?_ _ | refine cS ?_ (by first | omega | (simp <;> omega)) _)), by unfold Hid; rw [hstep.out, hE.out]; rfl⟩
        case measure => simp [intOf]; omega
      ·have t4 : decide (0 < (i : Int)) = true := decide_eq_true (by omega)
       have t4' : decide (0 < i) = true := decide_eq_true (by omega)
       obtain ⟨hd0, hd1⟩ := hcell'.out (i - 1) (by omega)
       have hy := hr.wf (i - 1)
       have hprev : Hid (prevOf l i = some (itAt l (i - 1))) := by unfold Hid prevOf; rw [if_neg hi0]
       generalize itAt l (i - 1) = y at hd0 hd1 hy hprev
       have hE1 : Hid (itemErr k (prevOf l i) x = if k = 8 ∧ ltB y.name x.name = false then 4 else if k = 9 ∧ better y x = false then 4 else 0) := by
        unfold Hid; rw [hE0.out, hprev.out]
       clear hE0 hcell'
       have hw1 : IntKind.i64.wrap ((i : Int) - 1) = (i : Int) - 1 := IntWalk.i64_in _ (by omega)
       have hw2 : (0 : Int) ≤ (i : Int) - 1 := by omega
       have hw2' : (1 : Int) ≤ (i : Int) := by omega
       have hw3 : (i : Int) - 1 < (n : Int) := by omega
       have hw4 : ((i : Int) - 1).toNat = i - 1 := by omega
       by_cases hk8 : k = 8
       ·have t2 : (k == 8) = true := by rw [beq_iff_eq]; exact hk8
        have t2' : (k == 9) = false := by rw [beq_eq_false_iff_ne]; omega
        have t3 : fsame x.score 0 = true := by
         cases h : fsame x.score 0 with
         | true => rfl
         | false => exact absurd ⟨hk8, h⟩ hS
        cases hlB : ltB y.name x.name with
        | false =>
         have hE : Hid (itemErr k (prevOf l i) x = 4) := by unfold Hid; rw [hE1.out, if_pos ⟨hk8, hlB⟩]
         clear hS hk8 hi0 hE1
         go_wp2_with (first | (go_at_call 122; refine (fsame_any _ _ hx (by omega) _).mono ?_; rintro e w' ⟨rfl, rfl⟩) | (go_at_call 112; refine (fproper_any _ hx _).mono ?_; rintro e w' ⟨rfl, rfl⟩))
         go_quiet (fail)
         go_wp2_with fail
         go_ret
         refine ⟨ret_int (by rw [hstep.out, hE.out]; rfl), cln_trans hk ?_⟩
         (repeat with_reducible first | exact cR _ | assumption | refine cA ?_ _ | refine cD ?_ | refine cN ?_ _ | refine cS ?_ (by first | omega | (simp <;> omega)) _)
        | true =>
         have hE : Hid (itemErr k (prevOf l i) x = 0) := by unfold Hid; rw [hE1.out, if_neg (by rw [hlB]; simp), if_neg (by omega)]
         clear hS hk8 hi0 hE1
         go_wp2_with (first | (go_at_call 122; refine (fsame_any _ _ hx (by omega) _).mono ?_; rintro e w' ⟨rfl, rfl⟩) | (go_at_call 112; refine (fproper_any _ hx _).mono ?_; rintro e w' ⟨rfl, rfl⟩))
         go_quiet (fail)
         go_wp2_with fail
         go_quiet (fail)
         go_wp2_with fail
         go_roundw
         case rel => exact ⟨i + 1, hlt, by go_num, cln_trans hk (by (repeat with_reducible first | exact cR _ | assumption | refine cA ?_ _ | refine cD ?_ | refine cN ?_ _ | refine cS ?_ (by first | omega | (simp <;> omega)) _)), by unfold Hid; rw [hstep.out, hE.out]; rfl⟩
         case measure => simp [intOf]; omega
       ·have t2 : (k == 8) = false := by rw [beq_eq_false_iff_ne]; exact hk8
        by_cases hk9 : k = 9
        ·have t2' : (k == 9) = true := by rw [beq_iff_eq]; exact hk9
         cases hlB : better y x with
         | false =>
          have hE : Hid (itemErr k (prevOf l i) x = 4) := by unfold Hid; rw [hE1.out, if_neg (fun h => hk8 h.1), if_pos ⟨hk9, hlB⟩]
          clear hS hk8 hi0 hE1 hk9
          go_wp2_with (first | (go_at_call 122; refine (fsame_any _ _ hx (by omega) _).mono ?_; rintro e w' ⟨rfl, rfl⟩) | (go_at_call 112; refine (fproper_any _ hx _).mono ?_; rintro e w' ⟨rfl, rfl⟩))
          go_quiet (fail)
          go_wp2_with fail
          (refine region_tail 13 (by kernel_rfl) (by kernel_rfl) ?_; simp only [List.take_succ_cons, List.take_zero, List.drop_succ_cons, List.drop_zero]; (repeat still_step); refine wpStill_nil ?_)
          go_wp2_with fail
          refine (better_any y x hy hx _).mono ?_; rintro e w1 ⟨rfl, hq⟩; rw [hlB]
          go_wp2_with fail
          go_ret
          refine ⟨ret_int (by rw [hstep.out, hE.out]; rfl), cln_trans hk ?_⟩
          exact cln_trans (by (repeat with_reducible first | exact cR _ | assumption | refine cA ?_ _ | refine cD ?_ | refine cN ?_ _ | refine cS ?_ (by first | omega | (simp <;> omega)) _)) hq
         | true =>
          have hE : Hid (itemErr k (prevOf l i) x = 0) := by unfold Hid; rw [hE1.out, if_neg (fun h => hk8 h.1), if_neg (by rw [hlB]; simp)]
          clear hS hk8 hi0 hE1 hk9
          go_wp2_with (first | (go_at_call 122; refine (fsame_any _ _ hx (by omega) _).mono ?_; rintro e w' ⟨rfl, rfl⟩) | (go_at_call 112; refine (fproper_any _ hx _).mono ?_; rintro e w' ⟨rfl, rfl⟩))
          go_quiet (fail)
          go_wp2_with fail
          (refine region_tail 13 (by kernel_rfl) (by kernel_rfl) ?_; simp only [List.take_succ_cons, List.take_zero, List.drop_succ_cons, List.drop_zero]; (repeat still_step); refine wpStill_nil ?_)
          go_wp2_with fail
          refine (better_any y x hy hx _).mono ?_; rintro e w1 ⟨rfl, hq⟩; rw [hlB]
          go_wp2_with fail
          go_roundw
          case rel => exact ⟨i + 1, hlt, by go_num, cln_trans hk (cln_trans (by (repeat with_reducible first | exact cR _ | assumption | refine cA ?_ _ | refine cD ?_ | refine cN ?_ _ | refine cS ?_ (by first | omega | (simp <;> omega)) _)) hq), by unfold Hid; rw [hstep.out, hE.out]; rfl⟩
          case measure => simp [intOf]; omega
        ·have hE : Hid (itemErr k (prevOf l i) x = 0) := by unfold Hid; rw [hE1.out, if_neg (fun h => hk8 h.1), if_neg (fun h => hk9 h.1)]
         have t2' : (k == 9) = false := by rw [beq_eq_false_iff_ne]; exact hk9
         clear hS hk8 hi0 hE1 hk9
         go_wp2_with (first | (go_at_call 122; refine (fsame_any _ _ hx (by omega) _).mono ?_; rintro e w' ⟨rfl, rfl⟩) | (go_at_call 112; refine (fproper_any _ hx _).mono ?_; rintro e w' ⟨rfl, rfl⟩))
         go_quiet (fail)
         go_wp2_with fail
         go_quiet (fail)
         go_wp2_with fail
         go_roundw
         case rel => exact ⟨i + 1, hlt, by go_num, cln_trans hk (by (repeat with_reducible first | exact cR _ | assumption | refine cA ?_ _ | refine cD ?_ | refine cN ?_ _ | refine cS ?_ (by first | omega | (simp <;> omega)) _)), by unfold Hid; rw [hstep.out, hE.out]; rfl⟩
         case measure => simp [intOf]; omega
  ·obtain rfl : i = n := by omega
   have t1 : decide ((i : Int) < (i : Int)) = false := decide_eq_false (by omega)
   go_wp2_with fail
   go_ret
   exact ⟨ret_int (by rw [hH.out, List.drop_of_length_le (by rw [hr.len]; exact Nat.le_refl _)]; rfl), hk⟩

set_option maxHeartbeats 4000000 in
theorem check_any (r : MRec) (A : Option Addr) (n c : Nat) (hb : n ≤ 140737488355328) (hf : r.WF) (w : World) (hr : RdItems w A n r.list) :
  Calls Tryz.prog 113 #[recVal r A n c] w fun e w' => e = .returned (.int .i64 (checkRec r : Nat)) ∧ Cln w w' := by
 have hreal := hf.real
 have hl : Hid (r.list.length = n) := hr.len
 have hend : ∀ (v : Int) (w' : World), v = (checkRec r : Nat) → Cln w w' → (Ending.returned (.int .i64 v) = .returned (.int .i64 (checkRec r : Nat)) ∧ Cln w w') := fun v w' h h2 => ⟨by rw [h], h2⟩
 have hsh : Hid ((shapeOf r.kind).bounds = decide (r.kind = 4) ∧ (shapeOf r.kind).list = decide (r.kind = 8 ∨ r.kind = 9)) := ⟨rfl, rfl⟩
 unfold recVal
 cases hB : bareB r (shapeOf r.kind) with
 | false =>
  go_enter Tryz.func113, Tryz.ntmps113
  go_wp2_with fail
  refine (shaped_any r.kind _).mono ?_; rintro e w1 ⟨rfl, hq⟩; unfold shapeVal
  have hsz : w.heap.size < w1.heap.size := by have := hq.size; simp at this; omega
  have hne : ¬ w.heap.size = w1.heap.size := by omega
  have hblk := (Blk.new w 62 #[.int .i64 r.kind, .int .i64 r.num, .int .i64 r.low, .int .i64 r.high, .float .f64 r.real, .int .i64 r.cap, .string (str r.text), .slice A n c]).cln hq
  have hc := hblk.cell
  have hq1 : Cln w w1 := cln_trans ((Below.refl _ _).alloc (Nat.le_refl _) _) hq
  clear hblk
  go_wp2_with (go_at_call 125; refine (bare_any r (shapeOf r.kind) A n c hl hreal _).mono ?_; rintro e w2 ⟨rfl, hq2⟩; rw [hB]; have hq3 := cln_trans (cln_trans hq1 ((Below.refl _ _).alloc (Nat.le_refl _) _)) hq2; clear hq2)
  all_goals
   go_ret
   refine hend _ _ ?_ (by first | assumption | exact cln_trans hq1 (by (repeat with_reducible first | exact cR _ | assumption | refine cA ?_ _ | refine cD ?_ | refine cN ?_ _ | refine cS ?_ (by first | omega | (simp <;> omega)) _)))
   unfold checkRec
   first
    |(rw [if_pos (by omega)]; rfl)
    |(rw [if_neg (by omega), if_pos hB]; rfl)
 | true =>
  go_enter Tryz.func113, Tryz.ntmps113
  go_wp2_with fail
  refine (shaped_any r.kind _).mono ?_; rintro e w1 ⟨rfl, hq⟩; unfold shapeVal
  have hsz : w.heap.size < w1.heap.size := by have := hq.size; simp at this; omega
  have hne : ¬ w.heap.size = w1.heap.size := by omega
  have hblk := (Blk.new w 62 #[.int .i64 r.kind, .int .i64 r.num, .int .i64 r.low, .int .i64 r.high, .float .f64 r.real, .int .i64 r.cap, .string (str r.text), .slice A n c]).cln hq
  have hc := hblk.cell
  have hq1 : Cln w w1 := cln_trans ((Below.refl _ _).alloc (Nat.le_refl _) _) hq
  by_cases hk : r.kind < 1 ∨ 9 < r.kind
  ·go_wp2_with fail
   all_goals
    first
     |(exfalso; omega)
     |(go_ret
       refine hend _ _ ?_ (cln_trans hq1 (by (repeat with_reducible first | exact cR _ | assumption | refine cA ?_ _ | refine cD ?_ | refine cN ?_ _ | refine cS ?_ (by first | omega | (simp <;> omega)) _)))
       unfold checkRec
       rw [if_pos hk]; rfl)
  ·have k1 : ¬ r.kind ≤ 0 := by omega
   have k2 : ¬ 10 ≤ r.kind := by omega
   have k3 : decide (r.kind ≤ 0 ∨ 10 ≤ r.kind) = false := by simp; omega
   have hk' := Lib.hid hk; clear hk
   have hblk' := hblk.alloc (.cells #[.bool (shapeOf r.kind).text, .bool (shapeOf r.kind).num, .bool (shapeOf r.kind).bounds, .bool (shapeOf r.kind).real, .bool (shapeOf r.kind).list] 181)
   have hblk2 := Blk.new w1 181 #[.bool (shapeOf r.kind).text, .bool (shapeOf r.kind).num, .bool (shapeOf r.kind).bounds, .bool (shapeOf r.kind).real, .bool (shapeOf r.kind).list]
   clear hblk
   go_wp2_with (first
    |(go_at_call 125; refine (bare_any r (shapeOf r.kind) A n c hl hreal _).mono ?_; rintro e w2 ⟨rfl, hq2⟩; rw [hB]; have hc2 := (hblk'.cln hq2).cell; have hs2 := (hblk2.cln hq2).cell; have hq3 := cln_trans (cln_trans hq1 ((Below.refl _ _).alloc (Nat.le_refl _) _)) hq2; clear hq2 hblk' hblk2)
    |(go_at_call 112; refine (fproper_any _ hreal _).mono ?_; rintro e w' ⟨rfl, rfl⟩)
    |(go_at_call 126; refine (items_any r.kind r.list A n c _ (hr.cln hq3) hb).mono ?_; rintro e w3 ⟨rfl, hq4⟩; have hq5 := cln_trans hq3 hq4; clear hq4))
   all_goals
    go_ret
    refine hend _ _ ?_ (by first | assumption)
    obtain ⟨e1, e2⟩ := hsh.out
    have hk := hk'.out
    have hl0 := hl.out
    simp only [e1, e2, decide_eq_true_eq, decide_eq_false_iff_not, Bool.not_eq_true', Bool.not_eq_false', Bool.not_eq_true, Bool.not_eq_false] at *
    unfold checkRec
    rw [if_neg hk, if_neg (by rw [hB]; simp)]
    (repeat' split) <;> first | rfl | omega | (simp_all; done) | (exfalso; simp_all; omega)

def sameItem (x y : MItem) : Bool := (x.name == y.name) && fsame x.score y.score
theorem same1_any (x y : MItem) (hx : x.score < 18446744073709551616) (hy : y.score < 18446744073709551616) (w : World) :
  Calls Tryz.prog 138 #[itemVal x, itemVal y] w fun e w' => e = .returned (.bool (sameItem x y)) ∧ Cln w w' := by
 unfold itemVal
 cases h : (x.name == y.name) with
 | true =>
  go_enter Tryz.func138, Tryz.ntmps138
  go_wp2_with (go_at_call 122; refine (fsame_any _ _ hx hy _).mono ?_; rintro e w' ⟨rfl, rfl⟩)
  go_ret
  exact ⟨ret_bool (by unfold sameItem; rw [h]; rfl), by (repeat with_reducible first | exact cR _ | assumption | refine cA ?_ _ | refine cD ?_ | refine cN ?_ _ | refine cS ?_ (by first | omega | (simp <;> omega)) _)⟩
 | false =>
  go_enter Tryz.func138, Tryz.ntmps138
  go_wp2_with fail
  go_ret
  exact ⟨ret_bool (by unfold sameItem; rw [h]; rfl), by (repeat with_reducible first | exact cR _ | assumption | refine cA ?_ _ | refine cD ?_ | refine cN ?_ _ | refine cS ?_ (by first | omega | (simp <;> omega)) _)⟩

theorem sameItems_take (l m : List MItem) (i : Nat) (hl : i < l.length) (hm : i < m.length) :
  sameItems (l.drop i) (m.drop i) = (sameItem (itAt l i) (itAt m i) && sameItems (l.drop (i + 1)) (m.drop (i + 1))) := by
 have e1 : l.drop i = itAt l i :: l.drop (i + 1) := by rw [List.drop_eq_getElem_cons hl]; simp [itAt, List.getD, hl]
 have e2 : m.drop i = itAt m i :: m.drop (i + 1) := by rw [List.drop_eq_getElem_cons hm]; simp [itAt, List.getD, hm]
 rw [e1, e2, sameItems]
 rfl
theorem sameItems_len : ∀ l m : List MItem, l.length ≠ m.length → sameItems l m = false
 | [], [], h => absurd rfl h
 | [], _ :: _, _ => rfl
 | _ :: _, [], _ => rfl
 | x :: l, y :: m, h => by rw [sameItems, sameItems_len l m (by simpa using h)]; simp

set_option maxHeartbeats 800000 in
theorem eqf_any (l m : List MItem) (A B : Option Addr) (n c k d : Nat) (w : World) (hr : RdItems w A n l) (hs : RdItems w B k m) (hn : n ≤ 140737488355328) (hk : k ≤ 140737488355328) :
  Calls Tryz.prog 137 #[.slice A n c, .slice B k d, .func (.func 138) #[] #[]] w fun e w' => e = .returned (.bool (sameItems l m)) ∧ Cln w w' := by
 by_cases hne : n = k
 ·subst hne
  have t1 : ((n : Int) != (n : Int)) = false := by simp
  go_enter Tryz.func137, Tryz.ntmps137
  go_wp2_with fail
  go_loopw [17] (fun v wr => ∃ i : Nat, i ≤ n ∧ v = .int .i64 (i : Nat) ∧ Cln w wr ∧ Hid (sameItems l m = sameItems (l.drop i) (m.drop i))) (fun v _ => (n - intOf v).toNat)
  case atStart => exact ⟨0, Nat.zero_le _, rfl, Below.refl _ _, rfl⟩
  case round =>
   obtain ⟨i, hi, rfl, hq, hH⟩ := hrel
   by_cases hlt : i < n
   ·obtain ⟨b, o, rfl, hblt, hcell⟩ := (hr.cln hq).cells (by omega)
    obtain ⟨b2, o2, rfl, hblt2, hcell2⟩ := (hs.cln hq).cells (by omega)
    obtain ⟨hc0, hc1⟩ := hcell i hlt
    obtain ⟨hd0, hd1⟩ := hcell2 i hlt
    have hstep := Lib.hid (hH.out.trans (sameItems_take l m i (by rw [hr.len]; exact hlt) (by rw [hs.len]; exact hlt)))
    have hx := hr.wf i
    have hy := hs.wf i
    clear hcell hcell2 hH
    generalize itAt l i = x at hc0 hc1 hstep hx
    generalize itAt m i = y at hd0 hd1 hstep hy
    have hsz : b < wr.heap.size + 1 := by omega
    have hsz2 : b2 < wr.heap.size + 1 := by omega
    have hn2 : ¬ b2 = wr.heap.size := by omega
    cases hE : sameItem x y with
    | true =>
     have hE' := Lib.hid hE
     go_wp2_with fail
     refine (same1_any x y hx hy _).mono ?_; rintro e w1 ⟨rfl, hq2⟩; rw [hE]
     clear hE
     go_wp2_with fail
     go_roundw
     case rel => exact ⟨i + 1, hlt, by go_num, cln_trans hq (cln_trans (by (repeat with_reducible first | exact cR _ | assumption | refine cA ?_ _ | refine cD ?_ | refine cN ?_ _ | refine cS ?_ (by first | omega | (simp <;> omega)) _)) hq2), by unfold Hid; rw [hstep.out, hE'.out, Bool.true_and]⟩
     case measure => simp [intOf]; omega
    | false =>
     have hE' := Lib.hid hE
     go_wp2_with fail
     refine (same1_any x y hx hy _).mono ?_; rintro e w1 ⟨rfl, hq2⟩; rw [hE]
     clear hE
     go_wp2_with fail
     go_ret
     exact ⟨ret_bool (by rw [hstep.out, hE'.out, Bool.false_and]), cln_trans hq (cln_trans (by (repeat with_reducible first | exact cR _ | assumption | refine cA ?_ _ | refine cD ?_ | refine cN ?_ _ | refine cS ?_ (by first | omega | (simp <;> omega)) _)) hq2)⟩
   ·obtain rfl : i = n := by omega
    have t2 : decide ((i : Int) < (i : Int)) = false := decide_eq_false (by omega)
    go_wp2_with fail
    go_ret
    exact ⟨ret_bool (by rw [hH.out, List.drop_of_length_le (by rw [hr.len]; exact Nat.le_refl _), List.drop_of_length_le (by rw [hs.len]; exact Nat.le_refl _)]; rfl), hq⟩
 ·have t1 : ((n : Int) != (k : Int)) = true := by rw [bne_iff_ne]; omega
  have hf := Lib.hid (sameItems_len l m (by rw [hr.len, hs.len]; exact hne))
  go_enter Tryz.func137, Tryz.ntmps137
  go_wp2_with fail
  go_ret
  exact ⟨ret_bool hf.out.symm, Below.refl _ _⟩

set_option maxHeartbeats 4000000 in
theorem same_any (a b : MRec) (A B : Option Addr) (n c k d : Nat) (w : World) (hr : RdItems w A n a.list) (hs : RdItems w B k b.list) (hn : n ≤ 140737488355328) (hk : k ≤ 140737488355328)
  (ha : a.real < 18446744073709551616) (hb : b.real < 18446744073709551616) :
  Calls Tryz.prog 123 #[recVal a A n c, recVal b B k d] w fun e w' => e = .returned (.bool (sameRec a b)) ∧ Cln w w' := by
 unfold recVal
 have hend : ∀ (v : Bool) (w' : World), v = sameRec a b → Cln w w' → (Ending.returned (.bool v) = .returned (.bool (sameRec a b)) ∧ Cln w w') := fun v w' h h2 => ⟨by rw [h], h2⟩
 go_enter Tryz.func123, Tryz.ntmps123
 go_wp2_with (first
  |(go_at_call 122; refine (fsame_any _ _ ha hb _).mono ?_; rintro e w' ⟨rfl, rfl⟩)
  |(go_at_call 137; refine (eqf_any a.list b.list A B n c k d _ (hr.cln (by (repeat with_reducible first | exact cR _ | assumption | refine cA ?_ _ | refine cD ?_ | refine cN ?_ _ | refine cS ?_ (by first | omega | (simp <;> omega)) _))) (hs.cln (by (repeat with_reducible first | exact cR _ | assumption | refine cA ?_ _ | refine cD ?_ | refine cN ?_ _ | refine cS ?_ (by first | omega | (simp <;> omega)) _))) hn hk).mono ?_; rintro e w1 ⟨rfl, hq⟩))
 all_goals
  go_ret
  refine hend _ _ ?_ (by first | (exact cln_trans (by (repeat with_reducible first | exact cR _ | assumption | refine cA ?_ _ | refine cD ?_ | refine cN ?_ _ | refine cS ?_ (by first | omega | (simp <;> omega)) _)) hq) | (repeat with_reducible first | exact cR _ | assumption | refine cA ?_ _ | refine cD ?_ | refine cN ?_ _ | refine cS ?_ (by first | omega | (simp <;> omega)) _))
  simp_all [sameRec]

/-! Clones. -/
theorem Tryz.info158 : (Tryz.prog.info? 158).map (fun i => (i.zero, i.size, i.bytes)) = some (some (.agg #[.float .f64 0, .string ⟨#[]⟩]), 2, 24) := by kernel_rfl
theorem itemVals_length (l : List MItem) : (itemVals l).length = l.length * 2 := by
 induction l with
 | nil => rfl
 | cons x l ih => simp only [itemVals, List.flatMap_cons, List.length_append, List.length_cons, List.length_nil] at *; omega
theorem itemVals_get (l : List MItem) : ∀ i, i < l.length → (itemVals l)[i * 2]? = some (.float .f64 (itAt l i).score) ∧ (itemVals l)[i * 2 + 1]? = some (.string (str (itAt l i).name)) := by
 induction l with
 | nil => intro i hi; simp at hi
 | cons x l ih =>
  intro i hi
  have e : itemVals (x :: l) = .float .f64 x.score :: .string (str x.name) :: itemVals l := rfl
  cases i with
  | zero => rw [e]; exact ⟨rfl, rfl⟩
  | succ i =>
   have := ih i (by simpa using hi)
   rw [e, show (i + 1) * 2 = i * 2 + 2 from by omega]
   exact this
theorem own_items {w : World} {base n c : Nat} {A : Option Addr} {l : List MItem} (h : w.ownsRow base 158 2 (.slice A n c) n (itemVals l)) (hwf : ∀ i, (itAt l i).score < 18446744073709551616) : RdItems w A n l := by
 obtain ⟨A', c', hv, hA, _⟩ := own_form h
 injection hv with h1 h2 h3
 subst h1
 have hl := h.1
 rw [itemVals_length] at hl
 refine ⟨by omega, hwf, fun h0 => ?_⟩
 rcases h.2 with ⟨hv, h00⟩ | ⟨g, cap, cur, hv, _, hg, _⟩
 ·omega
 ·injection hv with h1 h2 h3
  subst h1
  refine ⟨g, 0, rfl, lt_of_block hg, fun i hi => ?_⟩
  obtain ⟨g0, g1⟩ := itemVals_get l i (by omega)
  have c0 := h.cells (g := g) rfl _ _ g0
  have c1 := h.cells (g := g) rfl _ _ g1
  have e : ∀ j, (⟨g, 0, none⟩ : Addr).add j = ⟨g, 0 + j, none⟩ := fun j => by unfold Addr.add; split <;> simp_all
  rw [e] at c0 c1
  exact ⟨c0, by rw [Nat.add_assoc]; exact c1⟩

end Go.Proofs.YtbemnfbndjolpaaGreatDoor
