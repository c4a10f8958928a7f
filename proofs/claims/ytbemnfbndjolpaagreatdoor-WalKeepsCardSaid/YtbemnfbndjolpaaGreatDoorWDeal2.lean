/- The walks of Same of deals, of the program and of the document; how great a deal is. (Printed by wip/tools/gen_deal1.py.) -/
import Derived.Test.YtbemnfbndjolpaaGreatDoorRows2
import Derived.Test.YtbemnfbndjolpaaGreatDoorWAct7
import Derived.Test.YtbemnfbndjolpaaGreatDoorActA
import Derived.Deep.RegionWith
set_option linter.unusedSimpArgs false
set_option linter.unusedVariables false
set_option maxRecDepth 20000
namespace Go.Proofs.YtbemnfbndjolpaaGreatDoor
open Go.RowKit Moi
attribute [local go_sem] toList_str str_size less_ltB store_float
theorem sameActs_take (l m : List MAct) (i : Nat) (hl : i < l.length) (hm : i < m.length) :
  sameActs (l.drop i) (m.drop i) = (sameAct (actAt l i) (actAt m i) && sameActs (l.drop (i + 1)) (m.drop (i + 1))) := by
 rw [actAt_drop l i hl, actAt_drop m i hm, sameActs]
set_option maxHeartbeats 4000000 in
theorem rdsame_any (l m : List MAct) (A B : Option Addr) (n c k d : Nat) (hszx : ∀ a ∈ l, a.make.list.length ≤ 140737488355328) (hszy : ∀ a ∈ m, a.make.list.length ≤ 140737488355328) (hn : n ≤ 140737488355328) (w : World) (hr : RdActs w A n l) (hs : RdActs w B k m) :
  Calls Tryz.prog 45 #[.agg #[.slice A n c], .agg #[.slice B k d]] w fun e w' => e = .returned (.bool (sameActs l m)) ∧ Cln w w' := by
 by_cases hne : n = k
 ·subst hne
  have t1 : ((n : Int) != (n : Int)) = false := by simp
  have hb0 := Blk.new w 67 #[.slice A n c]
  have hb1 := Blk.new (w.alloc (.cells #[.slice A n c] 67)) 67 #[.slice B n d]
  rw [World.size_alloc] at hb1
  have hB : ∀ W, Cln ((w.alloc (.cells #[.slice A n c] 67)).alloc (.cells #[.slice B n d] 67)) W → W.cell? ⟨w.heap.size, 0, none⟩ = some (.slice A n c) ∧ W.cell? ⟨w.heap.size + 1, 0, none⟩ = some (.slice B n d) ∧ w.heap.size + 1 < W.heap.size ∧ Cln w W := fun W h =>
   ⟨by have := (hb0.alloc (.cells #[.slice B n d] 67)).cln h; exact this.cell 0, by have := hb1.cln h; exact this.cell 0, by have := h.size; simp at this; omega, cln_trans (by (repeat with_reducible first | exact cR _ | assumption | refine cA ?_ _ | refine cD ?_ | refine cN ?_ _ | refine cS ?_ (by first | omega | (simp <;> omega)) _)) h⟩
  have hB := Lib.hid hB
  clear hb0 hb1
  go_enter Tryz.func45, Tryz.ntmps45
  go_wp2_with fail
  go_loopw [5] (fun v wr => ∃ i : Nat, i ≤ n ∧ v = .int .i64 (i : Nat) ∧ Hid (Cln ((w.alloc (.cells #[.slice A n c] 67)).alloc (.cells #[.slice B n d] 67)) wr) ∧ Hid (sameActs l m = sameActs (l.drop i) (m.drop i))) (fun v _ => (n - intOf v).toNat)
  case atStart => exact ⟨0, Nat.zero_le _, rfl, Below.refl _ _, rfl⟩
  case round =>
   obtain ⟨i, hi, rfl, hcl0, hH⟩ := hrel
   obtain ⟨d0, d1, dl, hcl1⟩ := hB.out wr hcl0.out
   have hcl := Lib.hid hcl1
   clear hcl1
   by_cases hlt : i < n
   ·have t3 : decide ((i : Int) < (n : Int)) = true := decide_eq_true (by omega)
    have hstep := Lib.hid (hH.out.trans (sameActs_take l m i (by rw [hr.len]; exact hlt) (by rw [hs.len]; exact hlt)))
    clear hH
    obtain ⟨bx, ox, rfl, hbltx, hcellx⟩ := hr.rows (by omega)
    obtain ⟨Ax, nx, cx, hc0x⟩ := hcellx i (by omega)
    clear hcellx
    have hcx := hc0x.cln hcl.out
    have hwfx := hc0x.wf
    have hblt2x : bx < wr.heap.size := by have := hcl.out.size; omega
    have hnix : nx ≤ 140737488355328 := by have h1 := hszx _ (actAt_mem l i (by rw [hr.len]; omega)); have h2 := hc0x.it.len; omega
    clear hc0x
    generalize actAt l i = x at hcx hwfx hstep hnix
    have hitx := Lib.hid hcx.it
    have f0 := hcx.c0; have f1 := hcx.c1; have f2 := hcx.c2; have f3 := hcx.c3; have f4 := hcx.c4; have f5 := hcx.c5; have f6 := hcx.c6; have f7 := hcx.c7; have f8 := hcx.c8; have f9 := hcx.c9; have f10 := hcx.c10; have f11 := hcx.c11; have f12 := hcx.c12; have f13 := hcx.c13
    clear hcx
    obtain ⟨b2, oy, rfl, hblty, hcelly⟩ := hs.rows (by omega)
    obtain ⟨Ay, ny, cy, hc0y⟩ := hcelly i (by omega)
    clear hcelly
    have hcy := hc0y.cln hcl.out
    have hwfy := hc0y.wf
    have hblt2y : b2 < wr.heap.size := by have := hcl.out.size; omega
    have hniy : ny ≤ 140737488355328 := by have h1 := hszy _ (actAt_mem m i (by rw [hs.len]; omega)); have h2 := hc0y.it.len; omega
    clear hc0y
    generalize actAt m i = y at hcy hwfy hstep hniy
    have hity := Lib.hid hcy.it
    have g0 := hcy.c0; have g1 := hcy.c1; have g2 := hcy.c2; have g3 := hcy.c3; have g4 := hcy.c4; have g5 := hcy.c5; have g6 := hcy.c6; have g7 := hcy.c7; have g8 := hcy.c8; have g9 := hcy.c9; have g10 := hcy.c10; have g11 := hcy.c11; have g12 := hcy.c12; have g13 := hcy.c13
    clear hcy
    have hcall : ∀ W, Cln wr W → Calls Tryz.prog 66 #[.agg #[.int .i64 x.kind, .string (str x.key), .int .i64 x.n, .float .f64 x.x, .string (str x.s), .int .i64 x.make.kind, .int .i64 x.make.num, .int .i64 x.make.low, .int .i64 x.make.high, .float .f64 x.make.real, .int .i64 x.make.cap, .string (str x.make.text), .slice Ax nx cx, .bool x.must], .agg #[.int .i64 y.kind, .string (str y.key), .int .i64 y.n, .float .f64 y.x, .string (str y.s), .int .i64 y.make.kind, .int .i64 y.make.num, .int .i64 y.make.low, .int .i64 y.make.high, .float .f64 y.make.real, .int .i64 y.make.cap, .string (str y.make.text), .slice Ay ny cy, .bool y.must]] W fun e w' => e = .returned (.bool (sameAct x y)) ∧ Cln W w' := fun W h => rasame_any x y Ax Ay nx cx ny cy W (hitx.out.cln h) (hity.out.cln h) hnix hniy hwfx.x hwfy.x hwfx.make.real hwfy.make.real
    clear hitx hity hwfx hwfy
    go_wp2_with fail
    cases hE : sameAct x y with
    | true =>
     rw [hE] at hcall hstep
     clear hE
     go_region_with (go_at_call 66; with_reducible refine (hcall _ (Below.drew (Below.refl _ _))).mono ?_; rintro e w1 ⟨rfl, hq2⟩)
     all_goals
      clear f0 f1 f2 f3 f4 f5 f6 f7 f8 f9 f10 f11 f12 f13 g0 g1 g2 g3 g4 g5 g6 g7 g8 g9 g10 g11 g12 g13
      go_wp2_with fail
      go_roundw
      case rel => exact ⟨i + 1, hlt, by go_num, Lib.hid (cln_trans hcl0.out (cln_trans (Below.drew (Below.refl _ _)) hq2)), by unfold Hid; rw [hstep.out, Bool.true_and]⟩
      case measure => simp [intOf]; omega
    | false =>
     rw [hE] at hcall hstep
     clear hE
     go_region_with (go_at_call 66; with_reducible refine (hcall _ (Below.drew (Below.refl _ _))).mono ?_; rintro e w1 ⟨rfl, hq2⟩)
     all_goals
      clear f0 f1 f2 f3 f4 f5 f6 f7 f8 f9 f10 f11 f12 f13 g0 g1 g2 g3 g4 g5 g6 g7 g8 g9 g10 g11 g12 g13
      go_wp2_with fail
      go_ret
      exact ⟨ret_bool (by rw [hstep.out, Bool.false_and]), cln_trans hcl.out (cln_trans (Below.drew (Below.refl _ _)) hq2)⟩
   ·obtain rfl : i = n := by omega
    have t2 : decide ((i : Int) < (i : Int)) = false := decide_eq_false (by omega)
    go_wp2_with fail
    go_ret
    exact ⟨ret_bool (by rw [hH.out, List.drop_of_length_le (by rw [hr.len]; exact Nat.le_refl _), List.drop_of_length_le (by rw [hs.len]; exact Nat.le_refl _)]; rfl), hcl.out⟩
 ·have t1 : ((n : Int) != (k : Int)) = true := by rw [bne_iff_ne]; omega
  have hf := Lib.hid (sameActs_len l m (by rw [hr.len, hs.len]; exact hne))
  go_enter Tryz.func45, Tryz.ntmps45
  go_wp2_with fail
  go_ret
  exact ⟨ret_bool hf.out.symm, by (repeat with_reducible first | exact cR _ | assumption | refine cA ?_ _ | refine cD ?_ | refine cN ?_ _ | refine cS ?_ (by first | omega | (simp <;> omega)) _)⟩
def bigND (l : List MAct) : Int := if bigDeal l then 1 else 0
theorem bigD_le {l : List MAct} (h : bigND l = 0) : l.length ≤ 40 ∧ ∀ a ∈ l, bigNA a = 0 := by
 unfold bigND at h
 split at h
 ·cases h
 ·rename_i hb
  unfold bigDeal at hb
  rw [Bool.or_eq_true, not_or] at hb
  refine ⟨by have := hb.1; simp at this; omega, fun a ha => ?_⟩
  have h2 := hb.2
  rw [List.any_eq_true] at h2
  unfold bigNA
  rw [if_neg (fun h3 => h2 ⟨a, ha, h3⟩)]
theorem bigNA_list {a : MAct} (h : bigNA a = 0) : a.make.list.length ≤ 100 := (bigN_le a.make (bigA_le h).2.2).1
set_option maxHeartbeats 4000000 in
theorem bigD_any (l : List MAct) (A : Option Addr) (n c : Nat) (w : World) (hr : RdActs w A n l) :
  Calls Tryz.prog 39 #[.agg #[.slice A n c]] w fun e w' => e = .returned (.int .i64 (bigND l)) ∧ Cln w w' := by
 have hlen := hr.len
 by_cases h1 : 40 < n
 ·have hE : bigND l = 1 := by unfold bigND bigDeal; rw [if_pos (by simp; left; omega)]
  rw [hE]
  have t2 : decide (40 < (n : Int)) = true := decide_eq_true (by omega)
  go_enter Tryz.func39, Tryz.ntmps39
  go_wp2_with fail
  go_ret
  exact ⟨rfl, by (repeat with_reducible first | exact cR _ | assumption | refine cA ?_ _ | refine cD ?_ | refine cN ?_ _ | refine cS ?_ (by first | omega | (simp <;> omega)) _)⟩
 have t2 : decide (40 < (n : Int)) = false := decide_eq_false (by omega)
 have hE : Hid (bigND l = if l.any bigAct then 1 else 0) := by unfold Hid bigND bigDeal; rw [decide_eq_false (by omega), Bool.false_or]
 go_enter Tryz.func39, Tryz.ntmps39
 go_wp2_with fail
 go_loopw [12] (fun v wr => ∃ i : Nat, i ≤ n ∧ v = .int .i64 (i : Nat) ∧ Hid (Cln w wr) ∧ Hid (bigND l = if (l.drop i).any bigAct then 1 else 0)) (fun v _ => (n - intOf v).toNat)
 case atStart => exact ⟨0, Nat.zero_le _, rfl, Lib.hid (by (repeat with_reducible first | exact cR _ | assumption | refine cA ?_ _ | refine cD ?_ | refine cN ?_ _ | refine cS ?_ (by first | omega | (simp <;> omega)) _)), by simpa using hE⟩
 case round =>
  obtain ⟨i, hi, rfl, hcl, hH⟩ := hrel
  by_cases hlt : i < n
  ·have t3 : decide ((i : Int) < (n : Int)) = true := decide_eq_true (by omega)
   obtain ⟨b, o, rfl, hblt, hcell⟩ := hr.rows (by omega)
   obtain ⟨Ai, ni, ci, hc0⟩ := hcell i hlt
   clear hcell
   have hc := hc0.cln hcl.out
   have hblt2 : b < wr.heap.size := by have := hcl.out.size; omega
   clear hc0
   have hstep : Hid (bigND l = if bigAct (actAt l i) || (l.drop (i + 1)).any bigAct then 1 else 0) := by
    unfold Hid; rw [hH.out, actAt_drop l i (by omega), List.any_cons]
   generalize hrr : actAt l i = r at hc hstep
   have f0 := hc.c0; have f1 := hc.c1; have f2 := hc.c2; have f3 := hc.c3; have f4 := hc.c4; have f5 := hc.c5; have f6 := hc.c6; have f7 := hc.c7; have f8 := hc.c8; have f9 := hc.c9; have f10 := hc.c10; have f11 := hc.c11; have f12 := hc.c12; have f13 := hc.c13
   have hit := Lib.hid hc.it
   clear hc hrr hH
   go_wp2_with fail
   refine (bigA_any r Ai ni ci _ (hit.out.cln (by (repeat with_reducible first | exact cR _ | assumption | refine cA ?_ _ | refine cD ?_ | refine cN ?_ _ | refine cS ?_ (by first | omega | (simp <;> omega)) _)))).mono ?_; rintro e w3 ⟨rfl, hq⟩
   clear f0 f1 f2 f3 f4 f5 f6 f7 f8 f9 f10 f11 f12 f13
   have hcl3 := Lib.hid (cln_trans hcl.out (cln_trans (by (repeat with_reducible first | exact cR _ | assumption | refine cA ?_ _ | refine cD ?_ | refine cN ?_ _ | refine cS ?_ (by first | omega | (simp <;> omega)) _)) hq))
   clear hq hcl
   have hnb : bigNA r = if bigAct r then 1 else 0 := rfl
   cases hca : bigAct r with
   | false =>
    rw [hca] at hnb hstep
    rw [hnb]
    have hst : Hid (bigND l = if (l.drop (i + 1)).any bigAct then 1 else 0) := by unfold Hid; rw [hstep.out, Bool.false_or]
    clear hnb hca
    go_wp2_with fail
    go_roundw
    case rel => exact ⟨i + 1, hlt, by go_num, hcl3, hst⟩
    case measure => simp [intOf]; omega
   | true =>
    rw [hca] at hnb hstep
    rw [hnb]
    have hst : Hid (bigND l = 1) := by unfold Hid; rw [hstep.out, Bool.true_or]; rfl
    clear hnb hca
    go_wp2_with fail
    go_ret
    exact ⟨by rw [hst.out]; rfl, hcl3.out⟩
  ·obtain rfl : i = n := by omega
   have t3 : decide ((i : Int) < (i : Int)) = false := decide_eq_false (by omega)
   go_wp2_with fail
   go_ret
   exact ⟨by rw [hH.out, List.drop_of_length_le (by omega)]; rfl, hcl.out⟩
end Go.Proofs.YtbemnfbndjolpaaGreatDoor
