/- The walks of Same of lots; how great deals are. (Printed by wip/tools/gen_lot2.py.) -/
import Derived.Test.YtbemnfbndjolpaaGreatDoorWDeal2
import Derived.Test.YtbemnfbndjolpaaGreatDoorWLot1
set_option linter.unusedSimpArgs false
set_option linter.unusedVariables false
set_option maxRecDepth 20000
namespace Go.Proofs.YtbemnfbndjolpaaGreatDoor
open Go.RowKit Moi
attribute [local go_sem] toList_str str_size less_ltB store_float
theorem sameDeals_take (l m : List (List MAct)) (i : Nat) (hl : i < l.length) (hm : i < m.length) :
  sameDeals (l.drop i) (m.drop i) = (sameActs (dealAt l i) (dealAt m i) && sameDeals (l.drop (i + 1)) (m.drop (i + 1))) := by
 rw [dealAt_drop l i hl, dealAt_drop m i hm, sameDeals]
set_option maxHeartbeats 4000000 in
theorem rlsame_any (x y : MLot) (A B : Option Addr) (n c k d : Nat) (hmx : Mod x.deals) (hmy : Mod y.deals) (hn : n ≤ 140737488355328) (w : World) (hr : RdDeals w A n x.deals) (hs : RdDeals w B k y.deals) :
  Calls Tryz.prog 25 #[.agg #[.int .i64 x.num, .slice A n c], .agg #[.int .i64 y.num, .slice B k d]] w fun e w' => e = .returned (.bool (sameLot x y)) ∧ Cln w w' := by
 obtain ⟨p, l⟩ := x
 obtain ⟨q, m⟩ := y
 simp only at hr hs hmx hmy
 cases h : (p == q) with
 | false =>
  have hE : sameLot ⟨p, l⟩ ⟨q, m⟩ = false := by unfold sameLot; simp only; rw [h]; rfl
  rw [hE]
  have t1 : (p != q) = true := by simp [bne, h]
  clear hE
  go_enter Tryz.func25, Tryz.ntmps25
  go_wp2_with fail
  go_ret
  exact ⟨rfl, by (repeat with_reducible first | exact cR _ | assumption | refine cA ?_ _ | refine cD ?_ | refine cN ?_ _ | refine cS ?_ (by first | omega | (simp <;> omega)) _)⟩
 | true =>
 have hE : sameLot ⟨p, l⟩ ⟨q, m⟩ = sameDeals l m := by unfold sameLot; simp only; rw [h]; rfl
 rw [hE]
 have t0 : (p != q) = false := by simp [bne, h]
 clear hE h
 by_cases hne : n = k
 ·subst hne
  have t1 : ((n : Int) != (n : Int)) = false := by simp
  have hb0 := Blk.new w 38 #[.int .i64 p, .slice A n c]
  have hb1 := Blk.new (w.alloc (.cells #[.int .i64 p, .slice A n c] 38)) 38 #[.int .i64 q, .slice B n d]
  rw [World.size_alloc] at hb1
  have hB : ∀ W, Cln ((w.alloc (.cells #[.int .i64 p, .slice A n c] 38)).alloc (.cells #[.int .i64 q, .slice B n d] 38)) W → W.cell? ⟨w.heap.size, 1, none⟩ = some (.slice A n c) ∧ W.cell? ⟨w.heap.size + 1, 1, none⟩ = some (.slice B n d) ∧ w.heap.size + 1 < W.heap.size ∧ Cln w W := fun W h =>
   ⟨by have := (hb0.alloc (.cells #[.int .i64 q, .slice B n d] 38)).cln h; exact this.cell 1, by have := hb1.cln h; exact this.cell 1, by have := h.size; simp at this; omega, cln_trans (by (repeat with_reducible first | exact cR _ | assumption | refine cA ?_ _ | refine cD ?_ | refine cN ?_ _ | refine cS ?_ (by first | omega | (simp <;> omega)) _)) h⟩
  have hB := Lib.hid hB
  clear hb0 hb1
  go_enter Tryz.func25, Tryz.ntmps25
  go_wp2_with fail
  go_loopw [5] (fun v wr => ∃ i : Nat, i ≤ n ∧ v = .int .i64 (i : Nat) ∧ Hid (Cln ((w.alloc (.cells #[.int .i64 p, .slice A n c] 38)).alloc (.cells #[.int .i64 q, .slice B n d] 38)) wr) ∧ Hid (sameDeals l m = sameDeals (l.drop i) (m.drop i))) (fun v _ => (n - intOf v).toNat)
  case atStart => exact ⟨0, Nat.zero_le _, rfl, Below.refl _ _, rfl⟩
  case round =>
   obtain ⟨i, hi, rfl, hcl0, hH⟩ := hrel
   obtain ⟨d0, d1, dl, hcl1⟩ := hB.out wr hcl0.out
   have hcl := Lib.hid hcl1
   clear hcl1
   by_cases hlt : i < n
   ·have t3 : decide ((i : Int) < (n : Int)) = true := decide_eq_true (by omega)
    have hstep := Lib.hid (hH.out.trans (sameDeals_take l m i (by rw [hr.len]; exact hlt) (by rw [hs.len]; exact hlt)))
    clear hH
    obtain ⟨bx, ox, rfl, hbltx, hcellx⟩ := hr.rows (by omega)
    obtain ⟨Ax, nx, cx, hc0x⟩ := hcellx i (by omega)
    clear hcellx
    have hcx := hc0x.cln hcl.out
    have hblt2x : bx < wr.heap.size := by have := hcl.out.size; omega
    have hmix := hmx.items _ (dealAt_mem l i (by rw [hr.len]; omega))
    have hnix : nx ≤ 140737488355328 := by have h1 := hmx.deals _ (dealAt_mem l i (by rw [hr.len]; omega)); have h2 := hc0x.it.len; omega
    clear hc0x
    replace hmix := Lib.hid hmix
    generalize dealAt l i = x at hcx hstep hmix
    have hitx := Lib.hid hcx.it
    have f0 := hcx.c0
    clear hcx
    obtain ⟨bz, oy, rfl, hblty, hcelly⟩ := hs.rows (by omega)
    obtain ⟨Ay, ny, cy, hc0y⟩ := hcelly i (by omega)
    clear hcelly
    have hcy := hc0y.cln hcl.out
    have hblt2y : bz < wr.heap.size := by have := hcl.out.size; omega
    have hmiy := hmy.items _ (dealAt_mem m i (by rw [hs.len]; omega))
    have hniy : ny ≤ 140737488355328 := by have h1 := hmy.deals _ (dealAt_mem m i (by rw [hs.len]; omega)); have h2 := hc0y.it.len; omega
    clear hc0y
    replace hmiy := Lib.hid hmiy
    generalize dealAt m i = y at hcy hstep hmiy
    have hity := Lib.hid hcy.it
    have g0 := hcy.c0
    clear hcy
    have hcall : ∀ W, Cln wr W → Calls Tryz.prog 45 #[.agg #[.slice Ax nx cx], .agg #[.slice Ay ny cy]] W fun e w' => e = .returned (.bool (sameActs x y)) ∧ Cln W w' := fun W h => rdsame_any x y Ax Ay nx cx ny cy hmix.out hmiy.out hnix W (hitx.out.cln h) (hity.out.cln h)
    clear hitx hity
    go_wp2_with fail
    cases hE : sameActs x y with
    | true =>
     rw [hE] at hcall hstep
     clear hE
     go_region_with (go_at_call 45; with_reducible refine (hcall _ (Below.drew (Below.refl _ _))).mono ?_; rintro e w1 ⟨rfl, hq2⟩)
     all_goals
      clear f0 g0
      go_wp2_with fail
      go_roundw
      case rel => exact ⟨i + 1, hlt, by go_num, Lib.hid (cln_trans hcl0.out (cln_trans (Below.drew (Below.refl _ _)) hq2)), by unfold Hid; rw [hstep.out, Bool.true_and]⟩
      case measure => simp [intOf]; omega
    | false =>
     rw [hE] at hcall hstep
     clear hE
     go_region_with (go_at_call 45; with_reducible refine (hcall _ (Below.drew (Below.refl _ _))).mono ?_; rintro e w1 ⟨rfl, hq2⟩)
     all_goals
      clear f0 g0
      go_wp2_with fail
      go_ret
      exact ⟨ret_bool (by rw [hstep.out, Bool.false_and]), cln_trans hcl.out (cln_trans (Below.drew (Below.refl _ _)) hq2)⟩
   ·obtain rfl : i = n := by omega
    have t2 : decide ((i : Int) < (i : Int)) = false := decide_eq_false (by omega)
    go_wp2_with fail
    go_ret
    exact ⟨ret_bool (by rw [hH.out, List.drop_of_length_le (by rw [hr.len]; exact Nat.le_refl _), List.drop_of_length_le (by rw [hs.len]; exact Nat.le_refl _)]; rfl), hcl.out⟩
 ·have t1 : ((n : Int) != (k : Int)) = true := by rw [bne_iff_ne]; omega
  have hf := Lib.hid (sameDeals_len l m (by rw [hr.len, hs.len]; exact hne))
  go_enter Tryz.func25, Tryz.ntmps25
  go_wp2_with fail
  go_ret
  exact ⟨ret_bool hf.out.symm, by (repeat with_reducible first | exact cR _ | assumption | refine cA ?_ _ | refine cD ?_ | refine cN ?_ _ | refine cS ?_ (by first | omega | (simp <;> omega)) _)⟩
def bigNL (l : List (List MAct)) : Int := if bigDeals l then 1 else 0
theorem bigL_or (l : List (List MAct)) : bigNL l = 0 ∨ bigNL l = 1 := by unfold bigNL; split <;> simp
theorem bigL_le {l : List (List MAct)} (h : bigNL l = 0) : l.length ≤ 40 ∧ ∀ a ∈ l, bigND a = 0 := by
 unfold bigNL at h
 split at h
 ·cases h
 ·rename_i hb
  unfold bigDeals at hb
  rw [Bool.or_eq_true, not_or] at hb
  refine ⟨by have := hb.1; simp at this; omega, fun a ha => ?_⟩
  have h2 := hb.2
  rw [List.any_eq_true] at h2
  unfold bigND
  rw [if_neg (fun h3 => h2 ⟨a, ha, h3⟩)]
theorem bigL_mod {l : List (List MAct)} (h : bigNL l = 0) : Mod l :=
 ⟨fun d hd => by have := (bigD_le ((bigL_le h).2 d hd)).1; omega, fun d hd a ha => by have := bigNA_list ((bigD_le ((bigL_le h).2 d hd)).2 a ha); omega⟩
set_option maxHeartbeats 4000000 in
theorem bigL_any (l : List (List MAct)) (A : Option Addr) (n c : Nat) (w : World) (hr : RdDeals w A n l) :
  Calls Tryz.prog 13 #[.slice A n c] w fun e w' => e = .returned (.int .i64 (bigNL l)) ∧ Cln w w' := by
 have hlen := hr.len
 by_cases h1 : 40 < n
 ·have hE : bigNL l = 1 := by unfold bigNL bigDeals; rw [if_pos (by simp; left; omega)]
  rw [hE]
  have t2 : decide (40 < (n : Int)) = true := decide_eq_true (by omega)
  go_enter Tryz.func13, Tryz.ntmps13
  go_wp2_with fail
  go_ret
  exact ⟨rfl, by (repeat with_reducible first | exact cR _ | assumption | refine cA ?_ _ | refine cD ?_ | refine cN ?_ _ | refine cS ?_ (by first | omega | (simp <;> omega)) _)⟩
 have t2 : decide (40 < (n : Int)) = false := decide_eq_false (by omega)
 have hE : Hid (bigNL l = if l.any bigDeal then 1 else 0) := by unfold Hid bigNL bigDeals; rw [decide_eq_false (by omega), Bool.false_or]
 go_enter Tryz.func13, Tryz.ntmps13
 go_wp2_with fail
 go_loopw [10] (fun v wr => ∃ i : Nat, i ≤ n ∧ v = .int .i64 (i : Nat) ∧ Hid (Cln w wr) ∧ Hid (bigNL l = if (l.drop i).any bigDeal then 1 else 0)) (fun v _ => (n - intOf v).toNat)
 case atStart => exact ⟨0, Nat.zero_le _, rfl, Lib.hid (by (repeat with_reducible first | exact cR _ | assumption | refine cA ?_ _ | refine cD ?_ | refine cN ?_ _ | refine cS ?_ (by first | omega | (simp <;> omega)) _)), by simpa using hE⟩
 case round =>
  obtain ⟨i, hi, rfl, hcl, hH⟩ := hrel
  by_cases hlt : i < n
  ·have t3 : decide ((i : Int) < (n : Int)) = true := decide_eq_true (by omega)
   obtain ⟨b, o, rfl, hblt, hcell⟩ := hr.rows (by omega)
   obtain ⟨Ai, ni, ci, hc0⟩ := hcell i hlt
   clear hcell
   have hc := hc0.cln hcl.out
   have hblt2 : b < wr.heap.size := by have := hcl.out.size; omega
   clear hc0
   have hstep : Hid (bigNL l = if bigDeal (dealAt l i) || (l.drop (i + 1)).any bigDeal then 1 else 0) := by
    unfold Hid; rw [hH.out, dealAt_drop l i (by omega), List.any_cons]
   generalize hrr : dealAt l i = r at hc hstep
   have f0 := hc.c0
   have hit := Lib.hid hc.it
   clear hc hrr hH
   go_wp2_with fail
   refine (bigD_any r Ai ni ci _ (hit.out.cln (by (repeat with_reducible first | exact cR _ | assumption | refine cA ?_ _ | refine cD ?_ | refine cN ?_ _ | refine cS ?_ (by first | omega | (simp <;> omega)) _)))).mono ?_; rintro e w3 ⟨rfl, hq⟩
   clear f0
   have hcl3 := Lib.hid (cln_trans hcl.out (cln_trans (by (repeat with_reducible first | exact cR _ | assumption | refine cA ?_ _ | refine cD ?_ | refine cN ?_ _ | refine cS ?_ (by first | omega | (simp <;> omega)) _)) hq))
   clear hq hcl
   have hnb : bigND r = if bigDeal r then 1 else 0 := rfl
   cases hca : bigDeal r with
   | false =>
    rw [hca] at hnb hstep
    rw [hnb]
    have hst : Hid (bigNL l = if (l.drop (i + 1)).any bigDeal then 1 else 0) := by unfold Hid; rw [hstep.out, Bool.false_or]
    clear hnb hca
    go_wp2_with fail
    go_roundw
    case rel => exact ⟨i + 1, hlt, by go_num, hcl3, hst⟩
    case measure => simp [intOf]; omega
   | true =>
    rw [hca] at hnb hstep
    rw [hnb]
    have hst : Hid (bigNL l = 1) := by unfold Hid; rw [hstep.out, Bool.true_or]; rfl
    clear hnb hca
    go_wp2_with fail
    go_ret
    exact ⟨by rw [hst.out]; rfl, hcl3.out⟩
  ·obtain rfl : i = n := by omega
   have t3 : decide ((i : Int) < (i : Int)) = false := decide_eq_false (by omega)
   go_wp2_with fail
   go_ret
   exact ⟨by rw [hH.out, List.drop_of_length_le (by omega)]; rfl, hcl.out⟩
end Go.Proofs.YtbemnfbndjolpaaGreatDoor
