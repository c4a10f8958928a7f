/- The law DealTakes. (Printed by wip/tools/gen_ldealt.py.) -/
import Derived.Test.YtoeoodiifpoomaaGreatDoorWGenD
import Derived.Test.YtoeoodiifpoomaaGreatDoorDeals
import Derived.Test.YtoeoodiifpoomaaGreatDoorRows2
import Derived.Deep.RegionWith
set_option linter.unusedSimpArgs false
set_option linter.unusedVariables false
set_option maxRecDepth 20000
namespace Go.Proofs.YtoeoodiifpoomaaGreatDoor
open Go.RowKit Moi
attribute [local go_sem] toList_str str_size less_ltB store_float
def catDeals (l : List (List MAct)) : List UInt8 := l.flatMap wDeal
theorem catDeals_take (l : List (List MAct)) (i : Nat) (h : i < l.length) : catDeals (l.take (i + 1)) = catDeals (l.take i) ++ wDeal (dealAt l i) := by
 have : l.take (i + 1) = l.take i ++ [dealAt l i] := by
  rw [List.take_add_one, List.getElem?_eq_getElem h]; simp [dealAt, List.getD, h]
 rw [this]; simp [catDeals]
theorem catDeals_at (l : List (List MAct)) (i : Nat) (h : i < l.length) : (catDeals l).drop (catDeals (l.take i)).length = wDeal (dealAt l i) ++ catDeals (l.drop (i + 1)) := by
 have e : l = l.take i ++ (dealAt l i :: l.drop (i + 1)) := by
  have := List.drop_eq_getElem_cons h
  rw [show dealAt l i = l[i] from by simp [dealAt, List.getD, h], ← this, List.take_append_drop]
 have e2 : catDeals l = catDeals (l.take i) ++ (wDeal (dealAt l i) ++ catDeals (l.drop (i + 1))) := by
  conv => lhs; rw [e]
  simp [catDeals]
 rw [e2, List.drop_left]
theorem catD_len : ∀ (l : List (List MAct)), (∀ j, j < l.length → (checkDeal (dealAt l j)).1 = 0 ∧ ∀ a ∈ dealAt l j, a.WF) → (catDeals l).length ≤ 16820 * l.length
 | [], _ => by simp [catDeals]
 | d :: l, h => by
  have h0 := h 0 (by simp)
  have h1 := wDeal_len (l := d) h0.1 h0.2
  have h2 := catD_len l fun j hj => by have := h (j + 1) (by simp; omega); simpa [dealAt] using this
  simp only [catDeals, List.flatMap_cons, List.length_append, List.length_cons] at h2 ⊢
  omega
set_option maxHeartbeats 8000000 in
theorem lDealTakes (l : List (List MAct)) (A : Option Addr) (n c : Nat) (w : World) (hK : KindsAt w) (hr : RdDeals w A n l) :
  Calls Tryz.prog 11 #[.slice A n c] w fun e w' => e = .returned (.bool true) ∧ Cln w w' := by
 have hlen : Hid (l.length = n) := hr.len
 have hfull : Hid (∀ i, i < n → ∀ a ∈ dealAt l i, FullA a) := fun i hi => by
  obtain ⟨b, o, _, _, h⟩ := hr.rows (by omega)
  obtain ⟨Ai, ni, ci, hc⟩ := h i hi
  exact hc.it.full
 go_enter Tryz.func11, Tryz.ntmps11
 go_wp2_with fail
 refine (speaks_deal _ hK).mono ?_; rintro e w1 ⟨rfl, hq⟩
 have hr1 := Lib.hid hr
 have hcl1 := Lib.hid hq
 clear hr hq
 by_cases hn : n ≤ 10
 case neg =>
  have t1 : decide (10 < (n : Int)) = true := decide_eq_true (by omega)
  go_wp2_with fail
  go_ret
  exact ⟨rfl, hcl1.out⟩
 have t1 : decide (10 < (n : Int)) = false := decide_eq_false (by omega)
 have hW1 := Lib.hid (newWriter w1)
 have hcl2 := Lib.hid (cln_trans hcl1.out (show Cln w1 (w1.alloc (.cells #[.slice none 0 0] 65)) from by (repeat with_reducible first | exact cR _ | assumption | refine cA ?_ _ | refine cD ?_ | refine cN ?_ _ | refine cS ?_ (by first | omega | (simp <;> omega)) _)))
 have hge : w.heap.size ≤ w1.heap.size := hcl1.out.size
 go_wp2_with fail
 go_loopw [18] (fun v wr => ∃ i : Nat, i ≤ n ∧ v = .int .i64 (i : Nat) ∧ Hid (Cln w wr) ∧ Hid (w1.heap.size < wr.heap.size) ∧ Hid (IsW wr w1.heap.size w1.heap.size (catDeals (l.take i))) ∧ Hid (∀ j, j < i → (checkDeal (dealAt l j)).1 = 0)) (fun v _ => (n - intOf v).toNat)
 case atStart => exact ⟨0, Nat.zero_le _, rfl, Lib.hid (cln_trans hcl2.out (by (repeat with_reducible first | exact cR _ | assumption | refine cA ?_ _ | refine cD ?_ | refine cN ?_ _ | refine cS ?_ (by first | omega | (simp <;> omega)) _))), Lib.hid (by simp), Lib.hid (by simpa [catDeals] using hW1.out.cln (by (repeat with_reducible first | exact cR _ | assumption | refine cA ?_ _ | refine cD ?_ | refine cN ?_ _ | refine cS ?_ (by first | omega | (simp <;> omega)) _))), fun j hj => by omega⟩
 case round =>
  clear hW1 hcl2
  obtain ⟨i, hi, rfl, hcl, hsz, hW, hck⟩ := hrel
  by_cases hlt : i < n
  ·obtain ⟨b, o, rfl, hblt, hcell⟩ := hr1.out.rows (by omega)
   obtain ⟨Ai, ni, ci, hc0⟩ := hcell i hlt
   clear hcell
   have hc := hc0.cln hcl.out
   have hit0 := Lib.hid hc0.it
   have hff := Lib.hid (hfull.out i hlt)
   clear hc0
   have hblt2 : b < wr.heap.size := by have := hcl.out.size; omega
   generalize hrr : dealAt l i = r at hc hit0 hff
   have f0 := hc.c0
   clear hc
   have hrr := Lib.hid hrr
   have hb3 := Blk.new wr 48 #[.slice Ai ni ci]
   have hkA : Cln wr (wr.alloc (.cells #[.slice Ai ni ci] 48)) := by (repeat with_reducible first | exact cR _ | assumption | refine cA ?_ _ | refine cD ?_ | refine cN ?_ _ | refine cS ?_ (by first | omega | (simp <;> omega)) _)
   go_wp2_with fail
   have hclA := Lib.hid (cln_trans hcl.out hkA)
   have hWA := Lib.hid (hW.out.cln hkA)
   have hszA : w1.heap.size < (wr.alloc (.cells #[.slice Ai ni ci] 48)).heap.size := by have := hsz.out; simp; omega
   clear hkA f0
   refine (rdcheck_gen r Ai ni ci _ (hit0.out.cln hclA.out)).mono ?_; rintro e w3 ⟨rfl, hq⟩
   have hb4 := Lib.hid (hb3.cln hq)
   have hcl3 := Lib.hid (cln_trans hclA.out hq)
   have hW3 := Lib.hid (hWA.out.cln hq)
   have hsz3 : w1.heap.size < w3.heap.size := by have := hq.size; omega
   have hgx : wr.heap.size < w3.heap.size := hb4.out.lt
   clear hq hW hcl hsz hb3 hclA hWA hszA hblt hblt2
   have f0 := hb4.out.cell 0
   have lF := hb4.out.lt
   go_wp2_with fail
   refine (bigD_any r Ai ni ci _ (hit0.out.cln hcl3.out)).mono ?_; rintro e w4 ⟨rfl, hq⟩
   clear f0 lF
   have hb5 := Lib.hid (hb4.out.cln hq)
   have hcl4 := Lib.hid (cln_trans hcl3.out hq)
   have hW4 := Lib.hid (hW3.out.cln hq)
   have hsz4 : w1.heap.size < w4.heap.size := by have := hq.size; omega
   clear hq hb4 hcl3 hW3 hsz3
   rcases bigD_or r with hbig | hbig
   case inr =>
    rw [hbig]
    go_wp2_with fail
    go_ret
    exact ⟨rfl, hcl4.out⟩
   rw [hbig]
   clear hbig
   by_cases hca : (checkDeal r).1 = 0
   case neg =>
    have t3 : ((((checkDeal r).1 : Nat) : Int) != 0) = true := by rw [bne_iff_ne]; omega
    go_wp2_with fail
    go_ret
    exact ⟨rfl, hcl4.out⟩
   have t3 : ((((checkDeal r).1 : Nat) : Int) != 0) = false := by rw [hca]; rfl
   have hcaH := Lib.hid hca
   clear hca
   have hck' : Hid (∀ j, j < i + 1 → (checkDeal (dealAt l j)).1 = 0) := fun j hj => by
    rcases Nat.lt_or_ge j i with h | h
    ·exact hck.out j h
    ·obtain rfl : j = i := by omega
     rw [hrr.out]; exact hcaH.out
   have hbnd : (catDeals (l.take i)).length + (wDeal r).length ≤ 1099511627776 := by
    have h1 := catD_len (l.take i) (fun j hj => by
     rw [List.length_take] at hj
     have e : dealAt (l.take i) j = dealAt l j := by simp [dealAt, List.getD, List.getElem?_take_of_lt (show j < i from by omega)]
     rw [e]; exact ⟨hck.out j (by omega), fun a ha => (hfull.out j (by omega) a ha).wf⟩)
    have h2 := wDeal_len hcaH.out (fun a ha => (hff.out a ha).wf)
    rw [List.length_take] at h1
    omega
   have hcat : Hid (catDeals (l.take (i + 1)) = catDeals (l.take i) ++ wDeal r) := by unfold Hid; rw [catDeals_take l i (by rw [hlen.out]; exact hlt), hrr.out]
   have hnr : ni ≤ 12 := by have h1 := (deal_ok hcaH.out).2.1; have h2 := hit0.out.len; omega
   have f0 := hb5.out.cell 0
   have lF := hb5.out.lt
   go_wp2_with fail
   refine (dwrite_any w1.heap.size w1.heap.size (catDeals (l.take i)) r (deal_ok hcaH.out).2.2.1 Ai ni ci hnr w hK hit0.out hge _ hcl4.out hW4.out hbnd).mono ?_
   rintro e w5 ⟨rfl, hW5, hK5⟩
   clear f0 lF
   have hcl5 := Lib.hid (show Cln w w5 from hcl4.out.trans (Below.mono (WS_below hK5 (Nat.le_refl _) (by omega)) hge))
   have hsz5 : Hid (w1.heap.size < w5.heap.size) := by unfold Hid; have := hK5.size; omega
   rw [← hcat.out] at hW5
   have hW5 := Lib.hid hW5
   clear hK5 hW4 hit0 hb5 hcl4
   go_wp2_with fail
   go_roundw
   case rel => exact ⟨i + 1, hlt, by go_num, hcl5, hsz5, hW5, hck'⟩
   case measure => simp [intOf]; omega
  ·obtain rfl : i = n := by omega
   have t2 : decide ((i : Int) < (i : Int)) = false := decide_eq_false (by omega)
   rw [List.take_of_length_le (by rw [hlen.out]; exact Nat.le_refl _)] at hW
   have hall : Hid (∀ j, j < l.length → (checkDeal (dealAt l j)).1 = 0 ∧ ∀ a ∈ dealAt l j, a.WF) := fun j hj => ⟨hck.out j (by rw [hlen.out] at hj; exact hj), fun a ha => (hfull.out j (by rw [hlen.out] at hj; exact hj) a ha).wf⟩
   have hbl : (catDeals l).length ≤ 168200 := by have := catD_len l hall.out; rw [hlen.out] at this; omega
   clear hck
   go_wp2_with fail
   refine (bytes_any _ _ _ _ hW.out (by omega)).mono ?_
   rintro e w6 ⟨A', c', m, hm, rfl, hown, hq⟩
   obtain ⟨hrd, hnc, hmm, hA'⟩ := newBytes_ok hown
   have hmb : m ≤ 168200 := by omega
   replace hmm := Lib.hid hmm
   have hcl6 := Lib.hid (cln_trans hcl.out hq)
   have hge6 : w.heap.size ≤ w6.heap.size := hcl6.out.size
   clear hown hq hW hcl hsz hm
   go_wp2_with fail
   refine (new_any A' m c' _ w6 hrd hnc (by omega) (fun ad e => (hA' ad e).1)).mono ?_
   rintro e w7 ⟨rfl, hR, hq⟩
   have hcl7 := Lib.hid (cln_trans hcl6.out hq)
   have hsz7 : w6.heap.size < w7.heap.size := hR.blk.lt
   have hA7 : Hid (∀ ad, A' = some ad → ad.block < w6.heap.size) := fun ad e => (hA' ad e).1
   have hR := Lib.hid hR
   clear hrd hA' hq hcl6
   go_wp2_with fail
   go_loopw [41] (fun v wr => ∃ j : Nat, j ≤ i ∧ v = .int .i64 (j : Nat) ∧ Hid (Cln w wr) ∧ Hid (w6.heap.size < wr.heap.size) ∧ Hid (IsR wr w6.heap.size A' m c' (catDeals l) (catDeals (l.take j)).length)) (fun v _ => (i - intOf v).toNat)
   case atStart => exact ⟨0, Nat.zero_le _, rfl, Lib.hid (cln_trans hcl7.out (by (repeat with_reducible first | exact cR _ | assumption | refine cA ?_ _ | refine cD ?_ | refine cN ?_ _ | refine cS ?_ (by first | omega | (simp <;> omega)) _))), Lib.hid hsz7, Lib.hid (by simpa [catDeals] using hR.out.cln (by (repeat with_reducible first | exact cR _ | assumption | refine cA ?_ _ | refine cD ?_ | refine cN ?_ _ | refine cS ?_ (by first | omega | (simp <;> omega)) _)))⟩
   case round =>
    clear hR hcl7 hsz7
    obtain ⟨j, hj, rfl, hcl, hsz, hR⟩ := hrel
    by_cases hlt : j < i
    ·obtain ⟨b, o, rfl, hblt, hcell⟩ := hr1.out.rows (by omega)
     obtain ⟨Ai, ni, ci, hc0⟩ := hcell j hlt
     clear hcell
     have hc := hc0.cln hcl.out
     have hit0 := Lib.hid hc0.it
     have hff := Lib.hid (hfull.out j hlt)
     have hblt2 : b < wr.heap.size := by have := hcl.out.size; omega
     have hca := Lib.hid (hall.out j (by rw [hlen.out]; exact hlt)).1
     have hat := catDeals_at l j (by rw [hlen.out]; exact hlt)
     have htk := Lib.hid (catDeals_take l j (by rw [hlen.out]; exact hlt))
     generalize hrr : dealAt l j = r at hc hit0 hff hca hat htk
     clear hrr hc0
     have hrd := Lib.hid (rDeal_of hca.out hff.out hat)
     clear hat
     have f0 := hc.c0
     clear hc
     have hmr : Hid (∀ a ∈ r, a.make.list.length ≤ 140737488355328) := fun a ha => by have := act_list ((deal_ok hca.out).2.2.1 a ha); omega
     have hmn : Hid (∀ a ∈ r.map norm, a.make.list.length ≤ 140737488355328) := fun y hy => by
      obtain ⟨x0, h1, rfl⟩ := List.mem_map.1 hy
      have := hmr.out x0 h1
      refine Nat.le_trans ?_ this
      unfold norm
      simp only
      split
      ·exact Nat.le_refl _
      ·exact Nat.zero_le _
     have hsz' : w6.heap.size < wr.heap.size := hsz.out
     have hbx := Lib.hid (Blk.new wr 48 #[.slice Ai ni ci])
     have hR2 := Lib.hid (hR.out.alloc (.cells #[.slice Ai ni ci] 48))
     have hcl2 := Lib.hid (cln_trans hcl.out (show Cln wr (wr.alloc (.cells #[.slice Ai ni ci] 48)) from by (repeat with_reducible first | exact cR _ | assumption | refine cA ?_ _ | refine cD ?_ | refine cN ?_ _ | refine cS ?_ (by first | omega | (simp <;> omega)) _)))
     have hcT : Calls Tryz.prog 45 #[.pointer (some ⟨w6.heap.size, 0, none⟩)] (wr.alloc (.cells #[.slice Ai ni ci] 48)).drew fun e w' => ∃ (A3 : Option Addr) (n3 c3 : Nat), e = .returned (.agg #[.slice A3 n3 c3]) ∧ n3 ≤ 12 ∧ Hid (RdActs w' A3 n3 (r.map norm)) ∧ Hid (IsR w' w6.heap.size A' m c' (catDeals l) (catDeals (l.take (j + 1))).length) ∧ Hid (Cln w w') ∧ Blk w' wr.heap.size 48 #[.slice Ai ni ci] ∧ Hid (w6.heap.size < w'.heap.size) := by
      refine (dtake_any w6.heap.size A' m c' (catDeals l) _ _ hR2.out.drew (fun ad e => by have := hA7.out ad e; simp; omega) (hK.cln (Below.drew hcl2.out))).mono ?_
      intro e w' h
      rw [hrd.out] at h
      obtain ⟨v, rfl, ⟨A3, n3, c3, rfl, hn3, hL⟩, hR3, hK3⟩ := h
      refine ⟨A3, n3, c3, rfl, hn3, hL.here, ?_, ?_, ?_, ?_⟩
      ·rw [htk.out, List.length_append]; exact hR3
      ·exact (Below.drew hcl2.out).trans (hK3.toBelow (B := w.heap.size) (by have := hcl2.out.size; simpa using this) (fun q hq1 hq2 => by have h2 : q = w6.heap.size := hq2; omega))
      ·exact hbx.out.drew.kept hK3 (by show ¬ wr.heap.size = w6.heap.size; omega)
      ·have := hK3.size; unfold Hid; simp at this; omega
     have cS : ∀ (W : World) (A3 : Option Addr) (n3 c3 : Nat), n3 ≤ 12 → Hid (RdActs W A3 n3 (r.map norm)) → Hid (Cln w W) → Calls Tryz.prog 25 #[.agg #[.slice A3 n3 c3], .agg #[.slice Ai ni ci]] W fun e w' => e = .returned (.bool true) ∧ Cln W w' := fun W A3 n3 c3 h0 h1 h2 => by
      have := rdsame_any (r.map norm) r A3 Ai n3 c3 ni ci hmn.out hmr.out (by omega) W h1.out (hit0.out.cln h2.out)
      rw [sameActs_norm r (deal_ok hca.out).2.2.1] at this
      exact this
     clear hR hrd
     go_wp2_with fail
     clear f0
     go_region_with (first
      |(go_at_call 45; with_reducible refine hcT.mono ?_; rintro e w' ⟨A3, n3, c3, rfl, hn3, hi3, hR3, hcl4, hbx4, hsz4⟩; have g1 := hbx4.cell; have g2 := hbx4.lt)
      |(go_at_call 25; with_reducible refine (cS _ _ _ _ hn3 hi3 hcl4).mono ?_; rintro e w9 ⟨rfl, hq9⟩))
     all_goals
      go_wp2_with fail
      go_roundw
      case rel => exact ⟨j + 1, hlt, by go_num, Lib.hid (cln_trans hcl4.out hq9), Lib.hid (by have := hq9.size; have := hsz4.out; omega), Lib.hid (hR3.out.cln hq9)⟩
      case measure => simp [intOf]; omega
    ·obtain rfl : j = i := by omega
     have t2 : decide ((j : Int) < (j : Int)) = false := decide_eq_false (by omega)
     rw [List.take_of_length_le (by rw [hlen.out]; exact Nat.le_refl _), ← hmm.out] at hR
     have hz : (((m : Int) - ((m : Nat) : Int)) == 0) = true := by rw [beq_iff_eq]; omega
     have hz0 : (m : Int) - ((m : Nat) : Int) = 0 := by omega
     go_wp2_with fail
     refine (left_any _ A' m c' _ _ _ hR.out).mono ?_
     rintro e w9 ⟨rfl, k, rfl⟩
     rw [hz0]
     go_wp2_with fail
     go_ret
     exact ⟨rfl, below_drewN hcl.out _⟩
end Go.Proofs.YtoeoodiifpoomaaGreatDoor
