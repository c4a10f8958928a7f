/- The walks of lot.written, lot.Check and lot.Bytes. (Printed by wip/tools/gen_lot1.py.) -/
import Derived.Test.YtbemnfbndjolpaaGreatDoorWDeal1
import Derived.Test.YtbemnfbndjolpaaGreatDoorOwns
import Derived.Test.YtbemnfbndjolpaaGreatDoorWBytes
set_option linter.unusedSimpArgs false
set_option linter.unusedVariables false
set_option maxRecDepth 20000
namespace Go.Proofs.YtbemnfbndjolpaaGreatDoor
open Go.RowKit Moi
attribute [local go_sem] toList_str str_size less_ltB store_float
theorem wDeals_take (l : List (List MAct)) (i : Nat) (h : i < l.length) : (l.take (i + 1)).flatMap wDeal = (l.take i).flatMap wDeal ++ wDeal (dealAt l i) := by
 have : l.take (i + 1) = l.take i ++ [dealAt l i] := by
  rw [List.take_add_one, List.getElem?_eq_getElem h]; simp [dealAt, List.getD, h]
 rw [this]; simp
theorem wDeals_len : ∀ (l : List (List MAct)), (∀ d ∈ l, (checkDeal d).1 = 0 ∧ ∀ a ∈ d, a.WF) → (l.flatMap wDeal).length ≤ 16820 * l.length
 | [], _ => by simp
 | a :: l, h => by
  have h1 := h a (List.mem_cons_self ..)
  have h2 := wDeal_len h1.1 h1.2
  have h3 := wDeals_len l fun x hx => h x (List.mem_cons_of_mem _ hx)
  simp only [List.flatMap_cons, List.length_append, List.length_cons]
  omega
structure Mod (l : List (List MAct)) : Prop where
 deals : ∀ d ∈ l, d.length ≤ 140737488355328
 items : ∀ d ∈ l, ∀ a ∈ d, a.make.list.length ≤ 140737488355328
set_option maxHeartbeats 4000000 in
theorem lwritten_any (x : MLot) (h1 : 1 ≤ x.num) (h2 : x.num ≤ 1099511627776) (hck : ∀ d ∈ x.deals, (checkDeal d).1 = 0) (A : Option Addr) (n c : Nat) (hn : n ≤ 32) (w : World) (hK : KindsAt w) (hr : RdDeals w A n x.deals) :
  Calls Tryz.prog 63 #[.agg #[.int .i64 x.num, .slice A n c]] w (NewBytes w (wLot x)) := by
 have hlen := hr.len
 obtain ⟨l, hl⟩ : ∃ l, l = x.deals := ⟨_, rfl⟩
 obtain ⟨k, hk⟩ : ∃ k : Nat, x.num = (k : Int) := ⟨x.num.toNat, by omega⟩
 have hwl : Hid (wLot x = wU k ++ (wU l.length ++ l.flatMap wDeal)) := by unfold Hid wLot; rw [hk, hl]; rfl
 have hall : Hid (∀ d ∈ l, (checkDeal d).1 = 0 ∧ ∀ a ∈ d, a.WF) := fun d hd => ⟨hck d (hl ▸ hd), fun a ha => (hr.full d (hl ▸ hd) a ha).wf⟩
 rw [hk]
 rw [← hl] at hr hlen hck
 clear hl
 have hkk : k ≤ 1099511627776 := by omega
 clear hk h1 h2
 have hbl := wDeals_len l hall.out
 have hu1 := wU_len10 k (by omega)
 have hu2 := wU_len10 l.length (by omega)
 have hwrk : IntKind.u64.wrap (k : Int) = (k : Int) := IntWalk.u64_in _ (by omega)
 have hwrn : IntKind.u64.wrap (n : Int) = (n : Int) := IntWalk.u64_in _ (by omega)
 have hW0 := newWriter (w.alloc (.cells #[.int .i64 k, .slice A n c] 38))
 rw [World.size_alloc] at hW0
 have hb0 := (Blk.new w 38 #[.int .i64 k, .slice A n c]).alloc (.cells #[.slice none 0 0] 144)
 have hC0 : Cln w ((w.alloc (.cells #[.int .i64 k, .slice A n c] 38)).alloc (.cells #[.slice none 0 0] 144)) := by (repeat with_reducible first | exact cR _ | assumption | refine cA ?_ _ | refine cD ?_ | refine cN ?_ _ | refine cS ?_ (by first | omega | (simp <;> omega)) _)
 have hcu := wu_any _ _ [] k _ hW0 (by omega) (by simp; omega)
 go_enter Tryz.func63, Tryz.ntmps63
 go_wp2_with fail
 refine hcu.mono ?_
 rintro e w1 ⟨rfl, hW1, hK1⟩
 have hb1 := hb0.kept hK1 (WS.not_lt (by omega) (Nat.le_refl _))
 have hC1 : Cln w w1 := Below.trans hC0 (Below.mono (WS_below hK1 (Nat.le_refl _) (by simp)) (by omega))
 rw [List.nil_append] at hW1
 have hcu2 := wu_any _ _ (wU k) n _ hW1 (by omega) (by rw [← hlen]; omega)
 have d1 := hb1.cell
 have l1 := hb1.lt
 clear hcu hW0 hb0 hC0 hK1 hW1
 go_wp2_with fail
 refine hcu2.mono ?_
 rintro e w2 ⟨rfl, hW2, hK2⟩
 have hb2 := hb1.kept hK2 (WS.not_lt (by omega) (Nat.le_refl _))
 have hsz1 : w.heap.size + 1 ≤ w1.heap.size := by omega
 have hC2 := Lib.hid (Below.trans hC1 (Below.mono (WS_below hK2 (Nat.le_refl _) hsz1) (by omega)))
 have hsz2 : Hid (w.heap.size + 1 ≤ w2.heap.size) := Nat.le_trans hsz1 hK2.size
 have hW2' : Hid (IsW w2 (w.heap.size + 1) (w.heap.size + 1) (wU k ++ wU l.length)) := by unfold Hid; rw [hlen]; exact hW2
 have d2 := hb2.cell
 have l2 := hb2.lt
 clear hcu2 d1 l1 hb1 hC1 hK2 hW2 hsz1
 go_wp2_with fail
 clear d2 l2 hb2
 go_loopw [18] (fun v wr => ∃ i : Nat, i ≤ n ∧ v = .int .i64 (i : Nat) ∧ Hid (Cln w wr) ∧ Hid (w.heap.size + 1 ≤ wr.heap.size) ∧ Hid (IsW wr (w.heap.size + 1) (w.heap.size + 1) (wU k ++ wU l.length ++ (l.take i).flatMap wDeal))) (fun v _ => (n - intOf v).toNat)
 case atStart => exact ⟨0, Nat.zero_le _, rfl, hC2, hsz2, by unfold Hid; simpa using hW2'.out⟩
 case round =>
  clear hC2 hsz2 hW2'
  obtain ⟨i, hi, rfl, hcl, hsz, hW⟩ := hrel
  by_cases hlt : i < n
  ·have t3 : decide ((i : Int) < (n : Int)) = true := decide_eq_true (by omega)
   obtain ⟨b, o, rfl, hblt, hcell⟩ := hr.rows (by omega)
   obtain ⟨Ai, ni, ci, hc0⟩ := hcell i hlt
   clear hcell
   have f0 := (hc0.cln hcl.out).c0
   have hit := Lib.hid hc0.it
   have hblt2 : b < wr.heap.size := by have := hcl.out.size; omega
   have hme := dealAt_mem l i (by omega)
   have hdk := deal_ok (hck _ hme)
   have hni : ni ≤ 12 := by have := hc0.it.len; omega
   have htk := Lib.hid (wDeals_take l i (by omega))
   have hb2 : Hid ((wU k ++ wU l.length ++ (l.take i).flatMap wDeal).length + (wDeal (dealAt l i)).length ≤ 1099511627776) := by
    have h1 : ((l.take (i + 1)).flatMap wDeal).length ≤ (l.flatMap wDeal).length := by
     conv => rhs; rw [← List.take_append_drop (i + 1) l]
     rw [List.flatMap_append, List.length_append]; omega
    rw [htk.out, List.length_append] at h1
    unfold Hid
    simp only [List.length_append]
    omega
   have hdk3 := Lib.hid hdk.2.2.1
   clear hc0 hdk hme
   generalize dealAt l i = d at hit htk hb2 hdk3
   go_wp2_with fail
   refine (dwrite_any (w.heap.size + 1) (w.heap.size + 1) _ d hdk3.out Ai ni ci hni w hK hit.out (by omega) _ (cln_trans hcl.out (by (repeat with_reducible first | exact cR _ | assumption | refine cA ?_ _ | refine cD ?_ | refine cN ?_ _ | refine cS ?_ (by first | omega | (simp <;> omega)) _))) (hW.out.cln (by (repeat with_reducible first | exact cR _ | assumption | refine cA ?_ _ | refine cD ?_ | refine cN ?_ _ | refine cS ?_ (by first | omega | (simp <;> omega)) _))) hb2.out).mono ?_
   rintro e w5 ⟨rfl, hW5, hK5⟩
   clear f0
   have hC5 := Lib.hid (Below.trans (cln_trans hcl.out (show Cln wr (wr.alloc (.cells #[.slice Ai ni ci] 67)) from by (repeat with_reducible first | exact cR _ | assumption | refine cA ?_ _ | refine cD ?_ | refine cN ?_ _ | refine cS ?_ (by first | omega | (simp <;> omega)) _))) (Below.mono (WS_below hK5 (Nat.le_refl _) (by have := hsz.out; simp; omega)) (by omega)))
   have hs5 : Hid (w.heap.size + 1 ≤ w5.heap.size) := by have h1 := hK5.size; have h2 := hsz.out; simp at h1; unfold Hid; omega
   rw [List.append_assoc, ← htk.out] at hW5
   have hW5 := Lib.hid hW5
   clear hK5 hcl hsz hW hit htk
   go_wp2_with fail
   go_roundw
   case rel => exact ⟨i + 1, hlt, by go_num, hC5, hs5, hW5⟩
   case measure => simp [intOf]; omega
  ·obtain rfl : i = n := by omega
   have t3 : decide ((i : Int) < (i : Int)) = false := decide_eq_false (by omega)
   rw [List.take_of_length_le (by omega), List.append_assoc, ← hwl.out] at hW
   have hwll : (wLot x).length ≤ 600000 := by rw [hwl.out, List.length_append, List.length_append]; omega
   go_wp2_with fail
   refine (bytes_any _ _ _ _ hW.out (by omega)).mono ?_
   rintro e w6 ⟨A', c', m, hm, rfl, hown, hq3⟩
   go_wp2_with fail
   go_ret
   exact ⟨A', c', m, hm, rfl, own_base hown (by have := hsz.out; omega), cln_trans hcl.out hq3⟩
set_option maxHeartbeats 4000000 in
theorem lcheck_any (x : MLot) (A : Option Addr) (n c : Nat) (hmod : Mod x.deals) (w : World) (hK : KindsAt w) (hr : RdDeals w A n x.deals) :
  Calls Tryz.prog 41 #[.agg #[.int .i64 x.num, .slice A n c]] w fun e w' => e = .returned (.tuple #[.int .i64 ((checkLot x).1 : Nat), .int .i64 ((checkLot x).2 : Nat)]) ∧ Cln w w' := by
 have hlen := hr.len
 by_cases h1 : x.num < 1
 ·have hE : checkLot x = (1, 0) := by unfold checkLot; rw [if_pos (by omega)]
  rw [hE]
  have t1 : decide (x.num < 1) = true := decide_eq_true h1
  go_enter Tryz.func41, Tryz.ntmps41
  go_wp2_with fail
  go_ret2
  exact ⟨rfl, by (repeat with_reducible first | exact cR _ | assumption | refine cA ?_ _ | refine cD ?_ | refine cN ?_ _ | refine cS ?_ (by first | omega | (simp <;> omega)) _)⟩
 have t1 : decide (x.num < 1) = false := decide_eq_false h1
 by_cases h2 : 1099511627776 < x.num
 ·have hE : checkLot x = (1, 0) := by unfold checkLot; rw [if_pos (by omega)]
  rw [hE]
  have t2 : decide (1099511627776 < x.num) = true := decide_eq_true h2
  go_enter Tryz.func41, Tryz.ntmps41
  go_wp2_with fail
  go_ret2
  exact ⟨rfl, by (repeat with_reducible first | exact cR _ | assumption | refine cA ?_ _ | refine cD ?_ | refine cN ?_ _ | refine cS ?_ (by first | omega | (simp <;> omega)) _)⟩
 have t2 : decide (1099511627776 < x.num) = false := decide_eq_false h2
 by_cases h3 : 32 < n
 ·have hE : checkLot x = (8, 0) := by unfold checkLot; rw [if_neg (by omega), if_pos (by omega)]
  rw [hE]
  have t3 : decide (32 < (n : Int)) = true := decide_eq_true (by omega)
  go_enter Tryz.func41, Tryz.ntmps41
  go_wp2_with fail
  go_ret2
  exact ⟨rfl, by (repeat with_reducible first | exact cR _ | assumption | refine cA ?_ _ | refine cD ?_ | refine cN ?_ _ | refine cS ?_ (by first | omega | (simp <;> omega)) _)⟩
 have t3 : decide (32 < (n : Int)) = false := decide_eq_false (by omega)
 have hE : Hid (checkLot x = if (dealsErr 0 x.deals).1 ≠ 0 then dealsErr 0 x.deals else if 2048 < (wLot x).length then (3, 0) else (0, 0)) := by unfold Hid checkLot; rw [if_neg (by omega), if_neg (by omega)]
 obtain ⟨l, hl⟩ : ∃ l, l = x.deals := ⟨_, rfl⟩
 have hmo : Hid (∀ d ∈ l, ∀ a ∈ d, a.make.list.length ≤ 140737488355328) := hl ▸ hmod.items
 have hl' := Lib.hid hl
 rw [← hl] at hr hlen hE
 have hrH := Lib.hid hr
 clear hl hmod
 have hd0 := (Blk.new w 38 #[.int .i64 x.num, .slice A n c])
 have hdd := hd0.cell
 have hdl := hd0.lt
 have t1H := Lib.hid t1
 go_enter Tryz.func41, Tryz.ntmps41
 go_wp2_with fail
 clear hdd hdl
 go_loopw [25] (fun v wr => ∃ i : Nat, i ≤ n ∧ v = .int .i64 (i : Nat) ∧ Hid (Cln (w.alloc (.cells #[.int .i64 x.num, .slice A n c] 38)) wr) ∧ Hid (dealsErr 0 l = dealsErr i (l.drop i))) (fun v _ => (n - intOf v).toNat)
 case atStart => exact ⟨0, Nat.zero_le _, rfl, Below.refl _ _, rfl⟩
 case round =>
  obtain ⟨i, hi, rfl, hcl0, hH⟩ := hrel
  have hcl := Lib.hid (cln_trans (show Cln w (w.alloc (.cells #[.int .i64 x.num, .slice A n c] 38)) from by (repeat with_reducible first | exact cR _ | assumption | refine cA ?_ _ | refine cD ?_ | refine cN ?_ _ | refine cS ?_ (by first | omega | (simp <;> omega)) _)) hcl0.out)
  have hdb := hd0.cln hcl0.out
  have hdd := hdb.cell
  have hdl := hdb.lt
  by_cases hlt : i < n
  ·have t4 : decide ((i : Int) < (n : Int)) = true := decide_eq_true (by omega)
   obtain ⟨b, o, rfl, hblt, hcell⟩ := hr.rows (by omega)
   obtain ⟨Ai, ni, ci, hc0⟩ := hcell i hlt
   clear hcell
   have hc1 := hc0.cln hcl.out
   have f0 := hc1.c0
   have hit := Lib.hid hc1.it
   have hblt2 : b < wr.heap.size := by have := hcl.out.size; omega
   have hme := hmo.out _ (dealAt_mem l i (by omega))
   have hstep : Hid (dealsErr 0 l = if (checkDeal (dealAt l i)).1 = 0 then dealsErr (i + 1) (l.drop (i + 1)) else ((checkDeal (dealAt l i)).1, i + 1)) := by
    unfold Hid; rw [hH.out, dealAt_drop l i (by omega), dealsErr]
   clear hc0 hc1 hH
   replace hme := Lib.hid hme
   generalize dealAt l i = d at hit hstep hme
   go_wp2_with fail
   refine (dcheck_any d Ai ni ci hme.out _ (hK.cln (cln_trans hcl.out (by (repeat with_reducible first | exact cR _ | assumption | refine cA ?_ _ | refine cD ?_ | refine cN ?_ _ | refine cS ?_ (by first | omega | (simp <;> omega)) _)))) (hit.out.cln (by (repeat with_reducible first | exact cR _ | assumption | refine cA ?_ _ | refine cD ?_ | refine cN ?_ _ | refine cS ?_ (by first | omega | (simp <;> omega)) _)))).mono ?_; rintro e w3 ⟨rfl, hq⟩
   clear f0
   have hcl3 := Lib.hid (cln_trans hcl0.out (cln_trans (by (repeat with_reducible first | exact cR _ | assumption | refine cA ?_ _ | refine cD ?_ | refine cN ?_ _ | refine cS ?_ (by first | omega | (simp <;> omega)) _)) hq))
   clear hq hdd hdl hdb hcl hcl0 hit hme
   have hdb := hd0.cln hcl3.out
   have hdd := hdb.cell
   have hdl := hdb.lt
   by_cases hca : (checkDeal d).1 = 0
   ·have t5 : ((((checkDeal d).1 : Nat) : Int) != 0) = false := by rw [hca]; rfl
    have hst : Hid (dealsErr 0 l = dealsErr (i + 1) (l.drop (i + 1))) := by unfold Hid; rw [hstep.out, if_pos hca]
    replace hca := Lib.hid hca
    go_wp2_with fail
    go_roundw
    case rel => exact ⟨i + 1, hlt, by go_num, hcl3, hst⟩
    case measure => simp [intOf]; omega
   ·have t5 : ((((checkDeal d).1 : Nat) : Int) != 0) = true := by rw [bne_iff_ne]; omega
    have hst : Hid (checkLot x = ((checkDeal d).1, i + 1)) := by unfold Hid; rw [hE.out, hstep.out, if_neg hca, if_pos hca]
    go_wp2_with fail
    go_ret2
    refine ⟨?_, cln_trans (by (repeat with_reducible first | exact cR _ | assumption | refine cA ?_ _ | refine cD ?_ | refine cN ?_ _ | refine cS ?_ (by first | omega | (simp <;> omega)) _)) hcl3.out⟩
    rw [hst.out]
    first | rfl | (simp; done)
  ·obtain rfl : i = n := by omega
   have t4 : decide ((i : Int) < (i : Int)) = false := decide_eq_false (by omega)
   have hz : dealsErr 0 l = (0, 0) := by rw [hH.out, List.drop_of_length_le (by omega)]; rfl
   have hok := Lib.hid (dealsErr_zero l 0 (by rw [hz])).1
   have hE2 : Hid (checkLot x = if 2048 < (wLot x).length then (3, 0) else (0, 0)) := by unfold Hid; rw [hE.out, hz]; rfl
   clear hz hH
   go_wp2_with fail
   refine (lwritten_any x (by omega) (by omega) (by rw [← hl'.out]; exact hok.out) A i c (by omega) _ (hK.cln hcl.out) (by rw [← hl'.out]; exact hr.cln hcl.out)).mono ?_
   rintro e w4 ⟨A', c', m, hm, rfl, hown, hq⟩
   have hcl4 := cln_trans hcl.out hq
   clear hown hq hdd hdl hdb
   by_cases hml : 2048 < m
   ·have t6 : decide (2048 < (m : Int)) = true := decide_eq_true (by omega)
    have hst : Hid (checkLot x = (3, 0)) := by unfold Hid; rw [hE2.out, if_pos (by rw [← hm.out]; exact hml)]
    go_wp2_with fail
    go_ret2
    refine ⟨?_, hcl4⟩
    rw [hst.out]; rfl
   ·have t6 : decide (2048 < (m : Int)) = false := decide_eq_false (by omega)
    have hst : Hid (checkLot x = (0, 0)) := by unfold Hid; rw [hE2.out, if_neg (by rw [← hm.out]; exact hml)]
    go_wp2_with fail
    go_ret2
    refine ⟨?_, hcl4⟩
    rw [hst.out]; rfl
def lotBytes (x : MLot) : List UInt8 := if (checkLot x).1 = 0 then wLot x else []
set_option maxHeartbeats 4000000 in
theorem lbytes_any (x : MLot) (A : Option Addr) (n c : Nat) (hmod : Mod x.deals) (w : World) (hK : KindsAt w) (hr : RdDeals w A n x.deals) :
  Calls Tryz.prog 42 #[.agg #[.int .i64 x.num, .slice A n c]] w (NewBytes w (lotBytes x)) := by
 have hlen := hr.len
 have hd0 := (Blk.new w 38 #[.int .i64 x.num, .slice A n c])
 have hcl0 : Cln w (w.alloc (.cells #[.int .i64 x.num, .slice A n c] 38)) := by (repeat with_reducible first | exact cR _ | assumption | refine cA ?_ _ | refine cD ?_ | refine cN ?_ _ | refine cS ?_ (by first | omega | (simp <;> omega)) _)
 by_cases hk : (checkLot x).1 = 0
 ·rw [show lotBytes x = wLot x from by unfold lotBytes; rw [if_pos hk]]
  have t1 : ((((checkLot x).1 : Nat) : Int) != 0) = false := by rw [hk]; rfl
  have hok := Lib.hid (lot_ok hk)
  clear hk
  go_enter Tryz.func42, Tryz.ntmps42
  go_wp2_with fail
  refine (lcheck_any x A n c hmod _ (hK.cln hcl0) (hr.cln hcl0)).mono ?_; rintro e w1 ⟨rfl, hq⟩
  have hb := hd0.cln hq
  have hc := hb.cell
  have hlt := hb.lt
  have hcl1 : Cln w w1 := cln_trans hcl0 hq
  clear hq
  go_wp2_with fail
  refine (lwritten_any x hok.out.1 hok.out.2.1 hok.out.2.2.2.1 A n c (by have := hok.out.2.2.1; omega) _ (hK.cln hcl1) (hr.cln hcl1)).mono ?_
  rintro e w3 ⟨A', c', m, hm, rfl, hown, hq3⟩
  go_wp2_with fail
  go_ret
  exact ⟨A', c', m, hm, rfl, own_base hown hcl1.size, cln_trans hcl1 hq3⟩
 ·rw [show lotBytes x = [] from by unfold lotBytes; rw [if_neg hk]]
  have t1 : ((((checkLot x).1 : Nat) : Int) != 0) = true := by rw [bne_iff_ne]; omega
  clear hk
  go_enter Tryz.func42, Tryz.ntmps42
  go_wp2_with fail
  refine (lcheck_any x A n c hmod _ (hK.cln hcl0) (hr.cln hcl0)).mono ?_; rintro e w1 ⟨rfl, hq⟩
  have hcl1 : Cln w w1 := cln_trans hcl0 hq
  go_wp2_with fail
  go_ret
  exact ⟨none, 0, 0, rfl, rfl, World.ownsRow_nil _ _ _ _, hcl1⟩
end Go.Proofs.YtbemnfbndjolpaaGreatDoor
