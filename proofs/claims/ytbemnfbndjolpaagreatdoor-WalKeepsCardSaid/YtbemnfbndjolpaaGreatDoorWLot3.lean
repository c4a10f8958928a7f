/- The document's Parts, Bytes and Check of lots. (Printed by wip/tools/gen_lot3.py.) -/
import Derived.Test.YtbemnfbndjolpaaGreatDoorDparts
import Derived.Test.YtbemnfbndjolpaaGreatDoorWLot1
set_option linter.unusedSimpArgs false
set_option linter.unusedVariables false
set_option maxRecDepth 20000
namespace Go.Proofs.YtbemnfbndjolpaaGreatDoor
open Go.RowKit Moi
attribute [local go_sem] toList_str str_size less_ltB store_float
theorem catDeals_parts : ∀ l : List (List MAct), (∀ d ∈ l, (checkDeal d).1 = 0) → catParts (l.flatMap dealParts) = l.flatMap wDeal
 | [], _ => rfl
 | a :: l, h => by
  have h1 := catParts_deal a (deal_ok (h a (List.mem_cons_self ..))).2.2.1
  have h2 := catDeals_parts l fun x hx => h x (List.mem_cons_of_mem _ hx)
  unfold catParts at h1 h2 ⊢
  rw [List.flatMap_cons, List.flatMap_cons, List.flatMap_append, h1, h2]
theorem dealsParts_len : ∀ l : List (List MAct), (∀ d ∈ l, (checkDeal d).1 = 0) → (l.flatMap dealParts).length ≤ 24001 * l.length
 | [], _ => by simp
 | a :: l, h => by
  obtain ⟨_, h12, h3, _⟩ := deal_ok (h a (List.mem_cons_self ..))
  have h1 := dealParts_len h3 h12
  have h2 := dealsParts_len l fun x hx => h x (List.mem_cons_of_mem _ hx)
  simp only [List.flatMap_cons, List.length_append, List.length_cons]
  omega
theorem lotParts_take (k : Nat) (l : List (List MAct)) (i : Nat) (h : i < l.length) : (MPart.u k :: MPart.u l.length :: (l.take (i + 1)).flatMap dealParts) = (MPart.u k :: MPart.u l.length :: (l.take i).flatMap dealParts) ++ dealParts (dealAt l i) := by
 have : l.take (i + 1) = l.take i ++ [dealAt l i] := by
  rw [List.take_add_one, List.getElem?_eq_getElem h]; simp [dealAt, List.getD, h]
 rw [this]; simp
set_option maxHeartbeats 4000000 in
theorem lparts_any (k : Nat) (hk : k ≤ 1099511627776) (l : List (List MAct)) (hck : ∀ d ∈ l, (checkDeal d).1 = 0) (A : Option Addr) (n c : Nat) (hn : n ≤ 32) (w : World) (hr : RdDeals w A n l) :
  Calls Tryz.prog 44 #[.agg #[.int .i64 (k : Int), .slice A n c]] w (NewParts w (MPart.u k :: MPart.u l.length :: l.flatMap dealParts)) := by
 have hlen := hr.len
 have hwr : IntKind.u64.wrap (n : Int) = (n : Int) := IntWalk.u64_in _ (by omega)
 have hwk : IntKind.u64.wrap (k : Int) = (k : Int) := IntWalk.u64_in _ (by omega)
 have hd0 := Blk.new w 38 #[.int .i64 k, .slice A n c]
 have ho0 := World.ownsRow_lit (base := w.heap.size + 1) (e := 113) (size := 6) (w.alloc (.cells #[.int .i64 k, .slice A n c] 38)) #[.int .u8 117, .int .u64 (k : Nat), .int .i64 0, .int .u64 0, .string ⟨#[]⟩, .bool false, .int .u8 117, .int .u64 (n : Nat), .int .i64 0, .int .u64 0, .string ⟨#[]⟩, .bool false] 2 (by rw [World.size_alloc]; omega) (by decide) rfl
 rw [World.size_alloc] at ho0
 have hO0 : Hid (((w.alloc (.cells #[.int .i64 k, .slice A n c] 38)).alloc (.cells #[.int .u8 117, .int .u64 (k : Nat), .int .i64 0, .int .u64 0, .string ⟨#[]⟩, .bool false, .int .u8 117, .int .u64 (n : Nat), .int .i64 0, .int .u64 0, .string ⟨#[]⟩, .bool false] 113)).ownsRow (w.heap.size + 1) 113 6 (.slice (some ⟨w.heap.size + 1, 0, none⟩) 2 2) 2 (partVals (MPart.u k :: MPart.u l.length :: (l.take 0).flatMap dealParts))) := by
  unfold Hid; rw [hlen]; exact ho0
 have hC0 : Hid (Cln (w.alloc (.cells #[.int .i64 k, .slice A n c] 38)) ((w.alloc (.cells #[.int .i64 k, .slice A n c] 38)).alloc (.cells #[.int .u8 117, .int .u64 (k : Nat), .int .i64 0, .int .u64 0, .string ⟨#[]⟩, .bool false, .int .u8 117, .int .u64 (n : Nat), .int .i64 0, .int .u64 0, .string ⟨#[]⟩, .bool false] 113))) := by unfold Hid; (repeat with_reducible first | exact cR _ | assumption | refine cA ?_ _ | refine cD ?_ | refine cN ?_ _ | refine cS ?_ (by first | omega | (simp <;> omega)) _)
 have hd0' := Lib.hid hd0
 have hbx : Hid (Cln w (w.alloc (.cells #[.int .i64 k, .slice A n c] 38))) := by unfold Hid; (repeat with_reducible first | exact cR _ | assumption | refine cA ?_ _ | refine cD ?_ | refine cN ?_ _ | refine cS ?_ (by first | omega | (simp <;> omega)) _)
 have hgr : Hid (∀ (w5 w6 : World) (g : Option Nat), Cln (w.alloc (.cells #[.int .i64 k, .slice A n c] 38)) w5 → w5.grownBy w6 g → (∀ q, g = some q → w.heap.size + 1 ≤ q) → Cln (w.alloc (.cells #[.int .i64 k, .slice A n c] 38)) w6) := fun w5 w6 g h hg hq =>
  ((Kept.of_below (S := fun j => w.heap.size + 1 ≤ j) h).trans ((Kept.refl _ w5).grown hg (fun q hq' _ => hq q hq'))).toBelow (Nat.le_refl _) (fun i hi h2 => by simp at hi; omega)
 clear ho0
 have hdc := hd0.cell
 have hdl := hd0.lt
 clear hd0
 go_enter Tryz.func44, Tryz.ntmps44
 go_wp2_with (simp only [hwr, hwk])
 clear hdc hdl
 go_loopw [3, 4] (fun vv v wr => ∃ (i N : Nat) (A2 : Option Addr) (c2 : Nat), i ≤ n ∧ vv = .slice A2 N c2 ∧ v = .int .i64 (i : Nat) ∧ Hid (Cln (w.alloc (.cells #[.int .i64 k, .slice A n c] 38)) wr) ∧ Hid (N = 2 + ((l.take i).flatMap dealParts).length) ∧ Hid (wr.ownsRow (w.heap.size + 1) 113 6 (.slice A2 N c2) N (partVals (MPart.u k :: MPart.u l.length :: (l.take i).flatMap dealParts)))) (fun _ v _ => (n - intOf v).toNat)
 case atStart => exact ⟨0, 2, _, _, Nat.zero_le _, rfl, rfl, hC0, by simp [Hid], hO0⟩
 case round =>
  clear hC0 hO0
  obtain ⟨i, N, A2, c2, hi, rfl, rfl, hcl0, hN, hO⟩ := hrel
  have hcl := Lib.hid (cln_trans hbx.out hcl0.out)
  have hdb := hd0'.out.cln hcl0.out
  have hdd := hdb.cell
  have hdl := hdb.lt
  by_cases hlt : i < n
  ·have t3 : decide ((i : Int) < (n : Int)) = true := decide_eq_true (by omega)
   obtain ⟨b, o, rfl, hblt, hcell⟩ := hr.rows (by omega)
   obtain ⟨Ai, ni, ci, hc0⟩ := hcell i hlt
   clear hcell
   have hc := hc0.cln hcl.out
   have hblt2 : b < wr.heap.size := by have := hcl.out.size; omega
   have hca := Lib.hid (deal_ok (hck _ (dealAt_mem l i (by omega))))
   have htk := Lib.hid (lotParts_take k l i (by omega))
   have hNb : N ≤ 800000 := by
    have h1 := dealsParts_len (l.take i) fun a ha => hck a (List.mem_of_mem_take ha)
    rw [List.length_take] at h1
    have := hN.out; omega
   have hN2 : Hid (2 + ((l.take (i + 1)).flatMap dealParts).length = N + (dealParts (dealAt l i)).length) := by
    have h1 := congrArg List.length htk.out
    rw [List.length_append, List.length_cons, List.length_cons, List.length_cons, List.length_cons] at h1
    unfold Hid; have := hN.out; omega
   have hal := dealParts_len hca.out.2.2.1 hca.out.2.1
   have hni : ni ≤ 12 := by have h1 := hc0.it.len; have h2 := hca.out.2.1; omega
   clear hc0 hN
   generalize dealAt l i = r at hc hca htk hN2 hal
   have f0 := hc.c0
   have hit := Lib.hid hc.it
   clear hc
   go_wp2_with fail
   refine (dparts_any r hca.out.2.2.1 Ai ni ci hni _ (hit.out.cln (by (repeat with_reducible first | exact cR _ | assumption | refine cA ?_ _ | refine cD ?_ | refine cN ?_ _ | refine cS ?_ (by first | omega | (simp <;> omega)) _)))).mono ?_
   rintro e w5 ⟨A5, c5, n5, rfl, hrd, hq⟩
   clear f0
   have hln5 := hrd.len
   have h05 : 0 < n5 := by
    have : 0 < (dealParts r).length := by simp [dealParts]
    omega
   have hO5 := own_cln hO.out hq
   have hcl5 := cln_trans hcl0.out hq
   have hsz5 : w.heap.size + 1 ≤ w5.heap.size := by have := hcl5.size; simpa using this
   replace hln5 := Lib.hid hln5
   replace hdb := Lib.hid (hd0'.out.cln hcl5)
   clear hdd hdl hq hit hO hcl0 hcl
   have hdd := hdb.out.cell
   have hdl := hdb.out.lt
   simp only []
   rename_i hKK
   refine hKK _ _ ?_
   refine wpList_catR rfl _ _ rfl rfl rfl hO5 hrd h05 (by have := hln5.out; omega) hsz5 ?_
   intro A6 c6 w6 hown6 hg6
   rw [← htk.out] at hown6
   have hcl6 := Lib.hid (hgr.out _ _ _ hcl5 hg6 (fun q hq => own_lo hO5 q hq))
   replace hown6 := Lib.hid hown6
   clear hdd hdl hg6 hcl5 hO5 hrd hdb hKK
   go_wp2_with fail
   go_roundw
   case rel => exact ⟨i + 1, _, A6, c6, hlt, rfl, by go_num, hcl6, by unfold Hid; rw [hN2.out, hln5.out], hown6⟩
   case measure => simp [intOf]; omega
  ·obtain rfl : i = n := by omega
   have t3 : decide ((i : Int) < (i : Int)) = false := decide_eq_false (by omega)
   rw [List.take_of_length_le (by omega)] at hO
   go_wp2_with fail
   go_ret
   exact ⟨A2, c2, N, rfl, own_parts hO.out, hcl.out⟩
set_option maxHeartbeats 4000000 in
theorem rlbytes_any (x : MLot) (h1 : 1 ≤ x.num) (h2 : x.num ≤ 1099511627776) (hck : ∀ d ∈ x.deals, (checkDeal d).1 = 0) (A : Option Addr) (n c : Nat) (hn : n ≤ 32) (w : World) (hK : KindsAt w) (hr : RdDeals w A n x.deals) :
  Calls Tryz.prog 18 #[.agg #[.int .i64 x.num, .slice A n c]] w (NewBytes w (wLot x)) := by
 have hlen := hr.len
 obtain ⟨k, hk⟩ : ∃ k : Nat, x.num = (k : Int) := ⟨x.num.toNat, by omega⟩
 obtain ⟨l, hl⟩ : ∃ l, l = x.deals := ⟨_, rfl⟩
 have hwl : Hid (wLot x = wU k ++ (wU l.length ++ l.flatMap wDeal)) := by unfold Hid wLot; rw [hk, hl]; rfl
 rw [hk]
 rw [← hl] at hr hlen hck
 have hkk : k ≤ 1099511627776 := by omega
 clear hk h1 h2 hl
 have hall : Hid (∀ d ∈ l, (checkDeal d).1 = 0 ∧ ∀ a ∈ d, a.WF) := fun d hd => ⟨hck d hd, fun a ha => (hr.full d hd a ha).wf⟩
 have hbl := wDeals_len l hall.out
 have hu1 := wU_len10 k (by omega)
 have hu2 := wU_len10 l.length (by omega)
 have hcat : Hid (catParts (MPart.u k :: MPart.u l.length :: l.flatMap dealParts) = wLot x) := by
  have h3 := catDeals_parts l hck
  unfold Hid
  rw [hwl.out]
  unfold catParts at h3 ⊢
  rw [List.flatMap_cons, List.flatMap_cons, h3]; rfl
 have hsum : Hid ((catParts (MPart.u k :: MPart.u l.length :: l.flatMap dealParts)).length ≤ 100000000) := by
  unfold Hid; rw [hcat.out, hwl.out, List.length_append, List.length_append]; omega
 have hpl := dealsParts_len l hck
 have hfull := hr.full
 have hwf : Hid (∀ p ∈ (MPart.u k :: MPart.u l.length :: l.flatMap dealParts), p.WF) := by
  intro p hp
  rcases List.mem_cons.1 hp with rfl | hp
  ·show k < _; omega
  rcases List.mem_cons.1 hp with rfl | hp
  ·show l.length < _; omega
  ·obtain ⟨d, hd, hp⟩ := List.mem_flatMap.1 hp
   have h5 := deal_ok (hck d hd)
   exact dealParts_wf h5.2.2.1 h5.2.1 (hfull d hd) p hp
 clear hfull
 go_enter Tryz.func18, Tryz.ntmps18
 go_wp2_with fail
 refine (lparts_any k hkk l hck A n c hn _ (hr.cln (by (repeat with_reducible first | exact cR _ | assumption | refine cA ?_ _ | refine cD ?_ | refine cN ?_ _ | refine cS ?_ (by first | omega | (simp <;> omega)) _)))).mono ?_; rintro e w2 ⟨A2, c2, n2, rfl, hrd, hq⟩
 have hcl := Lib.hid (show Cln w w2 from cln_trans (by (repeat with_reducible first | exact cR _ | assumption | refine cA ?_ _ | refine cD ?_ | refine cN ?_ _ | refine cS ?_ (by first | omega | (simp <;> omega)) _)) hq)
 have hl2 := hrd.len
 have hn2 : n2 ≤ 800000 := by rw [List.length_cons, List.length_cons] at hl2; omega
 replace hl2 := Lib.hid hl2
 clear hq
 go_wp2_with fail
 refine (write_any _ A2 n2 c2 (by omega) (fun i hi => hwf.out _ (partAt_mem (by rw [hl2.out]; exact hi))) hsum.out _ hrd).mono ?_
 rintro e w3 ⟨A3, c3, m, hm, rfl, hown, hq⟩
 rw [hcat.out] at hm hown
 replace hown := Lib.hid (own_base hown hcl.out.size)
 replace hq := Lib.hid (cln_trans hcl.out hq)
 go_wp2_with fail
 go_ret
 exact ⟨A3, c3, m, hm, rfl, hown.out, hq.out⟩
set_option maxHeartbeats 4000000 in
theorem rlcheck_any (x : MLot) (A : Option Addr) (n c : Nat) (hmod : Mod x.deals) (w : World) (hK : KindsAt w) (hr : RdDeals w A n x.deals) :
  Calls Tryz.prog 14 #[.agg #[.int .i64 x.num, .slice A n c]] w fun e w' => e = .returned (.tuple #[.int .i64 ((checkLot x).1 : Nat), .int .i64 ((checkLot x).2 : Nat)]) ∧ Cln w w' := by
 have hlen := hr.len
 by_cases h1 : x.num < 1
 ·have hE : checkLot x = (1, 0) := by unfold checkLot; rw [if_pos (by omega)]
  rw [hE]
  have t1 : decide (x.num < 1) = true := decide_eq_true h1
  go_enter Tryz.func14, Tryz.ntmps14
  go_wp2_with fail
  go_ret2
  exact ⟨rfl, by (repeat with_reducible first | exact cR _ | assumption | refine cA ?_ _ | refine cD ?_ | refine cN ?_ _ | refine cS ?_ (by first | omega | (simp <;> omega)) _)⟩
 have t1 : decide (x.num < 1) = false := decide_eq_false h1
 by_cases h2 : 1099511627776 < x.num
 ·have hE : checkLot x = (1, 0) := by unfold checkLot; rw [if_pos (by omega)]
  rw [hE]
  have t2 : decide (1099511627776 < x.num) = true := decide_eq_true h2
  go_enter Tryz.func14, Tryz.ntmps14
  go_wp2_with fail
  go_ret2
  exact ⟨rfl, by (repeat with_reducible first | exact cR _ | assumption | refine cA ?_ _ | refine cD ?_ | refine cN ?_ _ | refine cS ?_ (by first | omega | (simp <;> omega)) _)⟩
 have t2 : decide (1099511627776 < x.num) = false := decide_eq_false h2
 by_cases h3 : 32 < n
 ·have hE : checkLot x = (8, 0) := by unfold checkLot; rw [if_neg (by omega), if_pos (by omega)]
  rw [hE]
  have t3 : decide (32 < (n : Int)) = true := decide_eq_true (by omega)
  go_enter Tryz.func14, Tryz.ntmps14
  go_wp2_with fail
  go_ret2
  exact ⟨rfl, by (repeat with_reducible first | exact cR _ | assumption | refine cA ?_ _ | refine cD ?_ | refine cN ?_ _ | refine cS ?_ (by first | omega | (simp <;> omega)) _)⟩
 have t3 : decide (32 < (n : Int)) = false := decide_eq_false (by omega)
 have hE : Hid (checkLot x = if (dealsErr 0 x.deals).1 ≠ 0 then dealsErr 0 x.deals else if 2048 < (wLot x).length then (3, 0) else (0, 0)) := by unfold Hid checkLot; rw [if_neg (by omega), if_neg (by omega)]
 obtain ⟨l, hl⟩ : ∃ l, l = x.deals := ⟨_, rfl⟩
 have hmo : Hid (∀ d ∈ l, ∀ a ∈ d, a.make.list.length ≤ 140737488355328) := hl ▸ hmod.items
 have hl' := Lib.hid hl
 rw [← hl] at hr hlen hE
 have hrH := Lib.hid hr
 clear hl hmod
 have hd0 := (Blk.new w 38 #[.int .i64 x.num, .slice A n c])
 have hdd := hd0.cell
 have hdl := hd0.lt
 have t1H := Lib.hid t1
 go_enter Tryz.func14, Tryz.ntmps14
 go_wp2_with fail
 clear hdd hdl
 go_loopw [4] (fun v wr => ∃ i : Nat, i ≤ n ∧ v = .int .i64 (i : Nat) ∧ Hid (Cln (w.alloc (.cells #[.int .i64 x.num, .slice A n c] 38)) wr) ∧ Hid (dealsErr 0 l = dealsErr i (l.drop i))) (fun v _ => (n - intOf v).toNat)
 case atStart => exact ⟨0, Nat.zero_le _, rfl, Below.refl _ _, rfl⟩
 case round =>
  obtain ⟨i, hi, rfl, hcl0, hH⟩ := hrel
  have hcl := Lib.hid (cln_trans (show Cln w (w.alloc (.cells #[.int .i64 x.num, .slice A n c] 38)) from by (repeat with_reducible first | exact cR _ | assumption | refine cA ?_ _ | refine cD ?_ | refine cN ?_ _ | refine cS ?_ (by first | omega | (simp <;> omega)) _)) hcl0.out)
  have hdb := hd0.cln hcl0.out
  have hdd := hdb.cell
  have hdl := hdb.lt
  by_cases hlt : i < n
  ·have t4 : decide ((i : Int) < (n : Int)) = true := decide_eq_true (by omega)
   obtain ⟨b, o, rfl, hblt, hcell⟩ := hr.rows (by omega)
   obtain ⟨Ai, ni, ci, hc0⟩ := hcell i hlt
   clear hcell
   have hc1 := hc0.cln hcl.out
   have f0 := hc1.c0
   have hit := Lib.hid hc1.it
   have hblt2 : b < wr.heap.size := by have := hcl.out.size; omega
   have hme := hmo.out _ (dealAt_mem l i (by omega))
   have hstep : Hid (dealsErr 0 l = if (checkDeal (dealAt l i)).1 = 0 then dealsErr (i + 1) (l.drop (i + 1)) else ((checkDeal (dealAt l i)).1, i + 1)) := by
    unfold Hid; rw [hH.out, dealAt_drop l i (by omega), dealsErr]
   clear hc0 hc1 hH
   replace hme := Lib.hid hme
   generalize dealAt l i = d at hit hstep hme
   go_wp2_with fail
   refine (rdcheck_any d Ai ni ci hme.out _ (hit.out.cln (by (repeat with_reducible first | exact cR _ | assumption | refine cA ?_ _ | refine cD ?_ | refine cN ?_ _ | refine cS ?_ (by first | omega | (simp <;> omega)) _)))).mono ?_; rintro e w3 ⟨rfl, hq⟩
   clear f0
   have hcl3 := Lib.hid (cln_trans hcl0.out (cln_trans (by (repeat with_reducible first | exact cR _ | assumption | refine cA ?_ _ | refine cD ?_ | refine cN ?_ _ | refine cS ?_ (by first | omega | (simp <;> omega)) _)) hq))
   clear hq hdd hdl hdb hcl hcl0 hit hme
   have hdb := hd0.cln hcl3.out
   have hdd := hdb.cell
   have hdl := hdb.lt
   by_cases hca : (checkDeal d).1 = 0
   ·have t5 : ((((checkDeal d).1 : Nat) : Int) != 0) = false := by rw [hca]; rfl
    have hst : Hid (dealsErr 0 l = dealsErr (i + 1) (l.drop (i + 1))) := by unfold Hid; rw [hstep.out, if_pos hca]
    replace hca := Lib.hid hca
    go_wp2_with fail
    go_roundw
    case rel => exact ⟨i + 1, hlt, by go_num, hcl3, hst⟩
    case measure => simp [intOf]; omega
   ·have t5 : ((((checkDeal d).1 : Nat) : Int) != 0) = true := by rw [bne_iff_ne]; omega
    have hst : Hid (checkLot x = ((checkDeal d).1, i + 1)) := by unfold Hid; rw [hE.out, hstep.out, if_neg hca, if_pos hca]
    go_wp2_with fail
    go_ret2
    refine ⟨?_, cln_trans (by (repeat with_reducible first | exact cR _ | assumption | refine cA ?_ _ | refine cD ?_ | refine cN ?_ _ | refine cS ?_ (by first | omega | (simp <;> omega)) _)) hcl3.out⟩
    rw [hst.out]
    first | rfl | (simp; done)
  ·obtain rfl : i = n := by omega
   have t4 : decide ((i : Int) < (i : Int)) = false := decide_eq_false (by omega)
   have hz : dealsErr 0 l = (0, 0) := by rw [hH.out, List.drop_of_length_le (by omega)]; rfl
   have hok := Lib.hid (dealsErr_zero l 0 (by rw [hz])).1
   have hE2 : Hid (checkLot x = if 2048 < (wLot x).length then (3, 0) else (0, 0)) := by unfold Hid; rw [hE.out, hz]; rfl
   clear hz hH
   go_wp2_with fail
   refine (rlbytes_any x (by omega) (by omega) (by rw [← hl'.out]; exact hok.out) A i c (by omega) _ (hK.cln hcl.out) (by rw [← hl'.out]; exact hr.cln hcl.out)).mono ?_
   rintro e w4 ⟨A', c', m, hm, rfl, hown, hq⟩
   have hcl4 := cln_trans hcl.out hq
   clear hown hq hdd hdl hdb
   by_cases hml : 2048 < m
   ·have t6 : decide (2048 < (m : Int)) = true := decide_eq_true (by omega)
    have hst : Hid (checkLot x = (3, 0)) := by unfold Hid; rw [hE2.out, if_pos (by rw [← hm.out]; exact hml)]
    go_wp2_with fail
    go_ret2
    refine ⟨?_, hcl4⟩
    rw [hst.out]; rfl
   ·have t6 : decide (2048 < (m : Int)) = false := decide_eq_false (by omega)
    have hst : Hid (checkLot x = (0, 0)) := by unfold Hid; rw [hE2.out, if_neg (by rw [← hm.out]; exact hml)]
    go_wp2_with fail
    go_ret2
    refine ⟨?_, hcl4⟩
    rw [hst.out]; rfl
end Go.Proofs.YtbemnfbndjolpaaGreatDoor
