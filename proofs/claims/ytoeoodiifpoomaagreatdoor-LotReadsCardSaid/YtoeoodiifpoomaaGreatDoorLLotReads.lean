/- The law LotReads. (Printed by wip/tools/gen_llotr.py.) -/
import Derived.Test.YtoeoodiifpoomaaGreatDoorWRLRead
import Derived.Test.YtoeoodiifpoomaaGreatDoorLSps
import Derived.Test.YtoeoodiifpoomaaGreatDoorWLot3
import Derived.Deep.RegionWith
import Derived.BigQuiet
set_option linter.unusedSimpArgs false
set_option linter.unusedVariables false
set_option maxRecDepth 20000
namespace Go.Proofs.YtoeoodiifpoomaaGreatDoor
open Go.RowKit Moi
attribute [local go_sem] toList_str str_size less_ltB store_float
theorem mod_nil : Mod [] := ⟨(fun _ h => by cases h), (fun _ h => by cases h)⟩
theorem readLot_mod (bs : List UInt8) : Mod (readLot bs).1.deals := by
 unfold readLot
 cases h : rLot bs 0 with
 | error e => exact mod_nil
 | ok y =>
  obtain ⟨r, a⟩ := y
  simp only
  cases h2 : rEnd bs a with
  | error e => exact mod_nil
  | ok z =>
   have hc := (rLot_at h).2.1
   exact mod_of (lot_ok (x := r) (by rw [hc])).2.2.2.1
theorem conv_lotR {W : World} {A : Option Addr} {n : Nat} {bs : List UInt8} (h : RdBytes W A n bs) (c : Nat) : ∀ W', Cln W W' → (convert 33 9 (.slice A n c)).run Tryz.prog W' = .ok (.string (str bs)) W' :=
 fun W' k => conv_all (h.cln k) c
set_option maxHeartbeats 8000000 in
theorem lLotReads (bs : List UInt8) (A : Option Addr) (n c : Nat) (w : World) (hK : KindsAt w) (hr : RdBytes w A n bs) (hc : n ≤ c) (hA : ∀ ad, A = some ad → ad.block < w.heap.size) :
  Calls Tryz.prog 5 #[.slice A n c] w fun e w' => e = .returned (.bool true) ∧ Cln w w' := by
 by_cases hbig : 4000 < n
 ·have t1 : decide (4000 < (n : Int)) = true := decide_eq_true (by omega)
  clear hr hA
  go_enter Tryz.func5, Tryz.ntmps5
  go_wp2_with fail
  refine (speaks_lot _ hK).mono ?_; rintro e w1 ⟨rfl, hq⟩
  go_wp2_with fail
  go_ret
  exact ⟨rfl, hq⟩
 have t1 : decide (4000 < (n : Int)) = false := decide_eq_false (by omega)
 have hn : n ≤ 140737488355328 := by omega
 replace hA := Lib.hid hA
 replace hr := Lib.hid hr
 go_enter Tryz.func5, Tryz.ntmps5
 go_wp2_with fail
 refine (speaks_lot _ hK).mono ?_; rintro e w1 ⟨rfl, hq⟩
 have hr1 := Lib.hid (hr.out.cln hq)
 have hcl1 := Lib.hid hq
 have hs1 := hq.size
 have hK1 := Lib.hid (hK.cln hq)
 clear hr hq hK
 go_wp2_with fail
 have hmo : Mod (readLot bs).1.deals := readLot_mod bs
 rcases ho : readLot bs with ⟨r, er⟩
 obtain ⟨cd, at1⟩ := er
 rw [ho] at hmo
 replace hmo := Lib.hid hmo
 refine (lread_any A n c bs w1 hK1.out hr1.out hc hn (fun ad e => by have := hA.out ad e; omega)).mono ?_
 rw [ho]
 rintro e w2 ⟨AL, nL, cL, rfl, hn32, hnc, hIL, hq⟩
 rw [show faultAgg (cd, at1) = .agg #[.int .i64 (cd : Nat), .int .i64 (at1 : Nat)] from rfl]
 dsimp only at hIL ⊢
 have hclX : Cln w2 ((w2.alloc (.cells #[.int .i64 r.num, .slice AL nL cL] 24)).alloc (.cells #[.int .i64 (cd : Nat), .int .i64 (at1 : Nat)] 36)) := by (repeat with_reducible first | exact cR _ | assumption | refine cA ?_ _ | refine cD ?_ | refine cN ?_ _ | refine cS ?_ (by first | omega | (simp <;> omega)) _)
 have hIL2 := Lib.hid (RdDeals.cln hIL hclX)
 have hr2 := Lib.hid ((hr1.out.cln hq).cln hclX)
 have hcl2 := Lib.hid (cln_trans (cln_trans hcl1.out hq) hclX)
 have hK2 := Lib.hid ((hK1.out.cln hq).cln hclX)
 have hbL := Lib.hid ((Blk.new w2 24 #[.int .i64 r.num, .slice AL nL cL]).alloc (.cells #[.int .i64 (cd : Nat), .int .i64 (at1 : Nat)] 36))
 have hbF := Blk.new (w2.alloc (.cells #[.int .i64 r.num, .slice AL nL cL] 24)) 36 #[.int .i64 (cd : Nat), .int .i64 (at1 : Nat)]
 rw [World.size_alloc] at hbF
 replace hbF := Lib.hid hbF
 have hsz2 : w1.heap.size ≤ w2.heap.size := hq.size
 replace ho := Lib.hid ho
 clear hIL hq hclX hr1 hcl1 hK1
 go_wp2_with fail
 refine (rlread_any A n c bs _ hK2.out hr2.out hc hn (fun ad e => by have := hA.out ad e; simp only [World.size_alloc]; omega)).mono ?_
 rw [ho.out]
 rintro e w3 ⟨AM, nM, cM, rfl, hm32, hmc, hIM, hq⟩
 dsimp only at hIM ⊢
 have hclY : Cln w3 (w3.alloc (.cells #[.int .i64 r.num, .slice AM nM cM] 24)) := by (repeat with_reducible first | exact cR _ | assumption | refine cA ?_ _ | refine cD ?_ | refine cN ?_ _ | refine cS ?_ (by first | omega | (simp <;> omega)) _)
 have hqY := cln_trans hq hclY
 have hIL3 := Lib.hid (RdDeals.cln hIL2.out hqY)
 have hr3 := Lib.hid (hr2.out.cln hqY)
 have hIM3 := Lib.hid (RdDeals.cln hIM hclY)
 have hcl3 := Lib.hid (cln_trans hcl2.out hqY)
 have hK3 := Lib.hid (hK2.out.cln hqY)
 have hbL3 := hbL.out.cln hqY
 have hbF3 := hbF.out.cln hqY
 have hbM := Blk.new w3 24 #[.int .i64 r.num, .slice AM nM cM]
 have gF0 := hbF3.cell 0; have gF1 := hbF3.cell 1; have gL0 := hbL3.cell 0; have gL1 := hbL3.cell 1; have gM0 := hbM.cell 0; have gM1 := hbM.cell 1
 have lL := hbL3.lt; have lF := hbF3.lt; have lM := hbM.lt
 have t2 : (((cd : Nat) : Int) != ((cd : Nat) : Int)) = false := by simp
 have t3 : (((at1 : Nat) : Int) != ((at1 : Nat) : Int)) = false := by simp
 have hq3 : w2.heap.size + 2 ≤ w3.heap.size := by have := hq.size; simp only [World.size_alloc] at this; omega
 have hn1 : ¬ w2.heap.size = w3.heap.size := by omega
 have hn2 : ¬ w2.heap.size + 1 = w3.heap.size := by omega
 replace hbL3 := Lib.hid hbL3; replace hbF3 := Lib.hid hbF3; replace hbM := Lib.hid hbM
 clear hbL hbF hIL2 hr2 hcl2 hIM hq hclY hqY hK2
 have cS : ∀ W : World, Cln (w3.alloc (.cells #[.int .i64 r.num, .slice AM nM cM] 24)) W → Calls Tryz.prog 18 #[.agg #[.int .i64 r.num, .slice AL nL cL], .agg #[.int .i64 r.num, .slice AM nM cM]] W fun e w' => e = .returned (.bool true) ∧ Cln W w' := fun W h => by
  have := rlsame_any r r AL AM nL cL nM cM hmo.out hmo.out (by omega) W (hIL3.out.cln h) (hIM3.out.cln h)
  rw [sameLot_refl] at this
  exact this
 go_wp2_with fail
 refine (cS _ (by (repeat with_reducible first | exact cR _ | assumption | refine cA ?_ _ | refine cD ?_ | refine cN ?_ _ | refine cS ?_ (by first | omega | (simp <;> omega)) _))).mono ?_
 rintro e w4 ⟨rfl, hq⟩
 have hbL4 := hbL3.out.cln (cln_trans (by (repeat with_reducible first | exact cR _ | assumption | refine cA ?_ _ | refine cD ?_ | refine cN ?_ _ | refine cS ?_ (by first | omega | (simp <;> omega)) _)) hq)
 clear gF0 gF1 gL0 gM0 gL1 gM1 lL lF lM cS
 have gL0 := hbL4.cell 0; have gL1 := hbL4.cell 1; have lL4 := hbL4.lt
 replace hbL4 := Lib.hid hbL4
 have hr4 := hr3.out.cln hq
 have hcl4 := Lib.hid (cln_trans hcl3.out hq)
 have hK4 := Lib.hid (hK3.out.cln hq)
 have hIL4 := Lib.hid (RdDeals.cln hIL3.out hq)
 have hcv := conv_lotR hr4 c
 clear hr3 hcl3 hIL3 hIM3 hbF3 hbM hK3
 by_cases hz : cd = 0
 case neg =>
  have t4 : (((cd : Nat) : Int) != 0) = true := by rw [bne_iff_ne]; omega
  clear hcv
  go_wp2_with fail
  go_quiet (fail)
  all_goals
   (try go_wp2_with fail)
   go_ret
   exact ⟨rfl, cln_trans hcl4.out (by (repeat with_reducible first | exact cR _ | assumption | refine cA ?_ _ | refine cD ?_ | refine cN ?_ _ | refine cS ?_ (by first | omega | (simp <;> omega)) _))⟩
 have t4 : (((cd : Nat) : Int) != 0) = false := by rw [hz]; rfl
 obtain ⟨hck, hw, _⟩ := readLot_at ho.out hz
 have hrb : lotBytes r = bs := by unfold lotBytes; rw [if_pos hck]; exact hw
 have cB : ∀ W : World, Cln w4 W → Calls Tryz.prog 19 #[.agg #[.int .i64 r.num, .slice AL nL cL]] W fun e w' => ∃ A' c' m', e = .returned (.slice A' m' c') ∧ (∀ W', Cln w' W' → (convert 33 9 (.slice A' m' c')).run Tryz.prog W' = .ok (.string (str bs)) W') ∧ Cln W w' := fun W h => by
  refine (lbytes_any r AL nL cL hmo.out W (hK4.out.cln h) (hIL4.out.cln h)).mono ?_
  rintro e w' ⟨A', c', m', hm', rfl, hown, hq⟩
  rw [hrb] at hown
  exact ⟨A', c', m', rfl, conv_lotR (newBytes_ok hown).1 c', hq⟩
 have hcur := Lib.hid (show Cln w4 w4.drew from Below.drew (Below.refl _ _))
 clear ho hck hw hrb
 go_wp2_with fail
 go_region_with (first
   |(go_at_call 19; with_reducible refine (cB _ hcur.out).mono ?_; rintro e w' ⟨A', c', m', rfl, hva, hq⟩; have hcur := Lib.hid (cln_trans hcur.out hq))
   | simp only [hcv _ hcur.out]
   | simp only [hva _ (Below.refl _ _)])
 all_goals
  (try go_wp2_with fail)
  go_ret
  exact ⟨rfl, cln_trans hcl4.out hcur.out⟩
end Go.Proofs.YtoeoodiifpoomaaGreatDoor
