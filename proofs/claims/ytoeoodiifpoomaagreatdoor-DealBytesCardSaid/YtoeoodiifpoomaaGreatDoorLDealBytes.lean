/- The law DealBytes. (Printed by wip/tools/gen_ldealr.py.) -/
import Derived.Test.YtoeoodiifpoomaaGreatDoorDeals
import Derived.Test.YtoeoodiifpoomaaGreatDoorDparts
import Derived.Deep.RegionWith
set_option linter.unusedSimpArgs false
set_option linter.unusedVariables false
set_option maxRecDepth 20000
namespace Go.Proofs.YtoeoodiifpoomaaGreatDoor
open Go.RowKit Moi
attribute [local go_sem] toList_str str_size less_ltB store_float
theorem norm_list_le (a : MAct) : (norm a).make.list.length ≤ a.make.list.length := by
 unfold norm
 simp only
 split
 ·exact Nat.le_refl _
 ·exact Nat.zero_le _
theorem conv_dealB {W : World} {A : Option Addr} {n : Nat} {bs : List UInt8} (h : RdBytes W A n bs) (c : Nat) : ∀ W', Cln W W' → (convert 33 9 (.slice A n c)).run Tryz.prog W' = .ok (.string (str bs)) W' :=
 fun W' k => conv_all (h.cln k) c
set_option maxHeartbeats 8000000 in
theorem lDealBytes (a : List MAct) (A : Option Addr) (n c : Nat) (w : World) (hK : KindsAt w) (hr : RdActs w A n a) :
  Calls Tryz.prog 9 #[.agg #[.slice A n c]] w fun e w' => e = .returned (.bool true) ∧ Cln w w' := by
 have hn : Hid (a.length = n) := hr.len
 have hfa : Hid (∀ x ∈ a, FullA x) := hr.full
 have hb0 := Blk.new w 48 #[.slice A n c]
 have hcl : Cln w (w.alloc (.cells #[.slice A n c] 48)) := by (repeat with_reducible first | exact cR _ | assumption | refine cA ?_ _ | refine cD ?_ | refine cN ?_ _ | refine cS ?_ (by first | omega | (simp <;> omega)) _)
 have cSp := speaks_deal _ (hK.cln hcl)
 go_enter Tryz.func9, Tryz.ntmps9
 go_wp2_with fail
 refine cSp.mono ?_; rintro e w1 ⟨rfl, hq⟩
 clear cSp
 have hA1 := Lib.hid (hb0.cln hq)
 have hcl1 := Lib.hid (cln_trans hcl hq)
 have hr1 := Lib.hid (hr.cln hcl1.out)
 have hK1 := Lib.hid (hK.cln hcl1.out)
 clear hb0 hcl hq hr hK
 have uA := hA1.out.cell; have lA := hA1.out.lt
 have hcur : Hid (Cln w1 w1) := Below.refl _ _
 go_wp2_with fail
 refine (bigD_any a A n c _ hr1.out).mono ?_; rintro e w2 ⟨rfl, hq⟩
 have hcur := Lib.hid (cln_trans hcur.out hq)
 clear hq uA lA
 have uA := (hA1.out.cln hcur.out).cell
 have lA := (hA1.out.cln hcur.out).lt
 rcases bigD_or a with hbig | hbig
 case inr =>
  rw [hbig]
  go_wp2_with fail
  go_ret
  exact ⟨rfl, cln_trans hcl1.out hcur.out⟩
 have hmod : Hid (∀ x ∈ a, x.make.list.length ≤ 140737488355328) := fun x hx => by have := bigNA_list ((bigD_le hbig).2 x hx); omega
 have hn1 : n ≤ 40 := by have := (bigD_le hbig).1; rw [hn.out] at this; omega
 rw [hbig]
 clear hbig
 go_wp2_with fail
 refine (dbytes_any a A n c hmod.out (fun x hx => (hfa.out x hx).wf) _ (hK1.out.cln hcur.out) (hr1.out.cln hcur.out)).mono ?_; rintro e w3 ⟨A3, c3, m, hm, rfl, hown, hq⟩
 obtain ⟨hrd, hmc, hml, hA3⟩ := newBytes_ok hown
 have hcur := Lib.hid (cln_trans hcur.out hq)
 clear hq uA lA
 have uA := (hA1.out.cln hcur.out).cell
 have lA := (hA1.out.cln hcur.out).lt
 replace hrd := Lib.hid hrd; replace hA3 := Lib.hid hA3; replace hml := Lib.hid hml
 clear hown
 go_wp2_with fail
 refine (rdcheck_any a A n c hmod.out _ (hr1.out.cln hcur.out)).mono ?_; rintro e w4 ⟨rfl, hq⟩
 have hrd4 := Lib.hid (hrd.out.cln hq)
 have hsz4 := hq.size
 have hcur := Lib.hid (cln_trans hcur.out hq)
 clear hq uA lA
 have uA := (hA1.out.cln hcur.out).cell
 have lA := (hA1.out.cln hcur.out).lt
 clear hrd
 by_cases hck : (checkDeal a).1 = 0
 case neg =>
  have hz : m = 0 := by rw [hml.out]; unfold dealBytes; rw [if_neg hck]; rfl
  have t3 : ((((checkDeal a).1 : Nat) : Int) != 0) = true := by rw [bne_iff_ne]; omega
  have t4 : ((m : Int) == 0) = true := by rw [beq_iff_eq]; omega
  go_wp2_with fail
  go_ret
  exact ⟨ret_bool (by simp [hz]), cln_trans hcl1.out hcur.out⟩
 have t3 : ((((checkDeal a).1 : Nat) : Int) != 0) = false := by rw [hck]; rfl
 have eb : dealBytes a = wDeal a := by unfold dealBytes; rw [if_pos hck]
 rw [eb] at hrd4 hml
 have hm2 : m ≤ 16820 := by rw [hml.out]; exact wDeal_len hck (fun x hx => (hfa.out x hx).wf)
 have hck' := Lib.hid hck
 clear hck eb
 replace hm := Lib.hid hm
 go_wp2_with fail
 refine (dread_any A3 m c3 (wDeal a) w4 (hK1.out.cln hcur.out) hrd4.out hmc (by omega) (fun ad e => by have := (hA3.out ad e).1; omega)).mono ?_
 rw [readDeal_wDeal hck'.out hfa.out]
 have hxs : Hid (sameActs (a.map norm) a = true) := sameActs_norm a (deal_ok hck'.out).2.2.1
 rintro e w5 ⟨AL, nL, cL, rfl, hn32, hIL, hq⟩
 dsimp only at hIL ⊢
 have hmx : Hid (∀ y ∈ a.map norm, y.make.list.length ≤ 140737488355328) := fun y hy => by
  obtain ⟨x0, h1, rfl⟩ := List.mem_map.1 hy
  exact Nat.le_trans (norm_list_le x0) (hmod.out x0 h1)
 generalize hxg : a.map norm = x at hIL hxs hmx
 clear hxg
 rw [show faultAgg (0, 0) = .agg #[.int .i64 0, .int .i64 0] from rfl]
 have hclX : Cln w5 ((w5.alloc (.cells #[.slice AL nL cL] 48)).alloc (.cells #[.int .i64 0, .int .i64 0] 36)) := by (repeat with_reducible first | exact cR _ | assumption | refine cA ?_ _ | refine cD ?_ | refine cN ?_ _ | refine cS ?_ (by first | omega | (simp <;> omega)) _)
 have hrd5 := Lib.hid ((hrd4.out.cln hq).cln hclX)
 have hIL5 := Lib.hid (RdActs.cln hIL hclX)
 have hbX := Lib.hid ((Blk.new w5 48 #[.slice AL nL cL]).alloc (.cells #[.int .i64 0, .int .i64 0] 36))
 have hbF := Blk.new (w5.alloc (.cells #[.slice AL nL cL] 48)) 36 #[.int .i64 0, .int .i64 0]
 rw [World.size_alloc] at hbF
 have hsz5 : w.heap.size < w5.heap.size := (hA1.out.cln (cln_trans hcur.out hq)).lt
 have hcurB := Lib.hid (cln_trans (cln_trans hcur.out hq) hclX)
 have hA5 := Lib.hid (hA1.out.cln hcurB.out)
 have hr5 := Lib.hid (hr1.out.cln hcurB.out)
 have hK5 := Lib.hid (hK1.out.cln hcurB.out)
 clear uA lA hrd4 hIL hq hclX hcur
 have hcv := conv_dealB hrd5.out c3
 have hnn : n ≤ 12 := by have := (deal_ok hck'.out).2.1; have := hn.out; omega
 have cB : ∀ W : World, Cln ((w5.alloc (.cells #[.slice AL nL cL] 48)).alloc (.cells #[.int .i64 0, .int .i64 0] 36)) W → Calls Tryz.prog 40 #[.agg #[.slice A n c]] W fun e w' => ∃ A' c' m', e = .returned (.slice A' m' c') ∧ (∀ W', Cln w' W' → (convert 33 9 (.slice A' m' c')).run Tryz.prog W' = .ok (.string (str (wDeal a))) W') ∧ Cln W w' := fun W h => by
  refine (rdbytes_any a (deal_ok hck'.out).2.2.1 A n c hnn W (hr5.out.cln h)).mono ?_
  rintro e w' ⟨A', c', m', hm', rfl, hown, hq⟩
  exact ⟨A', c', m', rfl, conv_dealB (newBytes_ok hown).1 c', hq⟩
 have cS : ∀ W : World, Cln ((w5.alloc (.cells #[.slice AL nL cL] 48)).alloc (.cells #[.int .i64 0, .int .i64 0] 36)) W → Calls Tryz.prog 25 #[.agg #[.slice AL nL cL], .agg #[.slice A n c]] W fun e w' => e = .returned (.bool true) ∧ Cln W w' := fun W h => by
  have := rdsame_any x a AL A nL cL n c hmx.out hmod.out (by omega) W (hIL5.out.cln h) (hr5.out.cln h)
  rw [hxs.out] at this
  exact this
 have hfe : ∀ W : World, (binOp .eql 36 (.agg #[.int .i64 0, .int .i64 0]) (.agg #[.int .i64 0, .int .i64 0])).run Tryz.prog W = .ok (.bool true) W := fun W => by kernel_rfl
 have hcur : Hid (Cln ((w5.alloc (.cells #[.slice AL nL cL] 48)).alloc (.cells #[.int .i64 0, .int .i64 0] 36)) (((w5.alloc (.cells #[.slice AL nL cL] 48)).alloc (.cells #[.int .i64 0, .int .i64 0] 36))).drew) := Below.drew (Below.refl _ _)
 have cA := hA5.out.cell; have cX := hbX.out.cell; have cF := hbF.cell
 have lA := hA5.out.lt; have lX := hbX.out.lt; have lF := hbF.lt
 replace hbF := Lib.hid hbF
 go_wp2_with fail
 go_region_with (first
   |(go_at_call 40; with_reducible refine (cB _ hcur.out).mono ?_; rintro e w' ⟨A', c', m', rfl, hva, hq⟩; have hcur := Lib.hid (cln_trans hcur.out hq); have uA := (hA5.out.cln hcur.out).cell; have uX := (hbX.out.cln hcur.out).cell; have uF := (hbF.out.cln hcur.out).cell)
   |(go_at_call 25; with_reducible refine (cS _ hcur.out).mono ?_; rintro e w' ⟨rfl, hq⟩; have hcur := Lib.hid (cln_trans hcur.out hq))
   | simp only [hfe]
   | simp only [hcv _ hcur.out]
   | simp only [hva _ (Below.refl _ _)])
 all_goals
  (try go_wp2_with fail)
  go_ret
  exact ⟨rfl, cln_trans (cln_trans hcl1.out hcurB.out) hcur.out⟩
end Go.Proofs.YtoeoodiifpoomaaGreatDoor
