import Derived.Test.YtoeoodiifpoomaaGreatDoorWDeal1
import Derived.Test.YtoeoodiifpoomaaGreatDoorOwns
import Derived.Test.YtoeoodiifpoomaaGreatDoorWBytes
import Derived.Test.YtoeoodiifpoomaaGreatDoorWRead
import Derived.Recover
import Derived.RegionTactic
import Derived.ChangeAlike
import Derived.StillTailTactics
import Derived.BigRegion
import Derived.Test.YtoeoodiifpoomaaGreatDoorRecs
import Derived.Test.YtoeoodiifpoomaaGreatDoorWFlo
import Derived.Deep.RegionWith
import Derived.Test.YtoeoodiifpoomaaGreatDoorWActK
import Derived.Test.YtoeoodiifpoomaaGreatDoorWActR
import Derived.Test.YtoeoodiifpoomaaGreatDoorActA
import Derived.Test.YtoeoodiifpoomaaGreatDoorRows2
import Derived.Test.YtoeoodiifpoomaaGreatDoorWAct7
import Derived.BigQuiet
import Derived.Test.YtoeoodiifpoomaaGreatDoorShelf
import Derived.Sort.OwnSorted
import Derived.Lib.OwnBridge
import Derived.Test.YtoeoodiifpoomaaGreatDoorWDeal2
import Derived.Test.YtoeoodiifpoomaaGreatDoorSpk
/- The walk of deal.Bytes. (Printed by wip/tools/gen_dealread.py.) -/
set_option linter.unusedSimpArgs false
set_option linter.unusedVariables false
set_option maxRecDepth 20000
namespace Go.Proofs.YtoeoodiifpoomaaGreatDoor
open Go.RowKit Moi
attribute [local go_sem] toList_str str_size less_ltB store_float
def dealBytes (l : List MAct) : List UInt8 := if (checkDeal l).1 = 0 then wDeal l else []
set_option maxHeartbeats 4000000 in
theorem dbytes_any (l : List MAct) (A : Option Addr) (n c : Nat) (hsz : ∀ a ∈ l, a.make.list.length ≤ 140737488355328) (hwf : ∀ a ∈ l, a.WF) (w : World) (hK : KindsAt w) (hr : RdActs w A n l) :
  Calls Tryz.prog 38 #[.agg #[.slice A n c]] w (NewBytes w (dealBytes l)) := by
 have hlen := hr.len
 have hb0 := Lib.hid (Blk.new w 48 #[.slice A n c])
 have hcl0 : Cln w (w.alloc (.cells #[.slice A n c] 48)) := by (repeat with_reducible first | exact cR _ | assumption | refine cA ?_ _ | refine cD ?_ | refine cN ?_ _ | refine cS ?_ (by first | omega | (simp <;> omega)) _)
 by_cases hk : (checkDeal l).1 = 0
 ·obtain ⟨g1, g2, g3, g4⟩ := deal_ok hk
  have hdl := wDeal_len hk hwf
  rw [show dealBytes l = wDeal l from by unfold dealBytes; rw [if_pos hk]]
  have t1 : ((((checkDeal l).1 : Nat) : Int) != 0) = false := by rw [hk]; rfl
  replace hk := Lib.hid hk
  replace g3 := Lib.hid g3
  have hsz' := Lib.hid hsz
  clear g4 hwf
  go_enter Tryz.func38, Tryz.ntmps38
  go_wp2_with fail
  refine (dcheck_any l A n c hsz'.out _ (hK.cln hcl0) (hr.cln hcl0)).mono ?_; rintro e w1 ⟨rfl, hq⟩
  have hb := hb0.out.cln hq
  have hc := hb.cell
  have hlt := hb.lt
  have hne : ¬ w.heap.size = w1.heap.size := by omega
  have hcl1 : Cln w w1 := cln_trans hcl0 hq
  have hr1 := Lib.hid (hr.cln hcl1)
  have hK1 := Lib.hid (hK.cln hcl1)
  clear hq hcl0 hb0
  go_wp2_with fail
  refine (dwrite_any w1.heap.size w1.heap.size [] l g3.out A n c (by omega) w1 hK1.out hr1.out (Nat.le_refl _) _ ((Below.refl _ _).alloc (Nat.le_refl _) _) (newWriter w1) (by simp; omega)).mono ?_
  rintro e w2 ⟨rfl, hW, hKK⟩
  rw [List.nil_append] at hW
  have hb2 := WS_below hKK (Nat.le_refl _) (by simp)
  go_wp2_with fail
  refine (bytes_any _ _ _ _ hW (by omega)).mono ?_
  rintro e w3 ⟨A', c', m, hm, rfl, hown, hq3⟩
  have hle : w.heap.size ≤ w2.heap.size := by have := hKK.size; simp at this; omega
  have hcl2 : Cln w w2 := hcl1.trans ((Below.mono (Below.trans ((Below.refl w1.heap.size w1).alloc (Nat.le_refl _) _) hb2) (by omega)))
  go_wp2_with fail
  go_ret
  exact ⟨A', c', m, hm, rfl, own_base hown hle, cln_trans hcl2 hq3⟩
 ·rw [show dealBytes l = [] from by unfold dealBytes; rw [if_neg hk]]
  have t1 : ((((checkDeal l).1 : Nat) : Int) != 0) = true := by rw [bne_iff_ne]; omega
  clear hk
  have hsz' := Lib.hid hsz
  go_enter Tryz.func38, Tryz.ntmps38
  go_wp2_with fail
  refine (dcheck_any l A n c hsz'.out _ (hK.cln hcl0) (hr.cln hcl0)).mono ?_; rintro e w1 ⟨rfl, hq⟩
  have hcl1 : Cln w w1 := cln_trans hcl0 hq
  go_wp2_with fail
  go_ret
  exact ⟨none, 0, 0, rfl, rfl, World.ownsRow_nil _ _ _ _, hcl1⟩
theorem size_deal0 : (Tryz.prog.info? 48).map (·.size) = some 1 := by kernel_rfl
theorem dcatch_idle (g2 g3 : Nat) (w : World) :
  CallsD Tryz.prog 80 #[.pointer (some ⟨g2, 0, none⟩), .pointer (some ⟨g3, 0, none⟩)] .returning w fun e u' w' => e = .returned (.tuple #[]) ∧ u' = .returning ∧ Cln w w' := by
 refine callsD_of_wpS Tryz.func80 rfl fun c₀ cs hu => ?_
 apply wpS_seq
 apply wpS_region
 simp [wpOpsS, go_sem, recoverD, hu, Tryz.ntmps80, Exit.thenS]
 refine (caught_nil w).mono ?_
 rintro e w1 ⟨rfl, hq⟩
 simp [faultAgg, go_sem]
 refine wpS_of_wp ?_
 go_wp2_with fail
 refine ⟨rfl, .returning, ?_, .tuple #[], results_none rfl _ _ _, rfl, rfl, ?_⟩
 ·cases c₀; simp_all
 ·exact cln_trans hq ((Below.refl _ _).alloc (Nat.le_refl _) _)
set_option maxHeartbeats 2000000 in
theorem dcatch_val (g2 g3 : Nat) (f : RErr) (hf : f.1 ≠ 0) (w : World) (a0 b0 b1 : Value) (h2 : Blk w g2 48 #[a0]) (h3 : Blk w g3 36 #[b0, b1]) (hne : g2 ≠ g3) :
  CallsD Tryz.prog 80 #[.pointer (some ⟨g2, 0, none⟩), .pointer (some ⟨g3, 0, none⟩)] (.panicking (faultChain f)) w fun e u' w' => e = .returned (.tuple #[]) ∧ u' = .panicking [{ v := faultVal f, recovered := true }] ∧
   Blk w' g2 48 #[.slice none 0 0] ∧ Blk w' g3 36 #[.int .i64 (f.1 : Nat), .int .i64 (f.2 : Nat)] ∧ Kept (fun i => i = g2 ∨ i = g3) w w' := by
 unfold faultChain
 refine callsD_of_wpS Tryz.func80 rfl fun c₀ cs hu => ?_
 apply wpS_seq
 apply wpS_region
 simp [wpOpsS, go_sem, recoverD, hu, Tryz.ntmps80, Exit.thenS]
 refine (caught_val f w).mono ?_
 rintro e w1 ⟨rfl, hq⟩
 simp [faultAgg, go_sem]
 refine wpS_of_wp ?_
 have h2' := (h2.cln hq).alloc (.cells #[.int .i64 (f.1 : Nat), .int .i64 (f.2 : Nat)] 36)
 have h3' := (h3.cln hq).alloc (.cells #[.int .i64 (f.1 : Nat), .int .i64 (f.2 : Nat)] 36)
 have h4' := Blk.new w1 36 #[.int .i64 (f.1 : Nat), .int .i64 (f.2 : Nat)]
 have hK : Cln w (w1.alloc (.cells #[.int .i64 (f.1 : Nat), .int .i64 (f.2 : Nat)] 36)) := cln_trans hq ((Below.refl _ _).alloc (Nat.le_refl _) _)
 have hg4 : w.heap.size ≤ w1.heap.size := hq.size
 have hl2 := h2.lt
 have hl3 := h3.lt
 refine (show Code.wp _ _ _ { tmps := #[.pointer (some ⟨g2, 0, none⟩), .pointer (some ⟨g3, 0, none⟩), .pointer (some ⟨w1.heap.size, 0, none⟩), faultVal f, faultAgg f, undef, undef, undef, undef, undef], defers := [] } _ from ?_)
 generalize w1.alloc (.cells #[.int .i64 (f.1 : Nat), .int .i64 (f.2 : Nat)] 36) = W at h2' h3' h4' hK ⊢
 have hz3 : (((f.1 : Nat) : Int) != 0) = true := by simp; omega
 have hz : (((f.1 : Nat) : Int) == 0) = false := by rw [beq_eq_false_iff_ne]; omega
 generalize w1.heap.size = g4 at h4' hg4 ⊢
 clear hq h2 h3
 have n24 : ¬ g4 = g2 := by omega
 have n34 : ¬ g4 = g3 := by omega
 have n42 : ¬ g2 = g4 := by omega
 have n43 : ¬ g3 = g4 := by omega
 have n32 : ¬ g3 = g2 := fun e => hne e.symm
 have n23 : ¬ g2 = g3 := hne
 have hlt2 := h2'.lt
 have hlt3 := h3'.lt
 have hlt4 := h4'.lt
 have hf2 := h2'.frozen
 have hf3 := h3'.frozen
 have hc2 := h2'.cell
 have hc3 := h3'.cell
 have hc4 := h4'.cell
 have hu' := Lib.hid hu
 have hK' := Lib.hid hK
 clear hu hf hK
 go_wp2_with fail
 go_region
 refine ⟨rfl, _, rfl, .tuple #[], results_none rfl _ _ _, rfl, rfl, ?_, ?_, ?_⟩
 ·refine blk_drew ?_
  have hx := h2'.set_ 0 (.slice none 0 0)
  exact (hx.far (p := ⟨g3, 0, none⟩) n23 (.int .i64 (f.1 : Nat))).far (p := ⟨g3, 1, none⟩) n23 (.int .i64 (f.2 : Nat))
 ·refine blk_drew ?_
  have hy := h3'.far (p := ⟨g2, 0, none⟩) n32 (.slice none 0 0)
  exact hy.store2 (v0 := .int .i64 (f.1 : Nat)) (v1 := .int .i64 (f.2 : Nat))
 ·refine Kept.drew ?_
  iterate 2 refine Kept.setCell (S := fun i => i = g2 ∨ i = g3) ?_ (fun _ => .inr rfl) _
  refine Kept.setCell (S := fun i => i = g2 ∨ i = g3) ?_ (fun _ => .inl rfl) _
  exact Kept.of_below hK'.out
def DReadPost (w : World) (o : List MAct × RErr) (e : Ending) (w' : World) : Prop :=
 ∃ A n c, e = .returned (.tuple #[.agg #[.slice A n c], faultAgg o.2]) ∧ n ≤ 12 ∧ RdActs w' A n o.1 ∧ Cln w w'
theorem RdActs.none0 (w : World) : RdActs w none 0 [] := ⟨rfl, fun h => absurd h (by omega)⟩
theorem dread_door (w w1 : World) (f : RErr) (hf : f.1 ≠ 0) (tmps : Array Value) (a0 b0 b1 : Value)
  (h2 : Blk w1 w.heap.size 48 #[a0]) (h3 : Blk w1 (w.heap.size + 1) 36 #[b0, b1]) (hk : Cln w w1)
  (t2 : tmps.getD 2 undef = .pointer (some ⟨w.heap.size, 0, none⟩)) (t3 : tmps.getD 3 undef = .pointer (some ⟨w.heap.size + 1, 0, none⟩)) :
  Leaves Tryz.prog Tryz.f39 tmps (DReadPost w ([], f)) [{ target := .fn (.func 80) #[.pointer (some ⟨w.heap.size, 0, none⟩), .pointer (some ⟨w.heap.size + 1, 0, none⟩)], args := #[] }] (.panicking (faultChain f)) w1 := by
 refine leaves_cons (f := 80) (args := #[.pointer (some ⟨w.heap.size, 0, none⟩), .pointer (some ⟨w.heap.size + 1, 0, none⟩)]) (by simp) (by simp [go_sem]) ?_
 refine (dcatch_val w.heap.size (w.heap.size + 1) f hf w1 _ _ _ h2 h3 (by omega)).mono ?_
 rintro e u' w2 ⟨rfl, rfl, hb2, hb3, hk2⟩
 refine ⟨.tuple #[.agg #[.slice none 0 0], faultAgg f], ?_, none, 0, 0, rfl, Nat.zero_le _, RdActs.none0 _, ?_⟩
 ·have s2 : (Tryz.prog.info? 36).map (·.size) = some 2 := by kernel_rfl
  exact results_cc2 Tryz.results39 _ _ w.heap.size (w.heap.size + 1) _ _ _ _ (0, 0) (0, 0) _ _ t2 hb2 Tryz.underlying48 rfl size_deal0 t3 hb3 Tryz.underlying36 rfl s2
 ·exact ((Kept.of_below (S := fun i => i = w.heap.size ∨ i = w.heap.size + 1) hk).trans hk2).toBelow (Nat.le_refl _) (fun i hi h => by omega)
set_option maxHeartbeats 1000000 in
theorem dread_any (A : Option Addr) (n c : Nat) (bs : List UInt8) (w : World) (hK : KindsAt w) (hr : RdBytes w A n bs) (hc : n ≤ c) (hb : n ≤ 140737488355328) (hA : ∀ ad, A = some ad → ad.block < w.heap.size) :
  Calls Tryz.prog 39 #[.slice A n c] w (DReadPost w (readDeal bs)) := by
 have hmf : ∀ (fn : Fn) (first cap : Array Value) (w : World), (Instr.makeFunc fn first cap).run Tryz.prog w = .ok (.func fn first cap) w := fun _ _ _ _ => rfl
 go_enter_defers Tryz.func39, Tryz.ntmps39
 go_wp2_with fail
 have hb2 := (Blk.new w 48 #[.slice none 0 0]).alloc (.cells #[.int .i64 0, .int .i64 0] 36)
 have hb3 := Blk.new (w.alloc (.cells #[.slice none 0 0] 48)) 36 #[.int .i64 0, .int .i64 0]
 have hcl0 : Cln w ((w.alloc (.cells #[.slice none 0 0] 48)).alloc (.cells #[.int .i64 0, .int .i64 0] 36)) := by (repeat with_reducible first | exact cR _ | assumption | refine cA ?_ _ | refine cD ?_ | refine cN ?_ _ | refine cS ?_ (by first | omega | (simp <;> omega)) _)
 simp only [World.size_alloc] at hb3
 refine (new_any A n c bs _ (hr.cln hcl0) hc hb (fun ad e => by have := hA ad e; simp; omega)).mono ?_
 rintro e w1 ⟨rfl, hR, hcl1⟩
 have hb2' := hb2.cln hcl1
 have hb3' := hb3.cln hcl1
 simp only [World.size_alloc] at hR
 have hcl2 := cln_trans hcl0 hcl1
 have hsz := hR.blk.lt
 clear hb2 hb3 hcl0 hcl1
 go_wp2_with fail
 refine (dtake_any (w.heap.size + 1 + 1) A n c bs 0 w1 hR (fun ad e => by have := hA ad e; omega) (hK.cln hcl2)).mono ?_
 intro e w2 h
 rcases h.cases with ⟨r, a1, v, hres, rfl, hv, hR2, hk2⟩ | ⟨f, hres, rfl, hk2⟩
 case inr =>
  have ho : readDeal bs = ([], f) := by unfold readDeal; rw [hres]
  have ho' := Lib.hid ho
  have hf := rDeal_nz hres
  clear h hres ho
  have hb2'' := hb2'.kept hk2 (show ¬ w.heap.size = w.heap.size + 1 + 1 by omega)
  have hb3'' := hb3'.kept hk2 (show ¬ w.heap.size + 1 = w.heap.size + 1 + 1 by omega)
  have hcl3 : Cln w w2 := ((Kept.of_below (S := fun i => i = w.heap.size + 1 + 1) hcl2).trans hk2).toBelow (Nat.le_refl _) (fun i hi h => by omega)
  go_wp2_with fail
  rw [ho'.out]
  exact dread_door w w2 f hf _ _ _ _ hb2'' hb3'' hcl3 rfl rfl
 obtain ⟨AL, nL, cL, rfl, hn12, hL⟩ := hv
 have hL' := Lib.hid hL
 have hres' := Lib.hid hres
 clear h hres hL
 have hb2'' := hb2'.kept hk2 (show ¬ w.heap.size = w.heap.size + 1 + 1 by omega)
 have hb3'' := hb3'.kept hk2 (show ¬ w.heap.size + 1 = w.heap.size + 1 + 1 by omega)
 have hcl3 : Cln w w2 := ((Kept.of_below (S := fun i => i = w.heap.size + 1 + 1) hcl2).trans hk2).toBelow (Nat.le_refl _) (fun i hi h => by omega)
 have hlt2 := hb2''.lt
 have hc2 := hb2''.cell
 have hf2 := hb2''.frozen
 have hsz1 : w1.heap.size ≤ w2.heap.size := hk2.size
 have fk := keptSet w2 w.heap.size 0 (.slice AL nL cL)
 have hb4 : Blk _ w.heap.size 48 #[.slice AL nL cL] := hb2''.set_ 0 (.slice AL nL cL)
 have hb5 := hb3''.kept fk (show ¬ w.heap.size + 1 = w.heap.size by omega)
 have hR4 := hR2.kept fk (show ¬ w.heap.size + 1 + 1 = w.heap.size by omega) (fun ad e => by have := hA ad e; omega)
 have hL4 : OnlyBy (fun k => w1.heap.size ≤ k ∧ k < (w2.setCell ⟨w.heap.size, 0, none⟩ (.slice AL nL cL)).heap.size) (w2.setCell ⟨w.heap.size, 0, none⟩ (.slice AL nL cL)) fun w' => RdActs w' AL nL r := hL'.out.to (fun k hk => fk.block k hk.2 (by omega)) (fun k hk => ⟨by omega, by simpa using hk.2⟩)
 have hcl4 : Cln w (w2.setCell ⟨w.heap.size, 0, none⟩ (.slice AL nL cL)) := ((Kept.of_below (S := fun i => i = w.heap.size) hcl3).trans fk).toBelow (Nat.le_refl _) (fun i hi h => by omega)
 have hsz4 : w.heap.size + 1 + 1 < (w2.setCell ⟨w.heap.size, 0, none⟩ (.slice AL nL cL)).heap.size := hR4.blk.lt
 replace hL4 := Lib.hid hL4
 clear hb2'' hb3'' hcl3 fk hk2 hR2 hL'
 go_wp2_with fail
 refine (end_any (w.heap.size + 1 + 1) A n c bs a1 _ hR4).mono ?_
 intro e w3 h
 rcases h.cases with ⟨u, a2, v, hres2, rfl, hv, hR5, hk5⟩ | ⟨f, hres2, rfl, hk5⟩
 case inr =>
  have ho : readDeal bs = ([], f) := by unfold readDeal; rw [hres'.out]; simp only [hres2]
  have ho' := Lib.hid ho
  have hf := rEnd_nz hres2
  clear h hres2 ho hc2 hf2
  have hb6 := hb4.kept hk5 (show ¬ w.heap.size = w.heap.size + 1 + 1 by omega)
  have hb7 := hb5.kept hk5 (show ¬ w.heap.size + 1 = w.heap.size + 1 + 1 by omega)
  have hcl5 : Cln w w3 := ((Kept.of_below (S := fun i => i = w.heap.size + 1 + 1) hcl4).trans hk5).toBelow (Nat.le_refl _) (fun i hi h => by omega)
  go_wp2_with fail
  rw [ho'.out]
  exact dread_door w w3 f hf _ _ _ _ hb6 hb7 hcl5 rfl rfl
 have hv' : v = .tuple #[] := hv
 subst hv'
 have ho : readDeal bs = (r, (0, 0)) := by unfold readDeal; rw [hres'.out]; simp only [hres2]
 have ho' := Lib.hid ho
 have hb6 := hb4.kept hk5 (show ¬ w.heap.size = w.heap.size + 1 + 1 by omega)
 have hb7 := hb5.kept hk5 (show ¬ w.heap.size + 1 = w.heap.size + 1 + 1 by omega)
 have hcl5 : Cln w w3 := ((Kept.of_below (S := fun i => i = w.heap.size + 1 + 1) hcl4).trans hk5).toBelow (Nat.le_refl _) (fun i hi h => by omega)
 have hL5 : Hid (OnlyBy (fun k => w1.heap.size ≤ k ∧ k < w3.heap.size) w3 fun w' => RdActs w' AL nL r) := hL4.out.to (fun k hk => hk5.block k hk.2 (by omega)) (fun k hk => ⟨hk.1, Nat.lt_of_lt_of_le hk.2 hk5.size⟩)
 clear h hv hres2 ho hc2 hf2 hR5 hR4 hb4 hb5 hL4 hcl4 hk5 hlt2
 have hc6 := hb6.cell
 have hf6 := hb6.frozen
 have hl6 := hb6.lt
 have hc7 := hb7.cell
 have hf7 := hb7.frozen
 have hl7 := hb7.lt
 go_wp2_with fail
 rw [ho'.out]
 have fk := keptSet w3 w.heap.size 0 (.slice AL nL cL)
 have hb8 : Blk _ w.heap.size 48 #[.slice AL nL cL] := hb6.set_ 0 (.slice AL nL cL)
 have hb9 := (hb8.far (p := ⟨w.heap.size + 1, 0, none⟩) (by simp) (.int .i64 0)).far (p := ⟨w.heap.size + 1, 1, none⟩) (by simp) (.int .i64 0)
 have hb10 := (hb7.kept fk (show ¬ w.heap.size + 1 = w.heap.size by omega)).store2 (v0 := .int .i64 0) (v1 := .int .i64 0)
 have k1 : Kept (fun i => i = w.heap.size ∨ i = w.heap.size + 1) w _ := ((((Kept.of_below hcl5).trans (fk.mono (fun i _ h => .inl h))).setCell (p := ⟨w.heap.size + 1, 0, none⟩) (fun _ => .inr rfl) (.int .i64 0)).setCell (p := ⟨w.heap.size + 1, 1, none⟩) (fun _ => .inr rfl) (.int .i64 0))
 have k2 : Kept (fun i => i = w.heap.size ∨ i = w.heap.size + 1) w3 _ := (((Kept.refl _ w3).trans (fk.mono (fun i _ h => .inl h))).setCell (p := ⟨w.heap.size + 1, 0, none⟩) (fun _ => .inr rfl) (.int .i64 0)).setCell (p := ⟨w.heap.size + 1, 1, none⟩) (fun _ => .inr rfl) (.int .i64 0)
 clear hc6 hf6 hc7 hf7 hb8 hb6 hb7 fk
 refine leaves_cons (f := 80) (args := #[.pointer (some ⟨w.heap.size, 0, none⟩), .pointer (some ⟨w.heap.size + 1, 0, none⟩)]) (by simp) (by simp [go_sem]) ?_
 refine (dcatch_idle w.heap.size (w.heap.size + 1) _).mono ?_
 rintro e u' w4 ⟨rfl, rfl, hq⟩
 refine ⟨.tuple #[.agg #[.slice AL nL cL], faultAgg (0, 0)], ?_, AL, nL, cL, rfl, hn12, ?_, ?_⟩
 ·have s2 : (Tryz.prog.info? 36).map (·.size) = some 2 := by kernel_rfl
  exact results_cc2 Tryz.results39 _ _ w.heap.size (w.heap.size + 1) _ _ _ _ (0, 0) (0, 0) _ _ rfl (hb9.cln hq) Tryz.underlying48 rfl size_deal0 rfl (hb10.cln hq) Tryz.underlying36 rfl s2
 ·exact (hL5.out.to (S2 := fun _ => True) (fun k hk => k2.block k hk.2 (by omega)) (fun _ _ => trivial)).here.cln hq
 ·exact (k1.below_ hq).toBelow (Nat.le_refl _) (fun i hi h => by omega)
structure RdStrs (W : World) (A : Option Addr) (n : Nat) (l : List (List UInt8)) : Prop where
 len : l.length = n
 rows : 0 < n → ∃ b o, A = some ⟨b, o, none⟩ ∧ b < W.heap.size ∧ ∀ i, i < n → W.cell? ⟨b, o + i, none⟩ = some (.string (str (l.getD i [])))
theorem RdStrs.cln {W W' : World} {A : Option Addr} {n : Nat} {l : List (List UInt8)} (h : RdStrs W A n l) (k : Cln W W') : RdStrs W' A n l :=
 ⟨h.len, fun h0 => by
  obtain ⟨b, o, rfl, hb, hc⟩ := h.rows h0
  have k' := Kept.of_below (S := fun _ => False) k
  exact ⟨b, o, rfl, Nat.lt_of_lt_of_le hb k.size, fun i hi => k'.cell (hc i hi) id⟩⟩
theorem strs_drop (l : List (List UInt8)) (i : Nat) (h : i < l.length) : l.drop i = l.getD i [] :: l.drop (i + 1) := by
 rw [List.drop_eq_getElem_cons h]; simp [List.getD, h]
def firstS (s : List UInt8) : Nat → List (List UInt8) → Int
 | _, [] => -1
 | i, a :: l => if s == a then (i : Int) else firstS s (i + 1) l
theorem firstS_pos (s : List UInt8) : ∀ (l : List (List UInt8)) (i : Nat), decide (firstS s i l ≥ 0) = l.contains s
 | [], i => by simp [firstS]
 | a :: l, i => by
  unfold firstS
  cases h : (s == a) with
  | true => simp only [List.contains_cons, h, Bool.true_or, if_true]; simp
  | false => simp only [List.contains_cons, h, Bool.false_or]; exact firstS_pos s l (i + 1)
set_option maxHeartbeats 4000000 in
theorem indexS_any (l : List (List UInt8)) (s : List UInt8) (A : Option Addr) (n c : Nat) (hn : n ≤ 140737488355328) (w : World) (hr : RdStrs w A n l) :
  Calls Tryz.prog 114 #[.slice A n c, .string (str s)] w fun e w' => e = .returned (.int .i64 (firstS s 0 l)) ∧ Cln w w' := by
 have hll := hr.len
 go_enter Tryz.func114, Tryz.ntmps114
 go_wp2_with fail
 go_loopw [8] (fun v wr => ∃ i : Nat, i ≤ n ∧ v = .int .i64 (i : Nat) ∧ Hid (Cln w wr) ∧ Hid (firstS s 0 l = firstS s i (l.drop i))) (fun v _ => (n - intOf v).toNat)
 case atStart => exact ⟨0, Nat.zero_le _, rfl, Below.refl _ _, rfl⟩
 case round =>
  obtain ⟨i, hi, rfl, hcl, hH⟩ := hrel
  by_cases hlt : i < n
  ·have t3 : decide ((i : Int) < (n : Int)) = true := decide_eq_true (by omega)
   have hstep : Hid (firstS s 0 l = if s == l.getD i [] then (i : Int) else firstS s (i + 1) (l.drop (i + 1))) := by unfold Hid; rw [hH.out, strs_drop l i (by omega)]; rfl
   clear hH
   obtain ⟨b, o, rfl, hb, hc⟩ := (hr.cln hcl.out).rows (by omega)
   have c0 := hc i hlt
   clear hc
   generalize l.getD i [] = x at c0 hstep
   cases hE : (s == x) with
   | true =>
    have hst : Hid (firstS s 0 l = (i : Int)) := by unfold Hid; rw [hstep.out, hE]; rfl
    clear hstep
    go_wp2_with fail
    go_ret
    refine ⟨?_, hcl.out⟩
    rw [hst.out]; rfl
   | false =>
    have hst : Hid (firstS s 0 l = firstS s (i + 1) (l.drop (i + 1))) := by unfold Hid; rw [hstep.out, hE]; rfl
    clear hstep
    go_wp2_with fail
    go_roundw
    case rel => exact ⟨i + 1, hlt, by go_num, hcl, hst⟩
    case measure => simp [intOf]; omega
  ·obtain rfl : i = n := by omega
   have t3 : decide ((i : Int) < (i : Int)) = false := decide_eq_false (by omega)
   go_wp2_with fail
   go_ret
   refine ⟨?_, hcl.out⟩
   rw [hH.out, List.drop_of_length_le (by omega)]; rfl
theorem containsS_any (l : List (List UInt8)) (s : List UInt8) (A : Option Addr) (n c : Nat) (hn : n ≤ 140737488355328) (w : World) (hr : RdStrs w A n l) :
  Calls Tryz.prog 77 #[.slice A n c, .string (str s)] w fun e w' => e = .returned (.bool (l.contains s)) ∧ Cln w w' := by
 have hp := firstS_pos s l 0
 go_enter Tryz.func77, Tryz.ntmps77
 go_wp2_with fail
 refine (indexS_any l s A n c hn w hr).mono ?_
 rintro e w3 ⟨rfl, hq⟩
 generalize firstS s 0 l = z at hp
 go_wp2_with fail
 go_ret
 exact ⟨ret_bool (by simp), hq⟩
def kindsB (k l : Int) : Bool :=
 if k < 3 ∨ 21 < k ∨ l < 3 ∨ 21 < l then false
 else if (readsB k && readsB l) = true then true
 else if k = 3 ∨ l = 3 then true
 else if k = 4 ∨ l = 4 then false
 else if onOf k ≠ onOf l then true
 else k == l && (k == 7 || k == 13 || k == 14 || k == 19 || k == 21)
def commuteB (a b : MAct) : Bool := a.key != b.key || kindsB a.kind b.kind
set_option maxHeartbeats 4000000 in
theorem kinds_any (k l : Int) (w : World) (hK : KindsAt w) : Calls Tryz.prog 160 #[.int .i64 k, .int .i64 l] w fun e w' => e = .returned (.bool (kindsB k l)) ∧ Cln w w' := by
 have hcur : Hid (Cln w w) := Below.refl _ _
 by_cases c1 : k < 1 ∨ 21 < k
 ·have ek : (wordOf k).isEmpty = true := by rw [(wordOf_nil k).2 c1]; rfl
  rw [show kindsB k l = false from by unfold kindsB; rw [if_pos (by omega)]]
  go_enter Tryz.func160, Tryz.ntmps160
  go_wp2_with (first
   |(go_at_call 183; (first | with_reducible refine (name_act k _ (hK.cln hcur.out)).mono ?_ | with_reducible refine (name_act l _ (hK.cln hcur.out)).mono ?_); rintro e w' ⟨rfl, hq⟩; have hcur := Lib.hid (cln_trans hcur.out hq); clear hq)
   |(go_at_call 76; (first | with_reducible refine (reads_act k _).mono ?_ | with_reducible refine (reads_act l _).mono ?_); rintro e w' ⟨rfl, hq⟩; have hcur := Lib.hid (cln_trans hcur.out hq); clear hq)
   |(go_at_call 184; (first | with_reducible refine (on_act k _ (hK.cln hcur.out)).mono ?_ | with_reducible refine (on_act l _ (hK.cln hcur.out)).mono ?_); rintro e w' ⟨rfl, hq⟩; have hcur := Lib.hid (cln_trans hcur.out hq); clear hq))
  go_ret
  exact ⟨rfl, hcur.out⟩
 have ek : (wordOf k).isEmpty = false := List.isEmpty_eq_false_iff.2 (fun h => c1 ((wordOf_nil k).1 h))
 by_cases c2 : l < 1 ∨ 21 < l
 ·have el : (wordOf l).isEmpty = true := by rw [(wordOf_nil l).2 c2]; rfl
  rw [show kindsB k l = false from by unfold kindsB; rw [if_pos (by omega)]]
  go_enter Tryz.func160, Tryz.ntmps160
  go_wp2_with (first
   |(go_at_call 183; (first | with_reducible refine (name_act k _ (hK.cln hcur.out)).mono ?_ | with_reducible refine (name_act l _ (hK.cln hcur.out)).mono ?_); rintro e w' ⟨rfl, hq⟩; have hcur := Lib.hid (cln_trans hcur.out hq); clear hq)
   |(go_at_call 76; (first | with_reducible refine (reads_act k _).mono ?_ | with_reducible refine (reads_act l _).mono ?_); rintro e w' ⟨rfl, hq⟩; have hcur := Lib.hid (cln_trans hcur.out hq); clear hq)
   |(go_at_call 184; (first | with_reducible refine (on_act k _ (hK.cln hcur.out)).mono ?_ | with_reducible refine (on_act l _ (hK.cln hcur.out)).mono ?_); rintro e w' ⟨rfl, hq⟩; have hcur := Lib.hid (cln_trans hcur.out hq); clear hq))
  go_ret
  exact ⟨rfl, hcur.out⟩
 have el : (wordOf l).isEmpty = false := List.isEmpty_eq_false_iff.2 (fun h => c2 ((wordOf_nil l).1 h))
 by_cases c3 : k ≤ 2
 ·have dk : decide (k ≤ 2) = true := decide_eq_true c3
  rw [show kindsB k l = false from by unfold kindsB; rw [if_pos (by omega)]]
  go_enter Tryz.func160, Tryz.ntmps160
  go_wp2_with (first
   |(go_at_call 183; (first | with_reducible refine (name_act k _ (hK.cln hcur.out)).mono ?_ | with_reducible refine (name_act l _ (hK.cln hcur.out)).mono ?_); rintro e w' ⟨rfl, hq⟩; have hcur := Lib.hid (cln_trans hcur.out hq); clear hq)
   |(go_at_call 76; (first | with_reducible refine (reads_act k _).mono ?_ | with_reducible refine (reads_act l _).mono ?_); rintro e w' ⟨rfl, hq⟩; have hcur := Lib.hid (cln_trans hcur.out hq); clear hq)
   |(go_at_call 184; (first | with_reducible refine (on_act k _ (hK.cln hcur.out)).mono ?_ | with_reducible refine (on_act l _ (hK.cln hcur.out)).mono ?_); rintro e w' ⟨rfl, hq⟩; have hcur := Lib.hid (cln_trans hcur.out hq); clear hq))
  go_ret
  exact ⟨rfl, hcur.out⟩
 have dk : decide (k ≤ 2) = false := decide_eq_false c3
 by_cases c4 : l ≤ 2
 ·have dl : decide (l ≤ 2) = true := decide_eq_true c4
  rw [show kindsB k l = false from by unfold kindsB; rw [if_pos (by omega)]]
  go_enter Tryz.func160, Tryz.ntmps160
  go_wp2_with (first
   |(go_at_call 183; (first | with_reducible refine (name_act k _ (hK.cln hcur.out)).mono ?_ | with_reducible refine (name_act l _ (hK.cln hcur.out)).mono ?_); rintro e w' ⟨rfl, hq⟩; have hcur := Lib.hid (cln_trans hcur.out hq); clear hq)
   |(go_at_call 76; (first | with_reducible refine (reads_act k _).mono ?_ | with_reducible refine (reads_act l _).mono ?_); rintro e w' ⟨rfl, hq⟩; have hcur := Lib.hid (cln_trans hcur.out hq); clear hq)
   |(go_at_call 184; (first | with_reducible refine (on_act k _ (hK.cln hcur.out)).mono ?_ | with_reducible refine (on_act l _ (hK.cln hcur.out)).mono ?_); rintro e w' ⟨rfl, hq⟩; have hcur := Lib.hid (cln_trans hcur.out hq); clear hq))
  go_ret
  exact ⟨rfl, hcur.out⟩
 have dl : decide (l ≤ 2) = false := decide_eq_false c4
 have hin : ¬ (k < 3 ∨ 21 < k ∨ l < 3 ∨ 21 < l) := by omega
 cases hrk : readsB k with
 | false =>
  have hr : (readsB k && readsB l) = false := by simp [hrk]
  by_cases c5 : k = 3
  ·have t_k_3 : ((k : Int) == 3) = true := by rw [beq_iff_eq]; omega
   rw [show kindsB k l = true from by unfold kindsB; rw [if_neg hin, hr, if_neg (by decide), if_pos (by omega)]]
   clear c5
   go_enter Tryz.func160, Tryz.ntmps160
   go_wp2_with (first
    |(go_at_call 183; (first | with_reducible refine (name_act k _ (hK.cln hcur.out)).mono ?_ | with_reducible refine (name_act l _ (hK.cln hcur.out)).mono ?_); rintro e w' ⟨rfl, hq⟩; have hcur := Lib.hid (cln_trans hcur.out hq); clear hq)
    |(go_at_call 76; (first | with_reducible refine (reads_act k _).mono ?_ | with_reducible refine (reads_act l _).mono ?_); rintro e w' ⟨rfl, hq⟩; have hcur := Lib.hid (cln_trans hcur.out hq); clear hq)
    |(go_at_call 184; (first | with_reducible refine (on_act k _ (hK.cln hcur.out)).mono ?_ | with_reducible refine (on_act l _ (hK.cln hcur.out)).mono ?_); rintro e w' ⟨rfl, hq⟩; have hcur := Lib.hid (cln_trans hcur.out hq); clear hq))
   go_ret
   exact ⟨rfl, hcur.out⟩
  have t_k_3 : ((k : Int) == 3) = false := by rw [beq_eq_false_iff_ne]; omega
  by_cases c6 : l = 3
  ·have t_l_3 : ((l : Int) == 3) = true := by rw [beq_iff_eq]; omega
   rw [show kindsB k l = true from by unfold kindsB; rw [if_neg hin, hr, if_neg (by decide), if_pos (by omega)]]
   clear c6
   go_enter Tryz.func160, Tryz.ntmps160
   go_wp2_with (first
    |(go_at_call 183; (first | with_reducible refine (name_act k _ (hK.cln hcur.out)).mono ?_ | with_reducible refine (name_act l _ (hK.cln hcur.out)).mono ?_); rintro e w' ⟨rfl, hq⟩; have hcur := Lib.hid (cln_trans hcur.out hq); clear hq)
    |(go_at_call 76; (first | with_reducible refine (reads_act k _).mono ?_ | with_reducible refine (reads_act l _).mono ?_); rintro e w' ⟨rfl, hq⟩; have hcur := Lib.hid (cln_trans hcur.out hq); clear hq)
    |(go_at_call 184; (first | with_reducible refine (on_act k _ (hK.cln hcur.out)).mono ?_ | with_reducible refine (on_act l _ (hK.cln hcur.out)).mono ?_); rintro e w' ⟨rfl, hq⟩; have hcur := Lib.hid (cln_trans hcur.out hq); clear hq))
   go_ret
   exact ⟨rfl, hcur.out⟩
  have t_l_3 : ((l : Int) == 3) = false := by rw [beq_eq_false_iff_ne]; omega
  by_cases c7 : k = 4
  ·have t_k_4 : ((k : Int) == 4) = true := by rw [beq_iff_eq]; omega
   rw [show kindsB k l = false from by unfold kindsB; rw [if_neg hin, hr, if_neg (by decide), if_neg (by omega), if_pos (by omega)]]
   clear c7
   go_enter Tryz.func160, Tryz.ntmps160
   go_wp2_with (first
    |(go_at_call 183; (first | with_reducible refine (name_act k _ (hK.cln hcur.out)).mono ?_ | with_reducible refine (name_act l _ (hK.cln hcur.out)).mono ?_); rintro e w' ⟨rfl, hq⟩; have hcur := Lib.hid (cln_trans hcur.out hq); clear hq)
    |(go_at_call 76; (first | with_reducible refine (reads_act k _).mono ?_ | with_reducible refine (reads_act l _).mono ?_); rintro e w' ⟨rfl, hq⟩; have hcur := Lib.hid (cln_trans hcur.out hq); clear hq)
    |(go_at_call 184; (first | with_reducible refine (on_act k _ (hK.cln hcur.out)).mono ?_ | with_reducible refine (on_act l _ (hK.cln hcur.out)).mono ?_); rintro e w' ⟨rfl, hq⟩; have hcur := Lib.hid (cln_trans hcur.out hq); clear hq))
   go_ret
   exact ⟨rfl, hcur.out⟩
  have t_k_4 : ((k : Int) == 4) = false := by rw [beq_eq_false_iff_ne]; omega
  by_cases c8 : l = 4
  ·have t_l_4 : ((l : Int) == 4) = true := by rw [beq_iff_eq]; omega
   rw [show kindsB k l = false from by unfold kindsB; rw [if_neg hin, hr, if_neg (by decide), if_neg (by omega), if_pos (by omega)]]
   clear c8
   go_enter Tryz.func160, Tryz.ntmps160
   go_wp2_with (first
    |(go_at_call 183; (first | with_reducible refine (name_act k _ (hK.cln hcur.out)).mono ?_ | with_reducible refine (name_act l _ (hK.cln hcur.out)).mono ?_); rintro e w' ⟨rfl, hq⟩; have hcur := Lib.hid (cln_trans hcur.out hq); clear hq)
    |(go_at_call 76; (first | with_reducible refine (reads_act k _).mono ?_ | with_reducible refine (reads_act l _).mono ?_); rintro e w' ⟨rfl, hq⟩; have hcur := Lib.hid (cln_trans hcur.out hq); clear hq)
    |(go_at_call 184; (first | with_reducible refine (on_act k _ (hK.cln hcur.out)).mono ?_ | with_reducible refine (on_act l _ (hK.cln hcur.out)).mono ?_); rintro e w' ⟨rfl, hq⟩; have hcur := Lib.hid (cln_trans hcur.out hq); clear hq))
   go_ret
   exact ⟨rfl, hcur.out⟩
  have t_l_4 : ((l : Int) == 4) = false := by rw [beq_eq_false_iff_ne]; omega
  by_cases c9 : onOf k = onOf l
  case neg =>
   have ton : (((onOf k : Nat) : Int) != ((onOf l : Nat) : Int)) = true := by rw [bne_iff_ne]; omega
   rw [show kindsB k l = true from by unfold kindsB; rw [if_neg hin, hr, if_neg (by decide), if_neg (by omega), if_neg (by omega), if_pos c9]]
   go_enter Tryz.func160, Tryz.ntmps160
   go_wp2_with (first
    |(go_at_call 183; (first | with_reducible refine (name_act k _ (hK.cln hcur.out)).mono ?_ | with_reducible refine (name_act l _ (hK.cln hcur.out)).mono ?_); rintro e w' ⟨rfl, hq⟩; have hcur := Lib.hid (cln_trans hcur.out hq); clear hq)
    |(go_at_call 76; (first | with_reducible refine (reads_act k _).mono ?_ | with_reducible refine (reads_act l _).mono ?_); rintro e w' ⟨rfl, hq⟩; have hcur := Lib.hid (cln_trans hcur.out hq); clear hq)
    |(go_at_call 184; (first | with_reducible refine (on_act k _ (hK.cln hcur.out)).mono ?_ | with_reducible refine (on_act l _ (hK.cln hcur.out)).mono ?_); rintro e w' ⟨rfl, hq⟩; have hcur := Lib.hid (cln_trans hcur.out hq); clear hq))
   go_ret
   exact ⟨rfl, hcur.out⟩
  have ton : (((onOf k : Nat) : Int) != ((onOf l : Nat) : Int)) = false := by rw [c9]; simp
  by_cases c10 : k = l
  case neg =>
   have tkl : (k == l) = false := by rw [beq_eq_false_iff_ne]; exact c10
   replace c9 := Lib.hid c9
   rw [show kindsB k l = false from by unfold kindsB; rw [if_neg hin, hr, if_neg (by decide), if_neg (by omega), if_neg (by omega), if_neg (not_not_intro c9.out), tkl]; rfl]
   go_enter Tryz.func160, Tryz.ntmps160
   go_wp2_with (first
    |(go_at_call 183; (first | with_reducible refine (name_act k _ (hK.cln hcur.out)).mono ?_ | with_reducible refine (name_act l _ (hK.cln hcur.out)).mono ?_); rintro e w' ⟨rfl, hq⟩; have hcur := Lib.hid (cln_trans hcur.out hq); clear hq)
    |(go_at_call 76; (first | with_reducible refine (reads_act k _).mono ?_ | with_reducible refine (reads_act l _).mono ?_); rintro e w' ⟨rfl, hq⟩; have hcur := Lib.hid (cln_trans hcur.out hq); clear hq)
    |(go_at_call 184; (first | with_reducible refine (on_act k _ (hK.cln hcur.out)).mono ?_ | with_reducible refine (on_act l _ (hK.cln hcur.out)).mono ?_); rintro e w' ⟨rfl, hq⟩; have hcur := Lib.hid (cln_trans hcur.out hq); clear hq))
   go_ret
   exact ⟨rfl, hcur.out⟩
  subst c10
  have tkl : (k == k) = true := by rw [beq_iff_eq]
  clear ton c9
  by_cases c11 : k = 7
  ·have t_k_7 : ((k : Int) == 7) = true := by rw [beq_iff_eq]; omega
   rw [show kindsB k k = true from by unfold kindsB; rw [if_neg hin, hr, if_neg (by decide), if_neg (by omega), if_neg (by omega), if_neg (not_not_intro rfl), tkl, t_k_7]; rfl]
   clear c11
   go_enter Tryz.func160, Tryz.ntmps160
   go_wp2_with (first
    |(go_at_call 183; (first | with_reducible refine (name_act k _ (hK.cln hcur.out)).mono ?_ | with_reducible refine (name_act k _ (hK.cln hcur.out)).mono ?_); rintro e w' ⟨rfl, hq⟩; have hcur := Lib.hid (cln_trans hcur.out hq); clear hq)
    |(go_at_call 76; (first | with_reducible refine (reads_act k _).mono ?_ | with_reducible refine (reads_act k _).mono ?_); rintro e w' ⟨rfl, hq⟩; have hcur := Lib.hid (cln_trans hcur.out hq); clear hq)
    |(go_at_call 184; (first | with_reducible refine (on_act k _ (hK.cln hcur.out)).mono ?_ | with_reducible refine (on_act k _ (hK.cln hcur.out)).mono ?_); rintro e w' ⟨rfl, hq⟩; have hcur := Lib.hid (cln_trans hcur.out hq); clear hq))
   go_ret
   exact ⟨rfl, hcur.out⟩
  have t_k_7 : ((k : Int) == 7) = false := by rw [beq_eq_false_iff_ne]; omega
  by_cases c12 : k = 13
  ·have t_k_13 : ((k : Int) == 13) = true := by rw [beq_iff_eq]; omega
   rw [show kindsB k k = true from by unfold kindsB; rw [if_neg hin, hr, if_neg (by decide), if_neg (by omega), if_neg (by omega), if_neg (not_not_intro rfl), tkl, t_k_7, t_k_13]; rfl]
   clear c12
   go_enter Tryz.func160, Tryz.ntmps160
   go_wp2_with (first
    |(go_at_call 183; (first | with_reducible refine (name_act k _ (hK.cln hcur.out)).mono ?_ | with_reducible refine (name_act k _ (hK.cln hcur.out)).mono ?_); rintro e w' ⟨rfl, hq⟩; have hcur := Lib.hid (cln_trans hcur.out hq); clear hq)
    |(go_at_call 76; (first | with_reducible refine (reads_act k _).mono ?_ | with_reducible refine (reads_act k _).mono ?_); rintro e w' ⟨rfl, hq⟩; have hcur := Lib.hid (cln_trans hcur.out hq); clear hq)
    |(go_at_call 184; (first | with_reducible refine (on_act k _ (hK.cln hcur.out)).mono ?_ | with_reducible refine (on_act k _ (hK.cln hcur.out)).mono ?_); rintro e w' ⟨rfl, hq⟩; have hcur := Lib.hid (cln_trans hcur.out hq); clear hq))
   go_ret
   exact ⟨rfl, hcur.out⟩
  have t_k_13 : ((k : Int) == 13) = false := by rw [beq_eq_false_iff_ne]; omega
  by_cases c13 : k = 14
  ·have t_k_14 : ((k : Int) == 14) = true := by rw [beq_iff_eq]; omega
   rw [show kindsB k k = true from by unfold kindsB; rw [if_neg hin, hr, if_neg (by decide), if_neg (by omega), if_neg (by omega), if_neg (not_not_intro rfl), tkl, t_k_7, t_k_13, t_k_14]; rfl]
   clear c13
   go_enter Tryz.func160, Tryz.ntmps160
   go_wp2_with (first
    |(go_at_call 183; (first | with_reducible refine (name_act k _ (hK.cln hcur.out)).mono ?_ | with_reducible refine (name_act k _ (hK.cln hcur.out)).mono ?_); rintro e w' ⟨rfl, hq⟩; have hcur := Lib.hid (cln_trans hcur.out hq); clear hq)
    |(go_at_call 76; (first | with_reducible refine (reads_act k _).mono ?_ | with_reducible refine (reads_act k _).mono ?_); rintro e w' ⟨rfl, hq⟩; have hcur := Lib.hid (cln_trans hcur.out hq); clear hq)
    |(go_at_call 184; (first | with_reducible refine (on_act k _ (hK.cln hcur.out)).mono ?_ | with_reducible refine (on_act k _ (hK.cln hcur.out)).mono ?_); rintro e w' ⟨rfl, hq⟩; have hcur := Lib.hid (cln_trans hcur.out hq); clear hq))
   go_ret
   exact ⟨rfl, hcur.out⟩
  have t_k_14 : ((k : Int) == 14) = false := by rw [beq_eq_false_iff_ne]; omega
  by_cases c14 : k = 19
  ·have t_k_19 : ((k : Int) == 19) = true := by rw [beq_iff_eq]; omega
   rw [show kindsB k k = true from by unfold kindsB; rw [if_neg hin, hr, if_neg (by decide), if_neg (by omega), if_neg (by omega), if_neg (not_not_intro rfl), tkl, t_k_7, t_k_13, t_k_14, t_k_19]; rfl]
   clear c14
   go_enter Tryz.func160, Tryz.ntmps160
   go_wp2_with (first
    |(go_at_call 183; (first | with_reducible refine (name_act k _ (hK.cln hcur.out)).mono ?_ | with_reducible refine (name_act k _ (hK.cln hcur.out)).mono ?_); rintro e w' ⟨rfl, hq⟩; have hcur := Lib.hid (cln_trans hcur.out hq); clear hq)
    |(go_at_call 76; (first | with_reducible refine (reads_act k _).mono ?_ | with_reducible refine (reads_act k _).mono ?_); rintro e w' ⟨rfl, hq⟩; have hcur := Lib.hid (cln_trans hcur.out hq); clear hq)
    |(go_at_call 184; (first | with_reducible refine (on_act k _ (hK.cln hcur.out)).mono ?_ | with_reducible refine (on_act k _ (hK.cln hcur.out)).mono ?_); rintro e w' ⟨rfl, hq⟩; have hcur := Lib.hid (cln_trans hcur.out hq); clear hq))
   go_ret
   exact ⟨rfl, hcur.out⟩
  have t_k_19 : ((k : Int) == 19) = false := by rw [beq_eq_false_iff_ne]; omega
  by_cases c15 : k = 21
  ·have t_k_21 : ((k : Int) == 21) = true := by rw [beq_iff_eq]; omega
   rw [show kindsB k k = true from by unfold kindsB; rw [if_neg hin, hr, if_neg (by decide), if_neg (by omega), if_neg (by omega), if_neg (not_not_intro rfl), tkl, t_k_7, t_k_13, t_k_14, t_k_19, t_k_21]; rfl]
   clear c15
   go_enter Tryz.func160, Tryz.ntmps160
   go_wp2_with (first
    |(go_at_call 183; (first | with_reducible refine (name_act k _ (hK.cln hcur.out)).mono ?_ | with_reducible refine (name_act k _ (hK.cln hcur.out)).mono ?_); rintro e w' ⟨rfl, hq⟩; have hcur := Lib.hid (cln_trans hcur.out hq); clear hq)
    |(go_at_call 76; (first | with_reducible refine (reads_act k _).mono ?_ | with_reducible refine (reads_act k _).mono ?_); rintro e w' ⟨rfl, hq⟩; have hcur := Lib.hid (cln_trans hcur.out hq); clear hq)
    |(go_at_call 184; (first | with_reducible refine (on_act k _ (hK.cln hcur.out)).mono ?_ | with_reducible refine (on_act k _ (hK.cln hcur.out)).mono ?_); rintro e w' ⟨rfl, hq⟩; have hcur := Lib.hid (cln_trans hcur.out hq); clear hq))
   go_ret
   exact ⟨rfl, hcur.out⟩
  have t_k_21 : ((k : Int) == 21) = false := by rw [beq_eq_false_iff_ne]; omega
  rw [show kindsB k k = false from by unfold kindsB; rw [if_neg hin, hr, if_neg (by decide), if_neg (by omega), if_neg (by omega), if_neg (not_not_intro rfl), tkl, t_k_7, t_k_13, t_k_14, t_k_19, t_k_21]; rfl]
  go_enter Tryz.func160, Tryz.ntmps160
  go_wp2_with (first
   |(go_at_call 183; (first | with_reducible refine (name_act k _ (hK.cln hcur.out)).mono ?_ | with_reducible refine (name_act k _ (hK.cln hcur.out)).mono ?_); rintro e w' ⟨rfl, hq⟩; have hcur := Lib.hid (cln_trans hcur.out hq); clear hq)
   |(go_at_call 76; (first | with_reducible refine (reads_act k _).mono ?_ | with_reducible refine (reads_act k _).mono ?_); rintro e w' ⟨rfl, hq⟩; have hcur := Lib.hid (cln_trans hcur.out hq); clear hq)
   |(go_at_call 184; (first | with_reducible refine (on_act k _ (hK.cln hcur.out)).mono ?_ | with_reducible refine (on_act k _ (hK.cln hcur.out)).mono ?_); rintro e w' ⟨rfl, hq⟩; have hcur := Lib.hid (cln_trans hcur.out hq); clear hq))
  go_ret
  exact ⟨rfl, hcur.out⟩
 | true =>
  cases hrl : readsB l with
  | true =>
   rw [show kindsB k l = true from by unfold kindsB; rw [if_neg hin]; simp [hrk, hrl]]
   go_enter Tryz.func160, Tryz.ntmps160
   go_wp2_with (first
    |(go_at_call 183; (first | with_reducible refine (name_act k _ (hK.cln hcur.out)).mono ?_ | with_reducible refine (name_act l _ (hK.cln hcur.out)).mono ?_); rintro e w' ⟨rfl, hq⟩; have hcur := Lib.hid (cln_trans hcur.out hq); clear hq)
    |(go_at_call 76; (first | with_reducible refine (reads_act k _).mono ?_ | with_reducible refine (reads_act l _).mono ?_); rintro e w' ⟨rfl, hq⟩; have hcur := Lib.hid (cln_trans hcur.out hq); clear hq)
    |(go_at_call 184; (first | with_reducible refine (on_act k _ (hK.cln hcur.out)).mono ?_ | with_reducible refine (on_act l _ (hK.cln hcur.out)).mono ?_); rintro e w' ⟨rfl, hq⟩; have hcur := Lib.hid (cln_trans hcur.out hq); clear hq))
   go_ret
   exact ⟨rfl, hcur.out⟩
  | false =>
   have hr : (readsB k && readsB l) = false := by simp [hrk, hrl]
   by_cases c16 : k = 3
   ·have t_k_3 : ((k : Int) == 3) = true := by rw [beq_iff_eq]; omega
    rw [show kindsB k l = true from by unfold kindsB; rw [if_neg hin, hr, if_neg (by decide), if_pos (by omega)]]
    clear c16
    go_enter Tryz.func160, Tryz.ntmps160
    go_wp2_with (first
     |(go_at_call 183; (first | with_reducible refine (name_act k _ (hK.cln hcur.out)).mono ?_ | with_reducible refine (name_act l _ (hK.cln hcur.out)).mono ?_); rintro e w' ⟨rfl, hq⟩; have hcur := Lib.hid (cln_trans hcur.out hq); clear hq)
     |(go_at_call 76; (first | with_reducible refine (reads_act k _).mono ?_ | with_reducible refine (reads_act l _).mono ?_); rintro e w' ⟨rfl, hq⟩; have hcur := Lib.hid (cln_trans hcur.out hq); clear hq)
     |(go_at_call 184; (first | with_reducible refine (on_act k _ (hK.cln hcur.out)).mono ?_ | with_reducible refine (on_act l _ (hK.cln hcur.out)).mono ?_); rintro e w' ⟨rfl, hq⟩; have hcur := Lib.hid (cln_trans hcur.out hq); clear hq))
    go_ret
    exact ⟨rfl, hcur.out⟩
   have t_k_3 : ((k : Int) == 3) = false := by rw [beq_eq_false_iff_ne]; omega
   by_cases c17 : l = 3
   ·have t_l_3 : ((l : Int) == 3) = true := by rw [beq_iff_eq]; omega
    rw [show kindsB k l = true from by unfold kindsB; rw [if_neg hin, hr, if_neg (by decide), if_pos (by omega)]]
    clear c17
    go_enter Tryz.func160, Tryz.ntmps160
    go_wp2_with (first
     |(go_at_call 183; (first | with_reducible refine (name_act k _ (hK.cln hcur.out)).mono ?_ | with_reducible refine (name_act l _ (hK.cln hcur.out)).mono ?_); rintro e w' ⟨rfl, hq⟩; have hcur := Lib.hid (cln_trans hcur.out hq); clear hq)
     |(go_at_call 76; (first | with_reducible refine (reads_act k _).mono ?_ | with_reducible refine (reads_act l _).mono ?_); rintro e w' ⟨rfl, hq⟩; have hcur := Lib.hid (cln_trans hcur.out hq); clear hq)
     |(go_at_call 184; (first | with_reducible refine (on_act k _ (hK.cln hcur.out)).mono ?_ | with_reducible refine (on_act l _ (hK.cln hcur.out)).mono ?_); rintro e w' ⟨rfl, hq⟩; have hcur := Lib.hid (cln_trans hcur.out hq); clear hq))
    go_ret
    exact ⟨rfl, hcur.out⟩
   have t_l_3 : ((l : Int) == 3) = false := by rw [beq_eq_false_iff_ne]; omega
   by_cases c18 : k = 4
   ·have t_k_4 : ((k : Int) == 4) = true := by rw [beq_iff_eq]; omega
    rw [show kindsB k l = false from by unfold kindsB; rw [if_neg hin, hr, if_neg (by decide), if_neg (by omega), if_pos (by omega)]]
    clear c18
    go_enter Tryz.func160, Tryz.ntmps160
    go_wp2_with (first
     |(go_at_call 183; (first | with_reducible refine (name_act k _ (hK.cln hcur.out)).mono ?_ | with_reducible refine (name_act l _ (hK.cln hcur.out)).mono ?_); rintro e w' ⟨rfl, hq⟩; have hcur := Lib.hid (cln_trans hcur.out hq); clear hq)
     |(go_at_call 76; (first | with_reducible refine (reads_act k _).mono ?_ | with_reducible refine (reads_act l _).mono ?_); rintro e w' ⟨rfl, hq⟩; have hcur := Lib.hid (cln_trans hcur.out hq); clear hq)
     |(go_at_call 184; (first | with_reducible refine (on_act k _ (hK.cln hcur.out)).mono ?_ | with_reducible refine (on_act l _ (hK.cln hcur.out)).mono ?_); rintro e w' ⟨rfl, hq⟩; have hcur := Lib.hid (cln_trans hcur.out hq); clear hq))
    go_ret
    exact ⟨rfl, hcur.out⟩
   have t_k_4 : ((k : Int) == 4) = false := by rw [beq_eq_false_iff_ne]; omega
   by_cases c19 : l = 4
   ·have t_l_4 : ((l : Int) == 4) = true := by rw [beq_iff_eq]; omega
    rw [show kindsB k l = false from by unfold kindsB; rw [if_neg hin, hr, if_neg (by decide), if_neg (by omega), if_pos (by omega)]]
    clear c19
    go_enter Tryz.func160, Tryz.ntmps160
    go_wp2_with (first
     |(go_at_call 183; (first | with_reducible refine (name_act k _ (hK.cln hcur.out)).mono ?_ | with_reducible refine (name_act l _ (hK.cln hcur.out)).mono ?_); rintro e w' ⟨rfl, hq⟩; have hcur := Lib.hid (cln_trans hcur.out hq); clear hq)
     |(go_at_call 76; (first | with_reducible refine (reads_act k _).mono ?_ | with_reducible refine (reads_act l _).mono ?_); rintro e w' ⟨rfl, hq⟩; have hcur := Lib.hid (cln_trans hcur.out hq); clear hq)
     |(go_at_call 184; (first | with_reducible refine (on_act k _ (hK.cln hcur.out)).mono ?_ | with_reducible refine (on_act l _ (hK.cln hcur.out)).mono ?_); rintro e w' ⟨rfl, hq⟩; have hcur := Lib.hid (cln_trans hcur.out hq); clear hq))
    go_ret
    exact ⟨rfl, hcur.out⟩
   have t_l_4 : ((l : Int) == 4) = false := by rw [beq_eq_false_iff_ne]; omega
   by_cases c20 : onOf k = onOf l
   case neg =>
    have ton : (((onOf k : Nat) : Int) != ((onOf l : Nat) : Int)) = true := by rw [bne_iff_ne]; omega
    rw [show kindsB k l = true from by unfold kindsB; rw [if_neg hin, hr, if_neg (by decide), if_neg (by omega), if_neg (by omega), if_pos c20]]
    go_enter Tryz.func160, Tryz.ntmps160
    go_wp2_with (first
     |(go_at_call 183; (first | with_reducible refine (name_act k _ (hK.cln hcur.out)).mono ?_ | with_reducible refine (name_act l _ (hK.cln hcur.out)).mono ?_); rintro e w' ⟨rfl, hq⟩; have hcur := Lib.hid (cln_trans hcur.out hq); clear hq)
     |(go_at_call 76; (first | with_reducible refine (reads_act k _).mono ?_ | with_reducible refine (reads_act l _).mono ?_); rintro e w' ⟨rfl, hq⟩; have hcur := Lib.hid (cln_trans hcur.out hq); clear hq)
     |(go_at_call 184; (first | with_reducible refine (on_act k _ (hK.cln hcur.out)).mono ?_ | with_reducible refine (on_act l _ (hK.cln hcur.out)).mono ?_); rintro e w' ⟨rfl, hq⟩; have hcur := Lib.hid (cln_trans hcur.out hq); clear hq))
    go_ret
    exact ⟨rfl, hcur.out⟩
   have ton : (((onOf k : Nat) : Int) != ((onOf l : Nat) : Int)) = false := by rw [c20]; simp
   by_cases c21 : k = l
   case neg =>
    have tkl : (k == l) = false := by rw [beq_eq_false_iff_ne]; exact c21
    replace c20 := Lib.hid c20
    rw [show kindsB k l = false from by unfold kindsB; rw [if_neg hin, hr, if_neg (by decide), if_neg (by omega), if_neg (by omega), if_neg (not_not_intro c20.out), tkl]; rfl]
    go_enter Tryz.func160, Tryz.ntmps160
    go_wp2_with (first
     |(go_at_call 183; (first | with_reducible refine (name_act k _ (hK.cln hcur.out)).mono ?_ | with_reducible refine (name_act l _ (hK.cln hcur.out)).mono ?_); rintro e w' ⟨rfl, hq⟩; have hcur := Lib.hid (cln_trans hcur.out hq); clear hq)
     |(go_at_call 76; (first | with_reducible refine (reads_act k _).mono ?_ | with_reducible refine (reads_act l _).mono ?_); rintro e w' ⟨rfl, hq⟩; have hcur := Lib.hid (cln_trans hcur.out hq); clear hq)
     |(go_at_call 184; (first | with_reducible refine (on_act k _ (hK.cln hcur.out)).mono ?_ | with_reducible refine (on_act l _ (hK.cln hcur.out)).mono ?_); rintro e w' ⟨rfl, hq⟩; have hcur := Lib.hid (cln_trans hcur.out hq); clear hq))
    go_ret
    exact ⟨rfl, hcur.out⟩
   subst c21
   rw [hrk] at hrl; cases hrl
def rowsB (l m : List MAct) : Bool := l.all fun a => m.all fun b => commuteB a b
def rosterA (a : MAct) : Bool := a.kind == 1 || a.kind == 2
def rosterB (l : List MAct) : Bool := l.any rosterA
def conflictB (l m : List MAct) : Bool := !rowsB l m || (rosterB l && rosterB m)
set_option maxHeartbeats 4000000 in
theorem commute_any (x y : MAct) (A B : Option Addr) (n c k d : Nat) (w : World) (hK : KindsAt w) : Calls Tryz.prog 113 #[.agg #[.int .i64 x.kind, .string (str x.key), .int .i64 x.n, .float .f64 x.x, .string (str x.s), .int .i64 x.make.kind, .int .i64 x.make.num, .int .i64 x.make.low, .int .i64 x.make.high, .float .f64 x.make.real, .int .i64 x.make.cap, .string (str x.make.text), .slice A n c, .bool x.must], .agg #[.int .i64 y.kind, .string (str y.key), .int .i64 y.n, .float .f64 y.x, .string (str y.s), .int .i64 y.make.kind, .int .i64 y.make.num, .int .i64 y.make.low, .int .i64 y.make.high, .float .f64 y.make.real, .int .i64 y.make.cap, .string (str y.make.text), .slice B k d, .bool y.must]] w fun e w' => e = .returned (.bool (commuteB x y)) ∧ Cln w w' := by
 by_cases h : x.key = y.key
 ·have t1 : (x.key == y.key) = true := by rw [beq_iff_eq]; exact h
  have t2 : (x.key != y.key) = false := by rw [bne, t1]; rfl
  rw [show commuteB x y = kindsB x.kind y.kind from by unfold commuteB; rw [t2]; rfl]
  clear h
  go_enter Tryz.func113, Tryz.ntmps113
  go_wp2_with fail
  refine (kinds_any x.kind y.kind _ (hK.cln (by (repeat with_reducible first | exact cR _ | assumption | refine cA ?_ _ | refine cD ?_ | refine cN ?_ _ | refine cS ?_ (by first | omega | (simp <;> omega)) _)))).mono ?_
  rintro e w1 ⟨rfl, hq⟩
  go_wp2_with fail
  go_ret
  exact ⟨rfl, cln_trans (by (repeat with_reducible first | exact cR _ | assumption | refine cA ?_ _ | refine cD ?_ | refine cN ?_ _ | refine cS ?_ (by first | omega | (simp <;> omega)) _)) hq⟩
 ·have t1 : (x.key == y.key) = false := by rw [beq_eq_false_iff_ne]; exact h
  have t2 : (x.key != y.key) = true := by rw [bne, t1]; rfl
  rw [show commuteB x y = true from by unfold commuteB; rw [t2]; rfl]
  clear h
  go_enter Tryz.func113, Tryz.ntmps113
  go_wp2_with fail
  go_ret
  exact ⟨rfl, by (repeat with_reducible first | exact cR _ | assumption | refine cA ?_ _ | refine cD ?_ | refine cN ?_ _ | refine cS ?_ (by first | omega | (simp <;> omega)) _)⟩
theorem rowsB_step (l m : List MAct) (i : Nat) (h : i < l.length) : rowsB (l.drop i) m = (m.all (commuteB (actAt l i)) && rowsB (l.drop (i + 1)) m) := by
 rw [actAt_drop l i h]; rfl
theorem all_step (f : MAct → Bool) (m : List MAct) (j : Nat) (h : j < m.length) : (m.drop j).all f = (f (actAt m j) && (m.drop (j + 1)).all f) := by
 rw [actAt_drop m j h]; rfl
theorem any_step (f : MAct → Bool) (m : List MAct) (j : Nat) (h : j < m.length) : (m.drop j).any f = (f (actAt m j) || (m.drop (j + 1)).any f) := by
 rw [actAt_drop m j h]; rfl
set_option maxHeartbeats 8000000 in
theorem rows_any (l m : List MAct) (A B : Option Addr) (n c k d : Nat) (hn : n ≤ 140737488355328) (hk : k ≤ 140737488355328) (w : World) (hK : KindsAt w) (hr : RdActs w A n l) (hs : RdActs w B k m) :
  Calls Tryz.prog 75 #[.slice A n c, .slice B k d] w fun e w' => e = .returned (.bool (rowsB l m)) ∧ Cln w w' := by
 have hll := hr.len
 have hml := hs.len
 go_enter Tryz.func75, Tryz.ntmps75
 go_wp2_with fail
 go_loopw [11] (fun v wr => ∃ i : Nat, i ≤ n ∧ v = .int .i64 (i : Nat) ∧ Hid (Cln w wr) ∧ Hid (rowsB l m = rowsB (l.drop i) m)) (fun v _ => (n - intOf v).toNat)
 case atStart => exact ⟨0, Nat.zero_le _, rfl, Below.refl _ _, rfl⟩
 case round =>
  obtain ⟨i, hi, rfl, hcl, hH⟩ := hrel
  by_cases hlt : i < n
  ·have t3 : decide ((i : Int) < (n : Int)) = true := decide_eq_true (by omega)
   have hstep : Hid (rowsB l m = ((m.drop 0).all (commuteB (actAt l i)) && rowsB (l.drop (i + 1)) m)) := hH.out.trans (rowsB_step l m i (by omega))
   clear hH
   obtain ⟨bx, ox, rfl, hbltx, hcellx⟩ := hr.rows (by omega)
   obtain ⟨Ax, nx, cx, hc0x⟩ := hcellx i (by omega)
   clear hcellx
   have hcx := hc0x.cln hcl.out
   have hblt2x : bx < wr.heap.size := by have := hcl.out.size; omega
   clear hc0x
   generalize actAt l i = x at hcx hstep
   have f0 := hcx.c0; have f1 := hcx.c1; have f2 := hcx.c2; have f3 := hcx.c3; have f4 := hcx.c4; have f5 := hcx.c5; have f6 := hcx.c6; have f7 := hcx.c7; have f8 := hcx.c8; have f9 := hcx.c9; have f10 := hcx.c10; have f11 := hcx.c11; have f12 := hcx.c12; have f13 := hcx.c13
   have hbX := Blk.new wr 90 #[.int .i64 x.kind, .string (str x.key), .int .i64 x.n, .float .f64 x.x, .string (str x.s), .int .i64 x.make.kind, .int .i64 x.make.num, .int .i64 x.make.low, .int .i64 x.make.high, .float .f64 x.make.real, .int .i64 x.make.cap, .string (str x.make.text), .slice Ax nx cx, .bool x.must]
   have hclX : Cln wr (wr.alloc (.cells #[.int .i64 x.kind, .string (str x.key), .int .i64 x.n, .float .f64 x.x, .string (str x.s), .int .i64 x.make.kind, .int .i64 x.make.num, .int .i64 x.make.low, .int .i64 x.make.high, .float .f64 x.make.real, .int .i64 x.make.cap, .string (str x.make.text), .slice Ax nx cx, .bool x.must] 90)) := by (repeat with_reducible first | exact cR _ | assumption | refine cA ?_ _ | refine cD ?_ | refine cN ?_ _ | refine cS ?_ (by first | omega | (simp <;> omega)) _)
   clear hcx
   go_wp2_with fail
   clear f0 f1 f2 f3 f4 f5 f6 f7 f8 f9 f10 f11 f12 f13
   have hclS : Hid (Cln w (wr.alloc (.cells #[.int .i64 x.kind, .string (str x.key), .int .i64 x.n, .float .f64 x.x, .string (str x.s), .int .i64 x.make.kind, .int .i64 x.make.num, .int .i64 x.make.low, .int .i64 x.make.high, .float .f64 x.make.real, .int .i64 x.make.cap, .string (str x.make.text), .slice Ax nx cx, .bool x.must] 90))) := cln_trans hcl.out hclX
   have hlx : wr.heap.size < (wr.alloc (.cells #[.int .i64 x.kind, .string (str x.key), .int .i64 x.n, .float .f64 x.x, .string (str x.s), .int .i64 x.make.kind, .int .i64 x.make.num, .int .i64 x.make.low, .int .i64 x.make.high, .float .f64 x.make.real, .int .i64 x.make.cap, .string (str x.make.text), .slice Ax nx cx, .bool x.must] 90)).heap.size := hbX.lt
   replace hbX := Lib.hid hbX
   have hX : Hid (Cln (wr.alloc (.cells #[.int .i64 x.kind, .string (str x.key), .int .i64 x.n, .float .f64 x.x, .string (str x.s), .int .i64 x.make.kind, .int .i64 x.make.num, .int .i64 x.make.low, .int .i64 x.make.high, .float .f64 x.make.real, .int .i64 x.make.cap, .string (str x.make.text), .slice Ax nx cx, .bool x.must] 90)) (wr.alloc (.cells #[.int .i64 x.kind, .string (str x.key), .int .i64 x.n, .float .f64 x.x, .string (str x.s), .int .i64 x.make.kind, .int .i64 x.make.num, .int .i64 x.make.low, .int .i64 x.make.high, .float .f64 x.make.real, .int .i64 x.make.cap, .string (str x.make.text), .slice Ax nx cx, .bool x.must] 90))) := Below.refl _ _
   generalize wr.alloc (.cells #[.int .i64 x.kind, .string (str x.key), .int .i64 x.n, .float .f64 x.x, .string (str x.s), .int .i64 x.make.kind, .int .i64 x.make.num, .int .i64 x.make.low, .int .i64 x.make.high, .float .f64 x.make.real, .int .i64 x.make.cap, .string (str x.make.text), .slice Ax nx cx, .bool x.must] 90) = ws at hbX hclS hX hlx
   generalize wr.heap.size = gx at hbX hlx
   clear hclX hcl
   go_loopw [17] (fun v wr => ∃ j : Nat, j ≤ k ∧ v = .int .i64 (j : Nat) ∧ Hid (Cln ws wr) ∧ Hid (rowsB l m = ((m.drop j).all (commuteB x) && rowsB (l.drop (i + 1)) m))) (fun v _ => (k - intOf v).toNat)
   case atStart => exact ⟨0, Nat.zero_le _, rfl, hX, hstep⟩
   case round =>
    clear hstep hX
    obtain ⟨j, hj, rfl, hcl2, hH⟩ := hrel
    have hcl := Lib.hid (cln_trans hclS.out hcl2.out)
    by_cases hlt2 : j < k
    ·have t4 : decide ((j : Int) < (k : Int)) = true := decide_eq_true (by omega)
     have hst : Hid (rowsB l m = ((commuteB x (actAt m j) && (m.drop (j + 1)).all (commuteB x)) && rowsB (l.drop (i + 1)) m)) := by unfold Hid; rw [hH.out, all_step _ m j (by omega)]
     clear hH
     obtain ⟨bz, oz, rfl, hbltz, hcellz⟩ := hs.rows (by omega)
     obtain ⟨Az, nz, cz, hc0z⟩ := hcellz j (by omega)
     clear hcellz
     have hcz := hc0z.cln hcl.out
     have hblt2z : bz < wr.heap.size := by have := hcl.out.size; omega
     clear hc0z
     generalize actAt m j = y at hcz hst
     have g0 := hcz.c0; have g1 := hcz.c1; have g2 := hcz.c2; have g3 := hcz.c3; have g4 := hcz.c4; have g5 := hcz.c5; have g6 := hcz.c6; have g7 := hcz.c7; have g8 := hcz.c8; have g9 := hcz.c9; have g10 := hcz.c10; have g11 := hcz.c11; have g12 := hcz.c12; have g13 := hcz.c13
     have uX := (hbX.out.cln hcl2.out).cell
     have lX := (hbX.out.cln hcl2.out).lt
     have hxy : ¬ gx = wr.heap.size := by omega
     have hyx : ¬ wr.heap.size = gx := by omega
     clear hcz
     cases hcm : commuteB x y with
     | true =>
      replace hcm := Lib.hid hcm
      go_wp2_with fail
      refine (commute_any x y _ _ _ _ _ _ _ (hK.cln (cln_trans hcl.out (by (repeat with_reducible first | exact cR _ | assumption | refine cA ?_ _ | refine cD ?_ | refine cN ?_ _ | refine cS ?_ (by first | omega | (simp <;> omega)) _))))).mono ?_
      rintro e w3 ⟨rfl, hq⟩
      rw [hcm.out]
      have hcl3 := Lib.hid (cln_trans (cln_trans hcl2.out (by (repeat with_reducible first | exact cR _ | assumption | refine cA ?_ _ | refine cD ?_ | refine cN ?_ _ | refine cS ?_ (by first | omega | (simp <;> omega)) _))) hq)
      clear g0 g1 g2 g3 g4 g5 g6 g7 g8 g9 g10 g11 g12 g13
      clear uX lX hq hxy hyx
      go_wp2_with fail
      go_roundw
      case rel => exact ⟨j + 1, hlt2, by go_num, hcl3, by unfold Hid; rw [hst.out, hcm.out, Bool.true_and]⟩
      case measure => simp [intOf]; omega
     | false =>
      replace hcm := Lib.hid hcm
      go_wp2_with fail
      refine (commute_any x y _ _ _ _ _ _ _ (hK.cln (cln_trans hcl.out (by (repeat with_reducible first | exact cR _ | assumption | refine cA ?_ _ | refine cD ?_ | refine cN ?_ _ | refine cS ?_ (by first | omega | (simp <;> omega)) _))))).mono ?_
      rintro e w3 ⟨rfl, hq⟩
      rw [hcm.out]
      have hcl3 := Lib.hid (cln_trans (cln_trans hcl.out (by (repeat with_reducible first | exact cR _ | assumption | refine cA ?_ _ | refine cD ?_ | refine cN ?_ _ | refine cS ?_ (by first | omega | (simp <;> omega)) _))) hq)
      clear g0 g1 g2 g3 g4 g5 g6 g7 g8 g9 g10 g11 g12 g13
      clear uX lX hq hxy hyx
      go_wp2_with fail
      go_ret
      exact ⟨ret_bool (by rw [hst.out, hcm.out]; rfl), hcl3.out⟩
    ·obtain rfl : j = k := by omega
     have t4 : decide ((j : Int) < (j : Int)) = false := decide_eq_false (by omega)
     have hst : Hid (rowsB l m = rowsB (l.drop (i + 1)) m) := by unfold Hid; rw [hH.out, List.drop_of_length_le (by omega)]; rfl
     clear hH
     go_wp2_with fail
     go_roundw
     case rel => exact ⟨i + 1, hlt, by go_num, hcl, hst⟩
     case measure => simp [intOf]; omega
  ·obtain rfl : i = n := by omega
   have t3 : decide ((i : Int) < (i : Int)) = false := decide_eq_false (by omega)
   go_wp2_with fail
   go_ret
   exact ⟨ret_bool (by rw [hH.out, List.drop_of_length_le (by omega)]; rfl), hcl.out⟩
theorem roster1_any (x : MAct) (A : Option Addr) (n c : Nat) (w : World) : Calls Tryz.prog 74 #[.agg #[.int .i64 x.kind, .string (str x.key), .int .i64 x.n, .float .f64 x.x, .string (str x.s), .int .i64 x.make.kind, .int .i64 x.make.num, .int .i64 x.make.low, .int .i64 x.make.high, .float .f64 x.make.real, .int .i64 x.make.cap, .string (str x.make.text), .slice A n c, .bool x.must]] w fun e w' => e = .returned (.bool (rosterA x)) ∧ Cln w w' := by
 unfold rosterA
 cases h1 : (x.kind == 1) with
 | true =>
  go_enter Tryz.func74, Tryz.ntmps74
  go_wp2_with fail
  go_ret
  exact ⟨rfl, by (repeat with_reducible first | exact cR _ | assumption | refine cA ?_ _ | refine cD ?_ | refine cN ?_ _ | refine cS ?_ (by first | omega | (simp <;> omega)) _)⟩
 | false =>
  cases h2 : (x.kind == 2) with
  | true =>
   go_enter Tryz.func74, Tryz.ntmps74
   go_wp2_with fail
   go_ret
   exact ⟨rfl, by (repeat with_reducible first | exact cR _ | assumption | refine cA ?_ _ | refine cD ?_ | refine cN ?_ _ | refine cS ?_ (by first | omega | (simp <;> omega)) _)⟩
  | false =>
   go_enter Tryz.func74, Tryz.ntmps74
   go_wp2_with fail
   go_ret
   exact ⟨rfl, by (repeat with_reducible first | exact cR _ | assumption | refine cA ?_ _ | refine cD ?_ | refine cN ?_ _ | refine cS ?_ (by first | omega | (simp <;> omega)) _)⟩
def firstR : Nat → List MAct → Int
 | _, [] => -1
 | i, a :: l => if rosterA a then (i : Int) else firstR (i + 1) l
theorem firstR_pos : ∀ (l : List MAct) (i : Nat), decide (firstR i l ≥ 0) = l.any rosterA
 | [], i => by simp [firstR]
 | a :: l, i => by
  unfold firstR
  cases h : rosterA a with
  | true => simp [h]
  | false => simp only [List.any_cons, h, Bool.false_or]; exact firstR_pos l (i + 1)
set_option maxHeartbeats 4000000 in
theorem indexR_any (l : List MAct) (A : Option Addr) (n c : Nat) (hn : n ≤ 140737488355328) (w : World) (hr : RdActs w A n l) :
  Calls Tryz.prog 112 #[.slice A n c, .func (.func 74) #[] #[]] w fun e w' => e = .returned (.int .i64 (firstR 0 l)) ∧ Cln w w' := by
 have hll := hr.len
 go_enter Tryz.func112, Tryz.ntmps112
 go_wp2_with fail
 go_loopw [8] (fun v wr => ∃ i : Nat, i ≤ n ∧ v = .int .i64 (i : Nat) ∧ Hid (Cln w wr) ∧ Hid (firstR 0 l = firstR i (l.drop i))) (fun v _ => (n - intOf v).toNat)
 case atStart => exact ⟨0, Nat.zero_le _, rfl, Below.refl _ _, rfl⟩
 case round =>
  obtain ⟨i, hi, rfl, hcl, hH⟩ := hrel
  by_cases hlt : i < n
  ·have t3 : decide ((i : Int) < (n : Int)) = true := decide_eq_true (by omega)
   have hstep : Hid (firstR 0 l = if rosterA (actAt l i) then (i : Int) else firstR (i + 1) (l.drop (i + 1))) := by unfold Hid; rw [hH.out, actAt_drop l i (by omega)]; rfl
   clear hH
   obtain ⟨bx, ox, rfl, hbltx, hcellx⟩ := hr.rows (by omega)
   obtain ⟨Ax, nx, cx, hc0x⟩ := hcellx i (by omega)
   clear hcellx
   have hcx := hc0x.cln hcl.out
   have hblt2x : bx < wr.heap.size := by have := hcl.out.size; omega
   clear hc0x
   generalize actAt l i = x at hcx hstep
   have f0 := hcx.c0; have f1 := hcx.c1; have f2 := hcx.c2; have f3 := hcx.c3; have f4 := hcx.c4; have f5 := hcx.c5; have f6 := hcx.c6; have f7 := hcx.c7; have f8 := hcx.c8; have f9 := hcx.c9; have f10 := hcx.c10; have f11 := hcx.c11; have f12 := hcx.c12; have f13 := hcx.c13
   clear hcx
   cases hR : rosterA x with
   | true =>
    replace hR := Lib.hid hR
    go_wp2_with fail
    refine (roster1_any x Ax nx cx _).mono ?_
    rintro e w3 ⟨rfl, hq⟩
    rw [hR.out]
    have hcl3 := Lib.hid (cln_trans hcl.out hq)
    clear f0 f1 f2 f3 f4 f5 f6 f7 f8 f9 f10 f11 f12 f13
    clear hq
    go_wp2_with fail
    go_ret
    refine ⟨?_, hcl3.out⟩
    rw [hstep.out, hR.out]; rfl
   | false =>
    replace hR := Lib.hid hR
    go_wp2_with fail
    refine (roster1_any x Ax nx cx _).mono ?_
    rintro e w3 ⟨rfl, hq⟩
    rw [hR.out]
    have hcl3 := Lib.hid (cln_trans hcl.out hq)
    clear f0 f1 f2 f3 f4 f5 f6 f7 f8 f9 f10 f11 f12 f13
    clear hq
    go_wp2_with fail
    go_roundw
    case rel => exact ⟨i + 1, hlt, by go_num, hcl3, by unfold Hid; rw [hstep.out, hR.out]; rfl⟩
    case measure => simp [intOf]; omega
  ·obtain rfl : i = n := by omega
   have t3 : decide ((i : Int) < (i : Int)) = false := decide_eq_false (by omega)
   go_wp2_with fail
   go_ret
   refine ⟨?_, hcl.out⟩
   rw [hH.out, List.drop_of_length_le (by omega)]; rfl
theorem containsR_any (l : List MAct) (A : Option Addr) (n c : Nat) (hn : n ≤ 140737488355328) (w : World) (hr : RdActs w A n l) :
  Calls Tryz.prog 73 #[.slice A n c, .func (.func 74) #[] #[]] w fun e w' => e = .returned (.bool (rosterB l)) ∧ Cln w w' := by
 have hp := firstR_pos l 0
 go_enter Tryz.func73, Tryz.ntmps73
 go_wp2_with fail
 refine (indexR_any l A n c hn w hr).mono ?_
 rintro e w3 ⟨rfl, hq⟩
 generalize firstR 0 l = z at hp
 go_wp2_with fail
 go_ret
 exact ⟨ret_bool rfl, hq⟩
theorem roster_any (l : List MAct) (A : Option Addr) (n c : Nat) (hn : n ≤ 140737488355328) (w : World) (hr : RdActs w A n l) :
  Calls Tryz.prog 32 #[.agg #[.slice A n c]] w fun e w' => e = .returned (.bool (rosterB l)) ∧ Cln w w' := by
 have hcl0 : Cln w (w.alloc (.cells #[.slice A n c] 48)) := by (repeat with_reducible first | exact cR _ | assumption | refine cA ?_ _ | refine cD ?_ | refine cN ?_ _ | refine cS ?_ (by first | omega | (simp <;> omega)) _)
 go_enter Tryz.func32, Tryz.ntmps32
 go_wp2_with fail
 refine (containsR_any l A n c hn _ (hr.cln hcl0)).mono ?_
 rintro e w3 ⟨rfl, hq⟩
 go_wp2_with fail
 go_ret
 exact ⟨rfl, cln_trans hcl0 hq⟩
set_option maxHeartbeats 4000000 in
theorem conflict_any (l m : List MAct) (A B : Option Addr) (n c k d : Nat) (hn : n ≤ 140737488355328) (hk : k ≤ 140737488355328) (w : World) (hK : KindsAt w) (hr : RdActs w A n l) (hs : RdActs w B k m) :
  Calls Tryz.prog 34 #[.agg #[.slice A n c], .agg #[.slice B k d]] w fun e w' => e = .returned (.bool (conflictB l m)) ∧ Cln w w' := by
 have hcl0 : Hid (Cln w ((w.alloc (.cells #[.slice A n c] 48)).alloc (.cells #[.slice B k d] 48))) := by unfold Hid; (repeat with_reducible first | exact cR _ | assumption | refine cA ?_ _ | refine cD ?_ | refine cN ?_ _ | refine cS ?_ (by first | omega | (simp <;> omega)) _)
 have hb1 := Lib.hid ((Blk.new w 48 #[.slice A n c]).alloc (.cells #[.slice B k d] 48))
 have hb2 := Blk.new (w.alloc (.cells #[.slice A n c] 48)) 48 #[.slice B k d]
 rw [World.size_alloc] at hb2
 replace hb2 := Lib.hid hb2
 have hcur : Hid (Cln ((w.alloc (.cells #[.slice A n c] 48)).alloc (.cells #[.slice B k d] 48)) ((w.alloc (.cells #[.slice A n c] 48)).alloc (.cells #[.slice B k d] 48))) := Below.refl _ _
 have u1 := hb1.out.cell 0; have u2 := hb2.out.cell 0; have l1 := hb1.out.lt; have l2 := hb2.out.lt
 have hx : Hid (conflictB l m = (!rowsB l m || (rosterB l && rosterB m))) := rfl
 cases h1 : rowsB l m
 all_goals cases h2 : rosterB l
 all_goals cases h3 : rosterB m
 all_goals
  rw [h1, h2, h3] at hx
  rw [hx.out]
  replace h1 := Lib.hid h1; replace h2 := Lib.hid h2; replace h3 := Lib.hid h3
  go_enter Tryz.func34, Tryz.ntmps34
  go_wp2_with (first
   |(go_at_call 75; with_reducible refine (rows_any l m A B n c k d hn hk _ (hK.cln (cln_trans hcl0.out hcur.out)) (hr.cln (cln_trans hcl0.out hcur.out)) (hs.cln (cln_trans hcl0.out hcur.out))).mono ?_; rintro e w' ⟨rfl, hq⟩; rw [h1.out]; have hcur := Lib.hid (cln_trans hcur.out hq); clear hq u1 u2 l1 l2; have u1 := (hb1.out.cln hcur.out).cell 0; have u2 := (hb2.out.cln hcur.out).cell 0; have l1 := (hb1.out.cln hcur.out).lt; have l2 := (hb2.out.cln hcur.out).lt)
   |(go_at_call 32; (first | (with_reducible refine (roster_any l A n c hn _ (hr.cln (cln_trans hcl0.out hcur.out))).mono ?_; rintro e w' ⟨rfl, hq⟩; rw [h2.out]) | (with_reducible refine (roster_any m B k d hk _ (hs.cln (cln_trans hcl0.out hcur.out))).mono ?_; rintro e w' ⟨rfl, hq⟩; rw [h3.out])); have hcur := Lib.hid (cln_trans hcur.out hq); clear hq u1 u2 l1 l2; have u1 := (hb1.out.cln hcur.out).cell 0; have u2 := (hb2.out.cln hcur.out).cell 0; have l1 := (hb1.out.cln hcur.out).lt; have l2 := (hb2.out.cln hcur.out).lt))
  go_ret
  exact ⟨rfl, cln_trans hcl0.out hcur.out⟩
def meetsA (but : List (List UInt8)) (a b : MAct) : Bool := a.key == b.key && !(readsB a.kind && readsB b.kind) && !but.contains a.key
def meetB (l m : List MAct) (but : List (List UInt8)) : Bool := (l.any fun a => m.any fun b => meetsA but a b) || (rosterB l && rosterB m)
theorem anyany_step (g : MAct → MAct → Bool) (l m : List MAct) (i : Nat) (h : i < l.length) : ((l.drop i).any fun a => m.any fun b => g a b) = (m.any (g (actAt l i)) || (l.drop (i + 1)).any fun a => m.any fun b => g a b) := by
 rw [actAt_drop l i h]; rfl
set_option maxHeartbeats 8000000 in
theorem meet_any (l m : List MAct) (but : List (List UInt8)) (A B C : Option Addr) (n c k d q e0 : Nat) (hn : n ≤ 140737488355328) (hk : k ≤ 140737488355328) (hq0 : q ≤ 140737488355328) (w : World) (hr : RdActs w A n l) (hs : RdActs w B k m) (hS : RdStrs w C q but) :
  Calls Tryz.prog 35 #[.agg #[.slice A n c], .agg #[.slice B k d], .slice C q e0] w fun e w' => e = .returned (.bool (meetB l m but)) ∧ Cln w w' := by
 have hll := hr.len
 have hml := hs.len
 have hcl0 : Cln w ((w.alloc (.cells #[.slice A n c] 48)).alloc (.cells #[.slice B k d] 48)) := by (repeat with_reducible first | exact cR _ | assumption | refine cA ?_ _ | refine cD ?_ | refine cN ?_ _ | refine cS ?_ (by first | omega | (simp <;> omega)) _)
 have hb1 := Lib.hid ((Blk.new w 48 #[.slice A n c]).alloc (.cells #[.slice B k d] 48))
 have hb2 := Blk.new (w.alloc (.cells #[.slice A n c] 48)) 48 #[.slice B k d]
 rw [World.size_alloc] at hb2
 replace hb2 := Lib.hid hb2
 have s1 : w.heap.size + 1 < ((w.alloc (.cells #[.slice A n c] 48)).alloc (.cells #[.slice B k d] 48)).heap.size := hb2.out.lt
 go_enter Tryz.func35, Tryz.ntmps35
 go_wp2_with fail
 have hB : Hid (Cln ((w.alloc (.cells #[.slice A n c] 48)).alloc (.cells #[.slice B k d] 48)) ((w.alloc (.cells #[.slice A n c] 48)).alloc (.cells #[.slice B k d] 48))) := Below.refl _ _
 generalize ((w.alloc (.cells #[.slice A n c] 48)).alloc (.cells #[.slice B k d] 48)) = w1 at hb1 hb2 hcl0 hB s1
 go_loopw [14] (fun v wr => ∃ i : Nat, i ≤ n ∧ v = .int .i64 (i : Nat) ∧ Hid (Cln w1 wr) ∧ Hid (meetB l m but = (((l.drop i).any fun a => m.any fun b => meetsA but a b) || (rosterB l && rosterB m)))) (fun v _ => (n - intOf v).toNat)
 case atStart => exact ⟨0, Nat.zero_le _, rfl, hB, rfl⟩
 case round =>
  clear hB
  obtain ⟨i, hi, rfl, hcl1, hH⟩ := hrel
  have hcl := Lib.hid (cln_trans hcl0 hcl1.out)
  have u2 := (hb2.out.cln hcl1.out).cell 0
  have l2 := (hb2.out.cln hcl1.out).lt
  by_cases hlt : i < n
  ·have t3 : decide ((i : Int) < (n : Int)) = true := decide_eq_true (by omega)
   have hstep : Hid (meetB l m but = ((((m.drop 0).any (meetsA but (actAt l i))) || (l.drop (i + 1)).any fun a => m.any fun b => meetsA but a b) || (rosterB l && rosterB m))) := by unfold Hid; rw [hH.out, anyany_step _ l m i (by omega)]; rfl
   clear hH
   obtain ⟨bx, ox, rfl, hbltx, hcellx⟩ := hr.rows (by omega)
   obtain ⟨Ax, nx, cx, hc0x⟩ := hcellx i (by omega)
   clear hcellx
   have hcx := hc0x.cln hcl.out
   have hblt2x : bx < wr.heap.size := by have := hcl.out.size; omega
   clear hc0x
   generalize actAt l i = x at hcx hstep
   have f0 := hcx.c0; have f1 := hcx.c1; have f2 := hcx.c2; have f3 := hcx.c3; have f4 := hcx.c4; have f5 := hcx.c5; have f6 := hcx.c6; have f7 := hcx.c7; have f8 := hcx.c8; have f9 := hcx.c9; have f10 := hcx.c10; have f11 := hcx.c11; have f12 := hcx.c12; have f13 := hcx.c13
   have hbX := Blk.new wr 90 #[.int .i64 x.kind, .string (str x.key), .int .i64 x.n, .float .f64 x.x, .string (str x.s), .int .i64 x.make.kind, .int .i64 x.make.num, .int .i64 x.make.low, .int .i64 x.make.high, .float .f64 x.make.real, .int .i64 x.make.cap, .string (str x.make.text), .slice Ax nx cx, .bool x.must]
   have hclX : Cln wr (wr.alloc (.cells #[.int .i64 x.kind, .string (str x.key), .int .i64 x.n, .float .f64 x.x, .string (str x.s), .int .i64 x.make.kind, .int .i64 x.make.num, .int .i64 x.make.low, .int .i64 x.make.high, .float .f64 x.make.real, .int .i64 x.make.cap, .string (str x.make.text), .slice Ax nx cx, .bool x.must] 90)) := by (repeat with_reducible first | exact cR _ | assumption | refine cA ?_ _ | refine cD ?_ | refine cN ?_ _ | refine cS ?_ (by first | omega | (simp <;> omega)) _)
   clear hcx
   go_wp2_with fail
   clear f0 f1 f2 f3 f4 f5 f6 f7 f8 f9 f10 f11 f12 f13
   clear u2 l2
   have hclS : Hid (Cln w (wr.alloc (.cells #[.int .i64 x.kind, .string (str x.key), .int .i64 x.n, .float .f64 x.x, .string (str x.s), .int .i64 x.make.kind, .int .i64 x.make.num, .int .i64 x.make.low, .int .i64 x.make.high, .float .f64 x.make.real, .int .i64 x.make.cap, .string (str x.make.text), .slice Ax nx cx, .bool x.must] 90))) := cln_trans hcl.out hclX
   have hclT : Hid (Cln w1 (wr.alloc (.cells #[.int .i64 x.kind, .string (str x.key), .int .i64 x.n, .float .f64 x.x, .string (str x.s), .int .i64 x.make.kind, .int .i64 x.make.num, .int .i64 x.make.low, .int .i64 x.make.high, .float .f64 x.make.real, .int .i64 x.make.cap, .string (str x.make.text), .slice Ax nx cx, .bool x.must] 90))) := cln_trans hcl1.out hclX
   have hlx : wr.heap.size < (wr.alloc (.cells #[.int .i64 x.kind, .string (str x.key), .int .i64 x.n, .float .f64 x.x, .string (str x.s), .int .i64 x.make.kind, .int .i64 x.make.num, .int .i64 x.make.low, .int .i64 x.make.high, .float .f64 x.make.real, .int .i64 x.make.cap, .string (str x.make.text), .slice Ax nx cx, .bool x.must] 90)).heap.size := hbX.lt
   replace hbX := Lib.hid hbX
   have hX : Hid (Cln (wr.alloc (.cells #[.int .i64 x.kind, .string (str x.key), .int .i64 x.n, .float .f64 x.x, .string (str x.s), .int .i64 x.make.kind, .int .i64 x.make.num, .int .i64 x.make.low, .int .i64 x.make.high, .float .f64 x.make.real, .int .i64 x.make.cap, .string (str x.make.text), .slice Ax nx cx, .bool x.must] 90)) (wr.alloc (.cells #[.int .i64 x.kind, .string (str x.key), .int .i64 x.n, .float .f64 x.x, .string (str x.s), .int .i64 x.make.kind, .int .i64 x.make.num, .int .i64 x.make.low, .int .i64 x.make.high, .float .f64 x.make.real, .int .i64 x.make.cap, .string (str x.make.text), .slice Ax nx cx, .bool x.must] 90))) := Below.refl _ _
   generalize wr.alloc (.cells #[.int .i64 x.kind, .string (str x.key), .int .i64 x.n, .float .f64 x.x, .string (str x.s), .int .i64 x.make.kind, .int .i64 x.make.num, .int .i64 x.make.low, .int .i64 x.make.high, .float .f64 x.make.real, .int .i64 x.make.cap, .string (str x.make.text), .slice Ax nx cx, .bool x.must] 90) = ws at hbX hclS hclT hX hlx
   generalize wr.heap.size = gx at hbX hlx
   clear hclX hcl hcl1
   go_loopw [21] (fun v wr => ∃ j : Nat, j ≤ k ∧ v = .int .i64 (j : Nat) ∧ Hid (Cln ws wr) ∧ Hid (meetB l m but = ((((m.drop j).any (meetsA but x)) || (l.drop (i + 1)).any fun a => m.any fun b => meetsA but a b) || (rosterB l && rosterB m)))) (fun v _ => (k - intOf v).toNat)
   case atStart => exact ⟨0, Nat.zero_le _, rfl, hX, hstep⟩
   case round =>
    clear hstep hX
    obtain ⟨j, hj, rfl, hcl2, hH⟩ := hrel
    have hcl := Lib.hid (cln_trans hclS.out hcl2.out)
    by_cases hlt2 : j < k
    ·have t4 : decide ((j : Int) < (k : Int)) = true := decide_eq_true (by omega)
     have hst : Hid (meetB l m but = (((meetsA but x (actAt m j) || (m.drop (j + 1)).any (meetsA but x)) || (l.drop (i + 1)).any fun a => m.any fun b => meetsA but a b) || (rosterB l && rosterB m))) := by unfold Hid; rw [hH.out, any_step _ m j (by omega)]
     clear hH
     obtain ⟨bz, oz, rfl, hbltz, hcellz⟩ := hs.rows (by omega)
     obtain ⟨Az, nz, cz, hc0z⟩ := hcellz j (by omega)
     clear hcellz
     have hcz := hc0z.cln hcl.out
     have hblt2z : bz < wr.heap.size := by have := hcl.out.size; omega
     clear hc0z
     generalize actAt m j = y at hcz hst
     have g0 := hcz.c0; have g1 := hcz.c1; have g2 := hcz.c2; have g3 := hcz.c3; have g4 := hcz.c4; have g5 := hcz.c5; have g6 := hcz.c6; have g7 := hcz.c7; have g8 := hcz.c8; have g9 := hcz.c9; have g10 := hcz.c10; have g11 := hcz.c11; have g12 := hcz.c12; have g13 := hcz.c13
     have hclY : Hid (Cln w (wr.alloc (.cells #[.int .i64 y.kind, .string (str y.key), .int .i64 y.n, .float .f64 y.x, .string (str y.s), .int .i64 y.make.kind, .int .i64 y.make.num, .int .i64 y.make.low, .int .i64 y.make.high, .float .f64 y.make.real, .int .i64 y.make.cap, .string (str y.make.text), .slice Az nz cz, .bool y.must] 90))) := cln_trans hcl.out (by (repeat with_reducible first | exact cR _ | assumption | refine cA ?_ _ | refine cD ?_ | refine cN ?_ _ | refine cS ?_ (by first | omega | (simp <;> omega)) _))
     have hbX1 := Lib.hid ((hbX.out.cln hcl2.out).alloc (.cells #[.int .i64 y.kind, .string (str y.key), .int .i64 y.n, .float .f64 y.x, .string (str y.s), .int .i64 y.make.kind, .int .i64 y.make.num, .int .i64 y.make.low, .int .i64 y.make.high, .float .f64 y.make.real, .int .i64 y.make.cap, .string (str y.make.text), .slice Az nz cz, .bool y.must] 90))
     have hbZ1 := Lib.hid (Blk.new wr 90 #[.int .i64 y.kind, .string (str y.key), .int .i64 y.n, .float .f64 y.x, .string (str y.s), .int .i64 y.make.kind, .int .i64 y.make.num, .int .i64 y.make.low, .int .i64 y.make.high, .float .f64 y.make.real, .int .i64 y.make.cap, .string (str y.make.text), .slice Az nz cz, .bool y.must])
     have uX := hbX1.out.cell; have uZ := hbZ1.out.cell; have lX := hbX1.out.lt; have lZ := hbZ1.out.lt
     have hxy : ¬ gx = wr.heap.size := by have := (hbX.out.cln hcl2.out).lt; omega
     have hyx : ¬ wr.heap.size = gx := by omega
     have hcur : Hid (Cln (wr.alloc (.cells #[.int .i64 y.kind, .string (str y.key), .int .i64 y.n, .float .f64 y.x, .string (str y.s), .int .i64 y.make.kind, .int .i64 y.make.num, .int .i64 y.make.low, .int .i64 y.make.high, .float .f64 y.make.real, .int .i64 y.make.cap, .string (str y.make.text), .slice Az nz cz, .bool y.must] 90)) (wr.alloc (.cells #[.int .i64 y.kind, .string (str y.key), .int .i64 y.n, .float .f64 y.x, .string (str y.s), .int .i64 y.make.kind, .int .i64 y.make.num, .int .i64 y.make.low, .int .i64 y.make.high, .float .f64 y.make.real, .int .i64 y.make.cap, .string (str y.make.text), .slice Az nz cz, .bool y.must] 90))) := Below.refl _ _
     clear hcz
     cases heq : (x.key == y.key) with
     | false =>
      replace heq : Hid ((x.key == y.key) = false) := heq
      have teq := heq.out
      have hmv : Hid (meetsA but x y = false) := by unfold Hid; rw [meetsA, heq.out]; rfl
      go_wp2_with fail
      go_roundw
      case rel => exact ⟨j + 1, hlt2, by go_num, Lib.hid (cln_trans (cln_trans hcl2.out (by (repeat with_reducible first | exact cR _ | assumption | refine cA ?_ _ | refine cD ?_ | refine cN ?_ _ | refine cS ?_ (by first | omega | (simp <;> omega)) _))) hcur.out), by unfold Hid; rw [hst.out, hmv.out, Bool.false_or]⟩
      case measure => simp [intOf]; omega
     | true =>
      replace heq : Hid ((x.key == y.key) = true) := heq
      have teq := heq.out
      cases hrx : readsB x.kind with
      | true =>
       replace hrx := Lib.hid hrx
       cases hry : readsB y.kind with
       | true =>
        replace hry := Lib.hid hry
        have hmv : Hid (meetsA but x y = false) := by unfold Hid; rw [meetsA, heq.out, hrx.out, hry.out]; rfl
        go_wp2_with (first
         |(go_at_call 76; (first | (with_reducible refine (reads_act x.kind _).mono ?_; rintro e w' ⟨rfl, hq⟩; rw [hrx.out]) | (with_reducible refine (reads_act y.kind _).mono ?_; rintro e w' ⟨rfl, hq⟩; rw [hry.out])); have hcur := Lib.hid (cln_trans hcur.out hq); clear hq uX uZ lX lZ; have uX := (hbX1.out.cln hcur.out).cell; have uZ := (hbZ1.out.cln hcur.out).cell; have lX := (hbX1.out.cln hcur.out).lt; have lZ := (hbZ1.out.cln hcur.out).lt))
        go_roundw
        case rel => exact ⟨j + 1, hlt2, by go_num, Lib.hid (cln_trans (cln_trans hcl2.out (by (repeat with_reducible first | exact cR _ | assumption | refine cA ?_ _ | refine cD ?_ | refine cN ?_ _ | refine cS ?_ (by first | omega | (simp <;> omega)) _))) hcur.out), by unfold Hid; rw [hst.out, hmv.out, Bool.false_or]⟩
        case measure => simp [intOf]; omega
       | false =>
        replace hry := Lib.hid hry
        cases hcn : but.contains x.key with
        | true =>
         replace hcn := Lib.hid hcn
         have hmv : Hid (meetsA but x y = false) := by unfold Hid; rw [meetsA, heq.out, hrx.out, hry.out, hcn.out]; rfl
         go_wp2_with (first
          |(go_at_call 76; (first | (with_reducible refine (reads_act x.kind _).mono ?_; rintro e w' ⟨rfl, hq⟩; rw [hrx.out]) | (with_reducible refine (reads_act y.kind _).mono ?_; rintro e w' ⟨rfl, hq⟩; rw [hry.out])); have hcur := Lib.hid (cln_trans hcur.out hq); clear hq uX uZ lX lZ; have uX := (hbX1.out.cln hcur.out).cell; have uZ := (hbZ1.out.cln hcur.out).cell; have lX := (hbX1.out.cln hcur.out).lt; have lZ := (hbZ1.out.cln hcur.out).lt)
          |(go_at_call 77; with_reducible refine (containsS_any but x.key C q e0 hq0 _ (hS.cln (cln_trans hclY.out hcur.out))).mono ?_; rintro e w' ⟨rfl, hq⟩; rw [hcn.out]; have hcur := Lib.hid (cln_trans hcur.out hq); clear hq uX uZ lX lZ; have uX := (hbX1.out.cln hcur.out).cell; have uZ := (hbZ1.out.cln hcur.out).cell; have lX := (hbX1.out.cln hcur.out).lt; have lZ := (hbZ1.out.cln hcur.out).lt))
         go_roundw
         case rel => exact ⟨j + 1, hlt2, by go_num, Lib.hid (cln_trans (cln_trans hcl2.out (by (repeat with_reducible first | exact cR _ | assumption | refine cA ?_ _ | refine cD ?_ | refine cN ?_ _ | refine cS ?_ (by first | omega | (simp <;> omega)) _))) hcur.out), by unfold Hid; rw [hst.out, hmv.out, Bool.false_or]⟩
         case measure => simp [intOf]; omega
        | false =>
         replace hcn := Lib.hid hcn
         have hmv : Hid (meetsA but x y = true) := by unfold Hid; rw [meetsA, heq.out, hrx.out, hry.out, hcn.out]; rfl
         go_wp2_with (first
          |(go_at_call 76; (first | (with_reducible refine (reads_act x.kind _).mono ?_; rintro e w' ⟨rfl, hq⟩; rw [hrx.out]) | (with_reducible refine (reads_act y.kind _).mono ?_; rintro e w' ⟨rfl, hq⟩; rw [hry.out])); have hcur := Lib.hid (cln_trans hcur.out hq); clear hq uX uZ lX lZ; have uX := (hbX1.out.cln hcur.out).cell; have uZ := (hbZ1.out.cln hcur.out).cell; have lX := (hbX1.out.cln hcur.out).lt; have lZ := (hbZ1.out.cln hcur.out).lt)
          |(go_at_call 77; with_reducible refine (containsS_any but x.key C q e0 hq0 _ (hS.cln (cln_trans hclY.out hcur.out))).mono ?_; rintro e w' ⟨rfl, hq⟩; rw [hcn.out]; have hcur := Lib.hid (cln_trans hcur.out hq); clear hq uX uZ lX lZ; have uX := (hbX1.out.cln hcur.out).cell; have uZ := (hbZ1.out.cln hcur.out).cell; have lX := (hbX1.out.cln hcur.out).lt; have lZ := (hbZ1.out.cln hcur.out).lt))
         go_ret
         exact ⟨ret_bool (by rw [hst.out, hmv.out]; rfl), cln_trans hclY.out hcur.out⟩
      | false =>
       replace hrx := Lib.hid hrx
       cases hcn : but.contains x.key with
       | true =>
        replace hcn := Lib.hid hcn
        have hmv : Hid (meetsA but x y = false) := by unfold Hid; rw [meetsA, heq.out, hrx.out, hcn.out]; simp
        go_wp2_with (first
         |(go_at_call 76; (first | (with_reducible refine (reads_act x.kind _).mono ?_; rintro e w' ⟨rfl, hq⟩; rw [hrx.out])); have hcur := Lib.hid (cln_trans hcur.out hq); clear hq uX uZ lX lZ; have uX := (hbX1.out.cln hcur.out).cell; have uZ := (hbZ1.out.cln hcur.out).cell; have lX := (hbX1.out.cln hcur.out).lt; have lZ := (hbZ1.out.cln hcur.out).lt)
         |(go_at_call 77; with_reducible refine (containsS_any but x.key C q e0 hq0 _ (hS.cln (cln_trans hclY.out hcur.out))).mono ?_; rintro e w' ⟨rfl, hq⟩; rw [hcn.out]; have hcur := Lib.hid (cln_trans hcur.out hq); clear hq uX uZ lX lZ; have uX := (hbX1.out.cln hcur.out).cell; have uZ := (hbZ1.out.cln hcur.out).cell; have lX := (hbX1.out.cln hcur.out).lt; have lZ := (hbZ1.out.cln hcur.out).lt))
        go_roundw
        case rel => exact ⟨j + 1, hlt2, by go_num, Lib.hid (cln_trans (cln_trans hcl2.out (by (repeat with_reducible first | exact cR _ | assumption | refine cA ?_ _ | refine cD ?_ | refine cN ?_ _ | refine cS ?_ (by first | omega | (simp <;> omega)) _))) hcur.out), by unfold Hid; rw [hst.out, hmv.out, Bool.false_or]⟩
        case measure => simp [intOf]; omega
       | false =>
        replace hcn := Lib.hid hcn
        have hmv : Hid (meetsA but x y = true) := by unfold Hid; rw [meetsA, heq.out, hrx.out, hcn.out]; simp
        go_wp2_with (first
         |(go_at_call 76; (first | (with_reducible refine (reads_act x.kind _).mono ?_; rintro e w' ⟨rfl, hq⟩; rw [hrx.out])); have hcur := Lib.hid (cln_trans hcur.out hq); clear hq uX uZ lX lZ; have uX := (hbX1.out.cln hcur.out).cell; have uZ := (hbZ1.out.cln hcur.out).cell; have lX := (hbX1.out.cln hcur.out).lt; have lZ := (hbZ1.out.cln hcur.out).lt)
         |(go_at_call 77; with_reducible refine (containsS_any but x.key C q e0 hq0 _ (hS.cln (cln_trans hclY.out hcur.out))).mono ?_; rintro e w' ⟨rfl, hq⟩; rw [hcn.out]; have hcur := Lib.hid (cln_trans hcur.out hq); clear hq uX uZ lX lZ; have uX := (hbX1.out.cln hcur.out).cell; have uZ := (hbZ1.out.cln hcur.out).cell; have lX := (hbX1.out.cln hcur.out).lt; have lZ := (hbZ1.out.cln hcur.out).lt))
        go_ret
        exact ⟨ret_bool (by rw [hst.out, hmv.out]; rfl), cln_trans hclY.out hcur.out⟩
    ·obtain rfl : j = k := by omega
     have t4 : decide ((j : Int) < (j : Int)) = false := decide_eq_false (by omega)
     have hst : Hid (meetB l m but = (((l.drop (i + 1)).any fun a => m.any fun b => meetsA but a b) || (rosterB l && rosterB m))) := by unfold Hid; rw [hH.out, List.drop_of_length_le (by omega)]; rfl
     clear hH
     go_wp2_with fail
     go_roundw
     case rel => exact ⟨i + 1, hlt, by go_num, Lib.hid (cln_trans hclT.out hcl2.out), hst⟩
     case measure => simp [intOf]; omega
  ·obtain rfl : i = n := by omega
   have t3 : decide ((i : Int) < (i : Int)) = false := decide_eq_false (by omega)
   have hst : Hid (meetB l m but = (rosterB l && rosterB m)) := by unfold Hid; rw [hH.out, List.drop_of_length_le (by omega)]; rfl
   clear hH
   have u1 := (hb1.out.cln hcl1.out).cell 0
   have l1 := (hb1.out.cln hcl1.out).lt
   have hcur : Hid (Cln wr wr) := Below.refl _ _
   have hb1r := Lib.hid (hb1.out.cln hcl1.out); have hb2r := Lib.hid (hb2.out.cln hcl1.out)
   cases h2 : rosterB l
   all_goals cases h3 : rosterB m
   all_goals
    rw [h2, h3] at hst
    replace h2 := Lib.hid h2; replace h3 := Lib.hid h3
    go_wp2_with (go_at_call 32; (first | (with_reducible refine (roster_any l A i c hn _ (hr.cln (cln_trans hcl.out hcur.out))).mono ?_; rintro e w' ⟨rfl, hq⟩; rw [h2.out]) | (with_reducible refine (roster_any m B k d hk _ (hs.cln (cln_trans hcl.out hcur.out))).mono ?_; rintro e w' ⟨rfl, hq⟩; rw [h3.out])); have hcur := Lib.hid (cln_trans hcur.out hq); clear hq u1 u2 l1 l2; have u1 := (hb1r.out.cln hcur.out).cell 0; have u2 := (hb2r.out.cln hcur.out).cell 0; have l1 := (hb1r.out.cln hcur.out).lt; have l2 := (hb2r.out.cln hcur.out).lt)
    go_ret
    exact ⟨ret_bool hst.out.symm, cln_trans hcl.out hcur.out⟩
end Go.Proofs.YtoeoodiifpoomaaGreatDoor

/- The walk of deal.Keys. (Printed by wip/tools/gen_keys.py; the sort and the compact by the shelf.) -/
namespace Go.Proofs.YtoeoodiifpoomaaGreatDoor
open Go.RowKit Moi
attribute [local go_sem] toList_str str_size less_ltB store_float
open Go.Sort in
theorem sorted_own {w w1 : World} {g cap n nn q base : Nat} {os : Array Obj} {ss : List (List UInt8)} (hown : w1.ownsRow base 9 1 (.slice (some ⟨g, 0, none⟩) n cap) n (ss.map encStr)) (hbel : Below w.heap.size w w1) (hb0 : w.heap.size ≤ base) (hbg : base ≤ g) (hlen : ss.length = n) :
  (putRow encStr (Sort.ahead (grow (putRow encStr (Sort.ahead w1 nn) g 0 (ss.mergeSort fun x y => decide (x ≤ y)).toArray) os) q) g 0 (Lib.compact (ss.mergeSort fun x y => decide (x ≤ y)) ++ List.replicate (n - (Lib.compact (ss.mergeSort fun x y => decide (x ≤ y))).length) []).toArray).ownsRow base 9 1 (.slice (some ⟨g, 0, none⟩) (Lib.compact (ss.mergeSort fun x y => decide (x ≤ y))).length cap) (Lib.compact (ss.mergeSort fun x y => decide (x ≤ y))).length ((Lib.compact (ss.mergeSort fun x y => decide (x ≤ y))).map encStr) ∧
  Below w.heap.size w (putRow encStr (Sort.ahead (grow (putRow encStr (Sort.ahead w1 nn) g 0 (ss.mergeSort fun x y => decide (x ≤ y)).toArray) os) q) g 0 (Lib.compact (ss.mergeSort fun x y => decide (x ≤ y)) ++ List.replicate (n - (Lib.compact (ss.mergeSort fun x y => decide (x ≤ y))).length) []).toArray) := by
 have hl2 : (ss.mergeSort fun x y => decide (x ≤ y)).length = ss.length := List.length_mergeSort ss
 have hle := Lib.compact_length_le (ss.mergeSort fun x y => decide (x ≤ y))
 subst hlen
 rcases hown.2 with ⟨h0, _⟩ | ⟨g', cap', cur, hv, hbase, hb, h1, h2, h3, h4⟩
 ·cases h0
 cases hv
 have hs := ownsRow_sorted (n := nn) (os := os) (ts := ss.mergeSort fun x y => decide (x ≤ y)) hl2 hbase hb h1 h2 h3
 have hc := Lib.ownsRow_putRow (q := q) (k := (Lib.compact (ss.mergeSort fun x y => decide (x ≤ y))).length) (ys := Lib.compact (ss.mergeSort fun x y => decide (x ≤ y)) ++ List.replicate (ss.length - (Lib.compact (ss.mergeSort fun x y => decide (x ≤ y))).length) []) hs (by simp; omega) (by omega)
 rw [List.take_left] at hc
 exact ⟨hc, Lib.below_putRow (hbel.grown (grownBy_sorted _) hbel.size (fun j hj => by cases hj; omega)) (by omega)⟩
theorem own_strs {W : World} {base n c : Nat} {A : Option Addr} {l : List (List UInt8)} (h : W.ownsRow base 9 1 (.slice A n c) n (l.map encStr)) : RdStrs W A n l := by
 refine ⟨by simpa using h.1, fun h0 => ?_⟩
 obtain ⟨g, cap, hv, _, hg, _, _, hl, hH⟩ := Lib.holds_of_ownsRow h (fun e => by injection e with _ e _; omega)
 injection hv with e1 _ _
 refine ⟨g, 0, e1, hg, fun i hi => ?_⟩
 have := (hH i (by simp; omega)).1
 rw [this]
 have hi' : i < l.length := by omega
 simp [encStr, str, List.getD, hi']
def keysOf (l : List MAct) : List (List UInt8) := Lib.compact ((l.map (·.key)).mergeSort fun x y => decide (x ≤ y))
theorem keys_take (l : List MAct) (i : Nat) (h : i < l.length) : (((l.take i).map (·.key)).map encStr) ++ [.string (str (actAt l i).key)] = ((l.take (i + 1)).map (·.key)).map encStr := by
 have : l.take (i + 1) = l.take i ++ [actAt l i] := by
  rw [List.take_add_one, List.getElem?_eq_getElem h]; simp [actAt, List.getD, h]
 rw [this]; simp [encStr, str]
theorem info_strn : (Tryz.prog.info? 9).map (fun i => (i.zero, i.size, i.bytes)) = some (some (.string ⟨#[]⟩), 1, 16) := by kernel_rfl
open Go.Sort in
set_option maxHeartbeats 8000000 in
theorem keys_any (l : List MAct) (A : Option Addr) (n c : Nat) (hn : n ≤ 1048576) (w : World) (hr : RdActs w A n l) :
  Calls Tryz.prog 30 #[.agg #[.slice A n c]] w fun e w' => ∃ A' m c', e = .returned (.slice A' m c') ∧ RdStrs w' A' m (keysOf l) ∧ Cln w w' := by
 have hll := hr.len
 have hcl0 : Hid (Cln w (w.alloc (.cells #[.slice A n c] 48))) := by unfold Hid; (repeat with_reducible first | exact cR _ | assumption | refine cA ?_ _ | refine cD ?_ | refine cN ?_ _ | refine cS ?_ (by first | omega | (simp <;> omega)) _)
 have hO0 : Hid ((w.alloc (.cells #[.slice A n c] 48)).ownsRow (w.heap.size + 1) 9 1 (.slice none 0 0) 0 (((l.take 0).map (·.key)).map encStr)) := World.ownsRow_nil _ _ _ _
 have hx0 : Hid (Cln (w.alloc (.cells #[.slice A n c] 48)) (w.alloc (.cells #[.slice A n c] 48))) := Below.refl _ _
 have hsz0 : w.heap.size + 1 ≤ (w.alloc (.cells #[.slice A n c] 48)).heap.size := by simp
 go_enter Tryz.func30, Tryz.ntmps30
 go_wp2_with fail
 go_loopw [3, 9] (fun v3 v wr => ∃ (i : Nat) (A2 : Option Addr) (c2 : Nat), i ≤ n ∧ v3 = .slice A2 i c2 ∧ v = .int .i64 (i : Nat) ∧ Hid (i = 0 → A2 = none ∧ c2 = 0) ∧ Hid (Cln (w.alloc (.cells #[.slice A n c] 48)) wr) ∧ Hid (wr.ownsRow (w.heap.size + 1) 9 1 (.slice A2 i c2) i (((l.take i).map (·.key)).map encStr))) (fun _ v _ => (n - intOf v).toNat)
 case atStart => exact ⟨0, none, 0, Nat.zero_le _, rfl, rfl, fun _ => ⟨rfl, rfl⟩, hx0, hO0⟩
 case round =>
  clear hO0 hx0
  obtain ⟨i, A2, c2, hi, rfl, rfl, hz, hcl1, hO⟩ := hrel
  have hcl := Lib.hid (cln_trans hcl0.out hcl1.out)
  by_cases hlt : i < n
  ·have t3 : decide ((i : Int) < (n : Int)) = true := decide_eq_true (by omega)
   obtain ⟨b, o, rfl, hblt, hcell⟩ := hr.rows (by omega)
   obtain ⟨Ax, nx, cx, hc0⟩ := hcell i hlt
   clear hcell
   have hc := hc0.cln hcl.out
   have hblt2 : b < wr.heap.size := by have := hcl.out.size; omega
   have hkt := Lib.hid (keys_take l i (by omega))
   clear hc0 hz
   generalize actAt l i = x at hc hkt
   have f0 := hc.c0; have f1 := hc.c1; have f2 := hc.c2; have f3 := hc.c3; have f4 := hc.c4; have f5 := hc.c5; have f6 := hc.c6; have f7 := hc.c7; have f8 := hc.c8; have f9 := hc.c9; have f10 := hc.c10; have f11 := hc.c11; have f12 := hc.c12; have f13 := hc.c13
   have hbX := Blk.new wr 90 #[.int .i64 x.kind, .string (str x.key), .int .i64 x.n, .float .f64 x.x, .string (str x.s), .int .i64 x.make.kind, .int .i64 x.make.num, .int .i64 x.make.low, .int .i64 x.make.high, .float .f64 x.make.real, .int .i64 x.make.cap, .string (str x.make.text), .slice Ax nx cx, .bool x.must]
   have hX0 := hbX.cell 1
   have hXl := hbX.lt
   have hO1 := hO.out.alloc (.cells #[.int .i64 x.kind, .string (str x.key), .int .i64 x.n, .float .f64 x.x, .string (str x.s), .int .i64 x.make.kind, .int .i64 x.make.num, .int .i64 x.make.low, .int .i64 x.make.high, .float .f64 x.make.real, .int .i64 x.make.cap, .string (str x.make.text), .slice Ax nx cx, .bool x.must] 90)
   have hclX : Cln wr (wr.alloc (.cells #[.int .i64 x.kind, .string (str x.key), .int .i64 x.n, .float .f64 x.x, .string (str x.s), .int .i64 x.make.kind, .int .i64 x.make.num, .int .i64 x.make.low, .int .i64 x.make.high, .float .f64 x.make.real, .int .i64 x.make.cap, .string (str x.make.text), .slice Ax nx cx, .bool x.must] 90)) := by (repeat with_reducible first | exact cR _ | assumption | refine cA ?_ _ | refine cD ?_ | refine cN ?_ _ | refine cS ?_ (by first | omega | (simp <;> omega)) _)
   have hs1 : w.heap.size + 1 ≤ (wr.alloc (.cells #[.int .i64 x.kind, .string (str x.key), .int .i64 x.n, .float .f64 x.x, .string (str x.s), .int .i64 x.make.kind, .int .i64 x.make.num, .int .i64 x.make.low, .int .i64 x.make.high, .float .f64 x.make.real, .int .i64 x.make.cap, .string (str x.make.text), .slice Ax nx cx, .bool x.must] 90)).heap.size := by have := hcl1.out.size; simp at this ⊢; omega
   obtain ⟨i0, hi0, hz0, hz1, hz2⟩ := info_parts info_strn
   clear hc hbX
   go_wp2_with (
    at_builtin
    refine wpList_push rfl _ _ 54 rfl (w.heap.size + 1) 9 i0 (.string ⟨#[]⟩) 1 16 Tryz.underlying54 hi0 hz0 hz1 hz2 rfl (by decide) (by decide) (.slice A2 i c2) i (((l.take i).map (·.key)).map encStr) [.string (str x.key)] rfl (by simp [Value.oneCell']) rfl (by simp only [World.size_alloc]; rfl) hO1 (by omega) hs1 ?_
    intro v' w7 hown7 hgr7
    obtain ⟨A3, c3, rfl, _, _⟩ := own_form hown7
    rw [hkt.out] at hown7
    have hk7 : Kept (fun k => w.heap.size + 1 ≤ k) _ w7 := ((Kept.refl _ (wr.alloc (.cells #[.int .i64 x.kind, .string (str x.key), .int .i64 x.n, .float .f64 x.x, .string (str x.s), .int .i64 x.make.kind, .int .i64 x.make.num, .int .i64 x.make.low, .int .i64 x.make.high, .float .f64 x.make.real, .int .i64 x.make.cap, .string (str x.make.text), .slice Ax nx cx, .bool x.must] 90))).alloc _).grown hgr7 (fun k hk _ => (own_ge hO1 k hk).1)
    have hcl7 := Lib.hid (((Kept.of_below (S := fun k => w.heap.size + 1 ≤ k) (cln_trans hcl1.out hclX)).then_ hk7 (fun _ _ h => h)).toBelow (Nat.le_refl _) (fun k hk h => by simp at hk; omega))
    replace hown7 := Lib.hid hown7
    clear f0 f1 f2 f3 f4 f5 f6 f7 f8 f9 f10 f11 f12 f13
    clear hX0 hXl hO1 hclX hgr7 hk7)
   go_roundw
   case rel => exact ⟨i + 1, A3, c3, hlt, rfl, by go_num, fun h => by omega, hcl7, hown7.out⟩
   case measure => simp [intOf]; omega
  ·obtain rfl : i = n := by omega
   have t3 : decide ((i : Int) < (i : Int)) = false := decide_eq_false (by omega)
   have htk : Hid ((l.take i).map (·.key) = l.map (·.key)) := by unfold Hid; rw [List.take_of_length_le (by omega)]
   rw [htk.out] at hO
   by_cases h0 : i = 0
   ·obtain ⟨rfl, rfl⟩ := hz.out h0
    subst h0
    have hl0 : Hid (keysOf l = []) := by
     have : l = [] := List.length_eq_zero_iff.1 hll
     subst this; unfold Hid keysOf; simp only [List.map_nil, List.mergeSort_nil]; rfl
    clear hO hz htk hll
    go_wp2_with (first
     |(go_at_call 70; refine (Tryz.slices_Sort_string_none none 0 _).mono ?_; rintro e w' ⟨rfl, rfl⟩)
     |(go_at_call 71; refine (Tryz.slices_Compact_string_empty none 0 _).mono ?_; rintro e w' ⟨rfl, rfl⟩))
    go_ret
    refine ⟨none, 0, 0, rfl, ?_, hcl.out⟩
    rw [hl0.out]
    exact ⟨rfl, fun h => absurd h (by omega)⟩
   ·obtain ⟨g, cap, hv, hbg, hgl, hncap, hcm, hlen, hH⟩ := Lib.holds_of_ownsRow hO.out (fun e => by injection e with _ e _; omega)
    injection hv with e1 _ e3
    subst e1; subst e3
    have hkk : Hid (keysOf l = Lib.compact ((l.map (·.key)).mergeSort fun x y => decide (x ≤ y))) := rfl
    generalize l.map (·.key) = ss at hO hlen hH hkk
    have hsort := Tryz.slices_Sort_string g 0 c2 ss wr hH hgl (by omega)
    rw [hlen] at hsort
    have X : Hid (wr.ownsRow (w.heap.size + 1) 9 1 (.slice (some ⟨g, 0, none⟩) i c2) i (ss.map encStr) ∧ w.heap.size + 1 ≤ g ∧ g < wr.heap.size ∧ i ≤ c2 ∧ c2 ≤ maxLen ∧ ss.length = i ∧ Holds encStr wr g 0 ss.toArray) := ⟨hO.out, hbg, hgl, hncap, hcm, hlen, hH⟩
    clear hO hH hz htk hbg hgl hncap hcm hlen
    go_wp2_with (first
     |(go_at_call 70; refine hsort.mono ?_; rintro e w2 ⟨rfl, nn, os, rfl⟩
       have hl2 : (ss.mergeSort fun x y => decide (x ≤ y)).length = i := by rw [List.length_mergeSort]; exact X.out.2.2.2.2.2.1
       have hH2 : Holds encStr (grow (putRow encStr (Sort.ahead wr nn) g 0 (ss.mergeSort fun x y => decide (x ≤ y)).toArray) os) g 0 (ss.mergeSort fun x y => decide (x ≤ y)).toArray :=
        holds_grow encStr _ os g 0 _ (by simpa [putRow, mapBlock, Sort.ahead] using X.out.2.2.1) (holds_putRow encStr _ g 0 _ _ (holds_ahead encStr wr nn g 0 _ X.out.2.2.2.2.2.2) (by simp))
       have hcomp := Tryz.slices_Compact_string g 0 c2 (ss.mergeSort fun x y => decide (x ≤ y)) _ hH2 (by omega) (by have := X.out.2.2.2.1; omega)
       rw [hl2] at hcomp
       clear hH2 hsort)
     |(go_at_call 71; refine hcomp.mono ?_; rintro e w3 ⟨rfl, q, rfl⟩))
    go_ret
    have hfin := sorted_own (w := w) (nn := nn) (os := os) (q := q) X.out.1 hcl.out (by omega) X.out.2.1 X.out.2.2.2.2.2.1
    refine ⟨some ⟨g, 0, none⟩, (Lib.compact (ss.mergeSort fun x y => decide (x ≤ y))).length, c2, rfl, ?_, hfin.2⟩
    rw [hkk.out]
    exact own_strs hfin.1
end Go.Proofs.YtoeoodiifpoomaaGreatDoor

/- The walk of moietylaw08.speaks. (Printed by wip/tools/gen_dealsp.py.) -/
namespace Moi
def dspA : MAct := ⟨7, [97], 1, 0, [], zeroRec, false⟩
def dspB : MAct := ⟨2, [97], 0, 0, [], zeroRec, false⟩
def dspC : MAct := ⟨99, [97], 0, 0, [], zeroRec, false⟩
def dspD : MAct := ⟨1, [97], 0, 0, [], zeroRec, false⟩
theorem dspA_w : wAct dspA = [7, 0, 1, 97, 2] := by
 have h7 := wU_lt 7 (by decide); have h2 := wU_lt 2 (by decide); have h1 := wU_lt 1 (by decide)
 have e1 : hasF 7 110 = true := by decide
 have e2 : hasF 7 120 = false := by decide
 have e3 : hasF 7 115 = false := by decide
 have e4 : hasF 7 109 = false := by decide
 have e5 : wI 1 = [2] := by unfold wI; rw [show zig 1 = 2 from by decide, h2]; rfl
 simp [wAct, dspA, wFlag, wS, h7, h1, e1, e2, e3, e4, e5]
theorem dsp_w : wDeal [dspA] = [1, 7, 0, 1, 97, 2] := by
 have h1 := wU_lt 1 (by decide)
 simp [wDeal, h1, dspA_w]
theorem dsp_check : checkDeal [dspA] = (0, 0) := by decide
theorem dsp_check2 : checkDeal [dspB, dspC] = (5, 2) := by decide
end Moi
namespace Go.Proofs.YtoeoodiifpoomaaGreatDoor
open Go.RowKit Moi
attribute [local go_sem] toList_str str_size less_ltB store_float
theorem readDeal_wDeal {l : List MAct} (hc : (checkDeal l).1 = 0) (hf : ∀ x ∈ l, FullA x) : readDeal (wDeal l) = (l.map norm, (0, 0)) := by
 have h := rDeal_of (b := wDeal l) (rest := []) (p := 0) hc hf (by simp)
 unfold readDeal
 rw [h]
 simp only [rEnd]
 rw [if_neg (by omega)]
theorem dspA_wf : dspA.WF := ⟨by decide, by decide, by decide, zeroRec_wf⟩
theorem dsp_wf {a : MAct} (h : a = dspA ∨ a = dspB ∨ a = dspC ∨ a = dspD) : a.WF := by
 rcases h with rfl | rfl | rfl | rfl <;> exact ⟨by decide, by decide, by decide, zeroRec_wf⟩
theorem dspA_full : FullA dspA := ⟨dspA_wf, fun x hx => by cases hx⟩
theorem dsp_keys : keysOf [dspA] = [[97]] := by
 unfold keysOf
 simp only [List.map_cons, List.map_nil, List.mergeSort_singleton]
 rfl
theorem dsp_conf : conflictB [dspA] [dspA] = false := by decide
theorem dsp_meet : meetB [dspA] [dspA] [] = true := by decide
theorem dsp_meet2 : meetB [dspA] [dspA] [[97]] = false := by decide
theorem dsp_rost : rosterB [dspD] = true := by decide
theorem dsp_norm : [dspA].map norm = [dspA] := by decide
theorem dsp_same : sameActs [dspA] [dspA] = true := sameActs_refl _
theorem rd_acts1 {W : World} {g : Nat} {a : MAct} {A : Option Addr} {n c : Nat} (h : Blk W g 90 #[.int .i64 a.kind, .string (str a.key), .int .i64 a.n, .float .f64 a.x, .string (str a.s), .int .i64 a.make.kind, .int .i64 a.make.num, .int .i64 a.make.low, .int .i64 a.make.high, .float .f64 a.make.real, .int .i64 a.make.cap, .string (str a.make.text), .slice A n c, .bool a.must]) (hit : RdItems W A n a.make.list) (hwf : a.WF) : RdActs W (some ⟨g, 0, none⟩) 1 [a] := by
 refine ⟨rfl, fun _ => ⟨g, 0, rfl, h.lt, fun i hi => ⟨A, n, c, ?_⟩⟩⟩
 obtain rfl : i = 0 := by omega
 exact ⟨h.cell 0, h.cell 1, h.cell 2, h.cell 3, h.cell 4, h.cell 5, h.cell 6, h.cell 7, h.cell 8, h.cell 9, h.cell 10, h.cell 11, h.cell 12, h.cell 13, hit, hwf⟩
theorem rd_acts2 {W : World} {g : Nat} (h : Blk W g 90 #[.int .i64 2, .string ⟨#[97]⟩, .int .i64 0, .float .f64 0, .string ⟨#[]⟩, .int .i64 0, .int .i64 0, .int .i64 0, .int .i64 0, .float .f64 0, .int .i64 0, .string ⟨#[]⟩, .slice none 0 0, .bool false, .int .i64 99, .string ⟨#[97]⟩, .int .i64 0, .float .f64 0, .string ⟨#[]⟩, .int .i64 0, .int .i64 0, .int .i64 0, .int .i64 0, .float .f64 0, .int .i64 0, .string ⟨#[]⟩, .slice none 0 0, .bool false]) : RdActs W (some ⟨g, 0, none⟩) 2 [dspB, dspC] := by
 refine ⟨rfl, fun _ => ⟨g, 0, rfl, h.lt, fun i hi => ⟨none, 0, 0, ?_⟩⟩⟩
 rcases (show i = 0 ∨ i = 1 by omega) with rfl | rfl
 ·exact ⟨h.cell 0, h.cell 1, h.cell 2, h.cell 3, h.cell 4, h.cell 5, h.cell 6, h.cell 7, h.cell 8, h.cell 9, h.cell 10, h.cell 11, h.cell 12, h.cell 13, RdItems.none_ _, dsp_wf (.inr (.inl rfl))⟩
 ·exact ⟨h.cell 14, h.cell 15, h.cell 16, h.cell 17, h.cell 18, h.cell 19, h.cell 20, h.cell 21, h.cell 22, h.cell 23, h.cell 24, h.cell 25, h.cell 26, h.cell 27, RdItems.none_ _, dsp_wf (.inr (.inr (.inl rfl)))⟩
theorem rd_str1 {W : World} {g : Nat} (h : Blk W g 9 #[.string ⟨#[97]⟩]) : RdStrs W (some ⟨g, 0, none⟩) 1 [[97]] := by
 refine ⟨rfl, fun _ => ⟨g, 0, rfl, h.lt, fun i hi => ?_⟩⟩
 obtain rfl : i = 0 := by omega
 exact h.cell 0
theorem rd_str0 (W : World) : RdStrs W none 0 [] := ⟨rfl, fun h => absurd h (by omega)⟩
set_option maxHeartbeats 8000000 in
theorem speaks_deal (w : World) (hK : KindsAt w) : Calls Tryz.prog 26 #[] w fun e w' => e = .returned (.bool true) ∧ Cln w w' := by
 have hfe : ∀ W : World, (binOp .eql 36 (.agg #[.int .i64 0, .int .i64 0]) (.agg #[.int .i64 0, .int .i64 0])).run Tryz.prog W = .ok (.bool true) W := fun W => by kernel_rfl
 have hcl0 : Cln w ((w.alloc (.cells #[.int .i64 7, .string ⟨#[97]⟩, .int .i64 1, .float .f64 0, .string ⟨#[]⟩, .int .i64 0, .int .i64 0, .int .i64 0, .int .i64 0, .float .f64 0, .int .i64 0, .string ⟨#[]⟩, .slice none 0 0, .bool false] 90)).alloc (.cells #[.slice (some ⟨w.heap.size, 0, none⟩) 1 1] 48)) := by (repeat with_reducible first | exact cR _ | assumption | refine cA ?_ _ | refine cD ?_ | refine cN ?_ _ | refine cS ?_ (by first | omega | (simp <;> omega)) _)
 have b0 := (Blk.new w 90 #[.int .i64 7, .string ⟨#[97]⟩, .int .i64 1, .float .f64 0, .string ⟨#[]⟩, .int .i64 0, .int .i64 0, .int .i64 0, .int .i64 0, .float .f64 0, .int .i64 0, .string ⟨#[]⟩, .slice none 0 0, .bool false]).alloc (.cells #[.slice (some ⟨w.heap.size, 0, none⟩) 1 1] 48)
 have b1 := Blk.new (w.alloc (.cells #[.int .i64 7, .string ⟨#[97]⟩, .int .i64 1, .float .f64 0, .string ⟨#[]⟩, .int .i64 0, .int .i64 0, .int .i64 0, .int .i64 0, .float .f64 0, .int .i64 0, .string ⟨#[]⟩, .slice none 0 0, .bool false] 90)) 48 #[.slice (some ⟨w.heap.size, 0, none⟩) 1 1]
 rw [World.size_alloc] at b1
 have hra := rd_acts1 (a := dspA) b0 (RdItems.none_ _) dspA_wf
 have hmo : ∀ a ∈ [dspA], a.make.list.length ≤ 140737488355328 := fun a ha => by
  obtain rfl : a = dspA := by simpa using ha
  decide
 have hwf : ∀ a ∈ [dspA], a.WF := fun a ha => by
  obtain rfl : a = dspA := by simpa using ha
  exact dspA_wf
 have cB := dbytes_any [dspA] (some ⟨w.heap.size, 0, none⟩) 1 1 hmo hwf _ (hK.cln hcl0) hra
 rw [show dealBytes [dspA] = [1, 7, 0, 1, 97, 2] from by unfold dealBytes; rw [dsp_check]; exact dsp_w] at cB
 have hb1 := Lib.hid b1; have hraH := Lib.hid hra
 clear b0 b1 hra
 go_enter Tryz.func26, Tryz.ntmps26
 go_wp2_with fail
 refine cB.mono ?_
 clear cB
 rintro e wA ⟨A, c, n, hn, rfl, hown, hcl1⟩
 obtain ⟨hrdB, hnc, hc, hA⟩ := newBytes_ok hown
 have hn5 : n ≤ 140737488355328 := by simp at hc; omega
 have hclA := cln_trans hcl0 hcl1
 have d1 := hb1.out.cln hcl1
 have hA' := Lib.hid hA
 replace hraH := Lib.hid (hraH.out.cln hcl1)
 clear hcl0 hcl1 hn hown hc hA hb1
 have x1 := d1.cell; have y1 := d1.lt
 have hrdBH := Lib.hid hrdB
 go_wp2_with fail
 have cR : Calls Tryz.prog 39 #[.slice A n c] wA fun e w' => ∃ A n c, e = .returned (.tuple #[.agg #[.slice A n c], .agg #[.int .i64 0, .int .i64 0]]) ∧ n ≤ 12 ∧ RdActs w' A n [dspA] ∧ Cln wA w' := by
  have h := dread_any A n c [1, 7, 0, 1, 97, 2] wA (hK.cln hclA) hrdB hnc hn5 (fun ad e => (hA'.out ad e).1)
  rw [← dsp_w, readDeal_wDeal (by rw [dsp_check]) (fun a ha => by
   obtain rfl : a = dspA := by simpa using ha
   exact dspA_full), dsp_norm] at h
  exact h
 refine cR.mono ?_
 clear cR hrdB
 rintro e wB ⟨AL, nL, cL, rfl, hnL, hrL, hcl2⟩
 have hcl3 : Cln wB ((wB.alloc (.cells #[.slice AL nL cL] 48)).alloc (.cells #[.int .i64 0, .int .i64 0] 36)) := by (repeat with_reducible first | exact cR _ | assumption | refine cA ?_ _ | refine cD ?_ | refine cN ?_ _ | refine cS ?_ (by first | omega | (simp <;> omega)) _)
 have bx := (Blk.new wB 48 #[.slice AL nL cL]).alloc (.cells #[.int .i64 0, .int .i64 0] 36)
 have bf := Blk.new (wB.alloc (.cells #[.slice AL nL cL] 48)) 36 #[.int .i64 0, .int .i64 0]
 rw [World.size_alloc] at bf
 have e1 := Lib.hid ((d1.cln hcl2).cln hcl3)
 have hrB := Lib.hid ((hrdBH.out.cln hcl2).cln hcl3)
 have hrLB := Lib.hid (hrL.cln hcl3)
 have hraB := Lib.hid ((hraH.out.cln hcl2).cln hcl3)
 have hclB := cln_trans (cln_trans hclA hcl2) hcl3
 have z1 : w.heap.size + 1 < wB.heap.size := by have := (d1.cln hcl2).lt; omega
 have hbx := Lib.hid bx; have hbf := Lib.hid bf
 have row := Blk.new ((wB.alloc (.cells #[.slice AL nL cL] 48)).alloc (.cells #[.int .i64 0, .int .i64 0] 36)) 90 #[.int .i64 2, .string ⟨#[97]⟩, .int .i64 0, .float .f64 0, .string ⟨#[]⟩, .int .i64 0, .int .i64 0, .int .i64 0, .int .i64 0, .float .f64 0, .int .i64 0, .string ⟨#[]⟩, .slice none 0 0, .bool false, .int .i64 99, .string ⟨#[97]⟩, .int .i64 0, .float .f64 0, .string ⟨#[]⟩, .int .i64 0, .int .i64 0, .int .i64 0, .int .i64 0, .float .f64 0, .int .i64 0, .string ⟨#[]⟩, .slice none 0 0, .bool false]
 have h55 : Cln ((wB.alloc (.cells #[.slice AL nL cL] 48)).alloc (.cells #[.int .i64 0, .int .i64 0] 36)) (((wB.alloc (.cells #[.slice AL nL cL] 48)).alloc (.cells #[.int .i64 0, .int .i64 0] 36)).alloc (.cells #[.int .i64 2, .string ⟨#[97]⟩, .int .i64 0, .float .f64 0, .string ⟨#[]⟩, .int .i64 0, .int .i64 0, .int .i64 0, .int .i64 0, .float .f64 0, .int .i64 0, .string ⟨#[]⟩, .slice none 0 0, .bool false, .int .i64 99, .string ⟨#[97]⟩, .int .i64 0, .float .f64 0, .string ⟨#[]⟩, .int .i64 0, .int .i64 0, .int .i64 0, .int .i64 0, .float .f64 0, .int .i64 0, .string ⟨#[]⟩, .slice none 0 0, .bool false] 90)) := by (repeat with_reducible first | exact cR _ | assumption | refine cA ?_ _ | refine cD ?_ | refine cN ?_ _ | refine cS ?_ (by first | omega | (simp <;> omega)) _)
 have cC := dcheck_any [dspB, dspC] (some ⟨((wB.alloc (.cells #[.slice AL nL cL] 48)).alloc (.cells #[.int .i64 0, .int .i64 0] 36)).heap.size, 0, none⟩) 2 2 (fun a ha => by rcases (show a = dspB ∨ a = dspC from by simpa using ha) with rfl | rfl <;> decide) _ (hK.cln (cln_trans hclB h55)) (rd_acts2 row)
 rw [dsp_check2] at cC
 simp only [World.size_alloc] at cC
 clear x1 y1 d1 hrdBH hraH hcl2 hcl3 hrL row bx bf
 go_wp2_with fail
 refine cC.mono ?_
 clear cC
 rintro e wC ⟨rfl, hclC⟩
 have hcc := cln_trans h55 hclC
 have hcD := cln_trans hclB hcc
 have hraC := Lib.hid (hraB.out.cln hcc)
 have f1 := (e1.out.cln hcc)
 have x1 := f1.cell; have y1 := f1.lt
 go_wp2_with fail
 refine (keys_any [dspA] (some ⟨w.heap.size, 0, none⟩) 1 1 (by omega) wC hraC.out).mono ?_
 rw [dsp_keys]
 rintro e wD ⟨AK, m, cK, rfl, hrK, hclD⟩
 obtain rfl : m = 1 := hrK.len.symm
 obtain ⟨gk, ok, rfl, hgk, hck⟩ := hrK.rows (by omega)
 have kk : wD.cell? ⟨gk, ok, none⟩ = some (.string ⟨#[97]⟩) := hck 0 (by omega)
 have hall := cln_trans hcc hclD
 have hcE := cln_trans hcD hclD
 clear x1 y1 f1 hck hrK
 have x1 := (e1.out.cln hall).cell; have y1 := (e1.out.cln hall).lt
 have xx := (hbx.out.cln hall).cell; have yx := (hbx.out.cln hall).lt
 have xf := (hbf.out.cln hall).cell; have yf := (hbf.out.cln hall).lt
 have hcv := conv_all (hrB.out.cln hall) c
 have hraD := Lib.hid (hraB.out.cln hall)
 have hrLD := Lib.hid (hrLB.out.cln hall)
 have kH := Lib.hid kk
 have cS := dsame_any [dspA] [dspA] (some ⟨w.heap.size, 0, none⟩) AL 1 1 nL cL hmo hmo (by omega) wD hraD.out hrLD.out
 rw [dsp_same] at cS
 go_wp2_with (first | simp only [hcv] | simp only [hfe])
 refine cS.mono ?_
 clear cS xf yf xx yx x1 y1 kk hcv
 rintro e wE ⟨rfl, hclE⟩
 have k1 := Lib.hid ((e1.out.cln hall).cln hclE)
 have hraE := Lib.hid (hraD.out.cln hclE)
 have hcF := cln_trans hcE hclE
 have x1 := k1.out.cell; have y1 := k1.out.lt
 have kk : wE.cell? ⟨gk, ok, none⟩ = some (.string ⟨#[97]⟩) := (Kept.of_below (S := fun _ => False) hclE).cell kH.out id
 have hgk2 : gk < wE.heap.size := by have := hclE.size; omega
 have cX := conflict_any [dspA] [dspA] (some ⟨w.heap.size, 0, none⟩) (some ⟨w.heap.size, 0, none⟩) 1 1 1 1 (by omega) (by omega) wE (hK.cln hcF) hraE.out hraE.out
 rw [dsp_conf] at cX
 go_wp2_with fail
 refine cX.mono ?_
 clear cX x1 y1 kk
 rintro e wF ⟨rfl, hclF⟩
 have k2 := Lib.hid (k1.out.cln hclF)
 have hraF := Lib.hid (hraE.out.cln hclF)
 have hcG := cln_trans hcF hclF
 have x1 := k2.out.cell; have y1 := k2.out.lt
 have cM := meet_any [dspA] [dspA] [] (some ⟨w.heap.size, 0, none⟩) (some ⟨w.heap.size, 0, none⟩) none 1 1 1 1 0 0 (by omega) (by omega) (by omega) wF hraF.out hraF.out (rd_str0 wF)
 rw [dsp_meet] at cM
 go_wp2_with fail
 refine cM.mono ?_
 clear cM x1 y1
 rintro e wG ⟨rfl, hclG⟩
 have k3 := Lib.hid (k2.out.cln hclG)
 have hraG := Lib.hid (hraF.out.cln hclG)
 have hcH := cln_trans hcG hclG
 have x1 := k3.out.cell; have y1 := k3.out.lt
 have hs : Cln wG (wG.alloc (.cells #[.string ⟨#[97]⟩] 9)) := by (repeat with_reducible first | exact cR _ | assumption | refine cA ?_ _ | refine cD ?_ | refine cN ?_ _ | refine cS ?_ (by first | omega | (simp <;> omega)) _)
 have cM := meet_any [dspA] [dspA] [[97]] (some ⟨w.heap.size, 0, none⟩) (some ⟨w.heap.size, 0, none⟩) (some ⟨wG.heap.size, 0, none⟩) 1 1 1 1 1 1 (by omega) (by omega) (by omega) _ (hraG.out.cln hs) (hraG.out.cln hs) (rd_str1 (Blk.new wG 9 #[.string ⟨#[97]⟩]))
 rw [dsp_meet2] at cM
 go_wp2_with fail
 refine cM.mono ?_
 clear cM x1 y1
 rintro e wH ⟨rfl, hclH⟩
 have hcI := cln_trans hcH (cln_trans hs hclH)
 have hs2 : Cln wH (wH.alloc (.cells #[.int .i64 1, .string ⟨#[97]⟩, .int .i64 0, .float .f64 0, .string ⟨#[]⟩, .int .i64 0, .int .i64 0, .int .i64 0, .int .i64 0, .float .f64 0, .int .i64 0, .string ⟨#[]⟩, .slice none 0 0, .bool false] 90)) := by (repeat with_reducible first | exact cR _ | assumption | refine cA ?_ _ | refine cD ?_ | refine cN ?_ _ | refine cS ?_ (by first | omega | (simp <;> omega)) _)
 have cO := roster_any [dspD] (some ⟨wH.heap.size, 0, none⟩) 1 1 (by omega) _ (rd_acts1 (a := dspD) (Blk.new wH 90 #[.int .i64 1, .string ⟨#[97]⟩, .int .i64 0, .float .f64 0, .string ⟨#[]⟩, .int .i64 0, .int .i64 0, .int .i64 0, .int .i64 0, .float .f64 0, .int .i64 0, .string ⟨#[]⟩, .slice none 0 0, .bool false]) (RdItems.none_ _) (dsp_wf (.inr (.inr (.inr rfl)))))
 rw [dsp_rost] at cO
 go_wp2_with fail
 refine cO.mono ?_
 clear cO
 rintro e wI ⟨rfl, hclI⟩
 go_wp2_with fail
 go_ret
 exact ⟨rfl, cln_trans hcI (cln_trans hs2 hclI)⟩
end Go.Proofs.YtoeoodiifpoomaaGreatDoor
