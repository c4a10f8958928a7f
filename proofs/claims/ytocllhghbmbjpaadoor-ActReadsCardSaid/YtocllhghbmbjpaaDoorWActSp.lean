/- The walk of moietylaw04.speaks. (Printed by wip/tools/gen_actsp.py.) -/
import Derived.Test.YtocllhghbmbjpaaDoorWActRead
import Derived.Test.YtocllhghbmbjpaaDoorWAct5
import Derived.Test.YtocllhghbmbjpaaDoorWSpeaks
import Derived.StillTailTactics
set_option linter.unusedSimpArgs false
set_option linter.unusedVariables false
set_option maxRecDepth 20000
namespace Moi
def spT : MAct := ⟨8, [97], 3, 0, [], zeroRec, false⟩
def spU : MAct := ⟨2, [97], 1, 0, [], zeroRec, false⟩
theorem spT_check : checkAct spT = 0 := by decide
theorem spU_check : checkAct spU = 4 := by decide
theorem spT_w : wAct spT = [8, 0, 1, 97, 6] := by
  have h8 := wU_lt 8 (by decide); have h1 := wU_lt 1 (by decide); have h6 := wU_lt 6 (by decide)
  have e1 : hasF 8 110 = true := by decide
  have e2 : hasF 8 120 = false := by decide
  have e3 : hasF 8 115 = false := by decide
  have e4 : hasF 8 109 = false := by decide
  simp [wAct, spT, wFlag, wI, zig, wS, h8, h1, h6, e1, e2, e3, e4]
theorem spT_r : readAct [8, 0, 1, 97, 6] = (spT, (0, 0)) := by decide
theorem spT_s : sameAct spT spT = true := by decide
end Moi
namespace Go.Proofs.YtocllhghbmbjpaaDoor
open Go.RowKit Moi
attribute [local go_sem] toList_str str_size less_ltB store_float
theorem spT_wf : spT.WF := ⟨by decide, by decide, by decide, zeroRec_wf_⟩
theorem spU_wf : spU.WF := ⟨by decide, by decide, by decide, zeroRec_wf_⟩
set_option maxHeartbeats 4000000 in
theorem speaks_act (w : World) (hK : KindsAt w) : Calls Tryd.prog 9 #[] w fun e w' => e = .returned (.bool true) ∧ Cln w w' := by
  have hfe : ∀ W : World, (binOp .eql 41 (.agg #[.int .i64 0, .int .i64 0]) (.agg #[.int .i64 0, .int .i64 0])).run Tryd.prog W = .ok (.bool true) W := fun W => by kernel_rfl
  have hb0 := Lib.hid (Blk.new w 33 #[.int .i64 8, .string ⟨#[97]⟩, .int .i64 3, .float .f64 0, .string ⟨#[]⟩, .int .i64 0, .int .i64 0, .int .i64 0, .int .i64 0, .float .f64 0, .int .i64 0, .string ⟨#[]⟩, .slice none 0 0, .bool false])
  have hcl0 : Cln w (w.alloc (.cells #[.int .i64 8, .string ⟨#[97]⟩, .int .i64 3, .float .f64 0, .string ⟨#[]⟩, .int .i64 0, .int .i64 0, .int .i64 0, .int .i64 0, .float .f64 0, .int .i64 0, .string ⟨#[]⟩, .slice none 0 0, .bool false] 33)) := by (repeat (first | (with_reducible exact Below.refl _ _) | (with_reducible assumption) | (with_reducible refine Below.setCell ?_ (by first | omega | (simp; done) | (simp; omega)) _) | (with_reducible refine Below.alloc ?_ (by first | omega | (simp; done) | (simp; omega)) _) | (with_reducible refine Below.drew ?_) | (with_reducible refine below_drewN ?_ _)))
  have cB := bytes_act spT spT_wf none 0 0 (by omega) _ (hK.cln hcl0) (RdItems.none_ _)
  rw [show actVal spT none 0 0 = .agg #[.int .i64 8, .string ⟨#[97]⟩, .int .i64 3, .float .f64 0, .string ⟨#[]⟩, .int .i64 0, .int .i64 0, .int .i64 0, .int .i64 0, .float .f64 0, .int .i64 0, .string ⟨#[]⟩, .slice none 0 0, .bool false] from rfl] at cB
  go_enter Tryd.func9, Tryd.ntmps9
  go_wp2_with fail
  refine cB.mono ?_
  clear cB
  rintro e w1 ⟨A, c, n, hn, rfl, hown, hcl1⟩
  have hbs : actBytes spT = [8, 0, 1, 97, 6] := by unfold actBytes; rw [if_pos spT_check, spT_w]
  rw [hbs] at hown
  obtain ⟨hrd, hnc, hc, hA⟩ := newBytes_ok hown
  have hn5 : n ≤ 140737488355328 := by simp at hc; omega
  clear hc
  have hb1 := Lib.hid (hb0.out.cln hcl1)
  have hclA := cln_trans hcl0 hcl1
  have hsz1 := hb1.out.lt
  have hA' := Lib.hid hA
  clear hb0 hcl0 hcl1 hn hown hbs hA
  go_wp2_with fail
  refine (aread_any A n c [8, 0, 1, 97, 6] w1 (hK.cln hclA) hrd hnc hn5 (fun ad e => (hA'.out ad e).1)).mono ?_
  rw [spT_r]
  rintro e w2 ⟨AL, nL, cL, rfl, hIL, hgeL, hwL, hn32, hcl2⟩
  have hcl3 : Cln w2 ((w2.alloc (.cells #[.int .i64 8, .string ⟨#[97]⟩, .int .i64 3, .float .f64 0, .string ⟨#[]⟩, .int .i64 0, .int .i64 0, .int .i64 0, .int .i64 0, .float .f64 0, .int .i64 0, .string ⟨#[]⟩, .slice AL nL cL, .bool false] 33)).alloc (.cells #[.int .i64 0, .int .i64 0] 41)) := by (repeat (first | (with_reducible exact Below.refl _ _) | (with_reducible assumption) | (with_reducible refine Below.setCell ?_ (by first | omega | (simp; done) | (simp; omega)) _) | (with_reducible refine Below.alloc ?_ (by first | omega | (simp; done) | (simp; omega)) _) | (with_reducible refine Below.drew ?_) | (with_reducible refine below_drewN ?_ _)))
  have hb3 := (hb1.out.cln hcl2).cln hcl3
  have hIL3 : RdItems _ AL nL spT.make.list := RdItems.cln hIL hcl3
  have hrd3 := (hrd.cln hcl2).cln hcl3
  have hcv := conv_all hrd3 c
  have hclB := cln_trans (cln_trans hclA hcl2) hcl3
  have hsz2 : w.heap.size < w2.heap.size := by have := hcl2.size; omega
  have hbx := (Blk.new w2 33 #[.int .i64 8, .string ⟨#[97]⟩, .int .i64 3, .float .f64 0, .string ⟨#[]⟩, .int .i64 0, .int .i64 0, .int .i64 0, .int .i64 0, .float .f64 0, .int .i64 0, .string ⟨#[]⟩, .slice AL nL cL, .bool false]).alloc (.cells #[.int .i64 0, .int .i64 0] 41)
  have hc3 := hb3.cell
  have hcx := hbx.cell
  have hn12 : ¬ w.heap.size = w2.heap.size := by omega
  clear hb1 hcl2 hcl3 hrd hgeL hwL hIL
  rw [show actVal spT AL nL cL = .agg #[.int .i64 8, .string ⟨#[97]⟩, .int .i64 3, .float .f64 0, .string ⟨#[]⟩, .int .i64 0, .int .i64 0, .int .i64 0, .int .i64 0, .float .f64 0, .int .i64 0, .string ⟨#[]⟩, .slice AL nL cL, .bool false] from rfl, show faultAgg (0, 0) = .agg #[.int .i64 0, .int .i64 0] from rfl]
  go_wp2_with (first | simp only [hcv] | simp only [hfe])
  have hs := asame_any spT spT none AL 0 0 nL cL _ (RdItems.none_ _) hIL3 (by omega) (by omega) (by decide) (by decide) (by decide) (by decide)
  rw [show actVal spT AL nL cL = .agg #[.int .i64 8, .string ⟨#[97]⟩, .int .i64 3, .float .f64 0, .string ⟨#[]⟩, .int .i64 0, .int .i64 0, .int .i64 0, .int .i64 0, .float .f64 0, .int .i64 0, .string ⟨#[]⟩, .slice AL nL cL, .bool false] from rfl, show actVal spT none 0 0 = .agg #[.int .i64 8, .string ⟨#[97]⟩, .int .i64 3, .float .f64 0, .string ⟨#[]⟩, .int .i64 0, .int .i64 0, .int .i64 0, .int .i64 0, .float .f64 0, .int .i64 0, .string ⟨#[]⟩, .slice none 0 0, .bool false] from rfl] at hs
  refine hs.mono ?_
  clear hs
  rw [spT_s]
  rintro e w3 ⟨rfl, hcl4⟩
  have hclC := cln_trans hclB hcl4
  clear hclB hcl4 hcv hrd3 hIL3 hbx hb3 hc3 hcx
  go_wp2_with fail
  have hs := acheck_any spU none 0 0 (by omega) spU_wf _ (hK.cln hclC) (RdItems.none_ _)
  rw [show actVal spU none 0 0 = .agg #[.int .i64 2, .string ⟨#[97]⟩, .int .i64 1, .float .f64 0, .string ⟨#[]⟩, .int .i64 0, .int .i64 0, .int .i64 0, .int .i64 0, .float .f64 0, .int .i64 0, .string ⟨#[]⟩, .slice none 0 0, .bool false] from rfl, spU_check] at hs
  refine hs.mono ?_
  clear hs
  rintro e w4 ⟨rfl, hcl4⟩
  have hclD := cln_trans hclC hcl4
  clear hclC hcl4
  go_wp2_with fail
  refine (name_act 21 _ (hK.cln hclD)).mono ?_
  rw [show wordOf 21 = [111, 102, 102, 101, 114] from by decide]
  rintro e w5 ⟨rfl, hq⟩
  have hclE := cln_trans hclD hq
  clear hclD hq
  go_wp2_with fail
  refine (on_act 10 _ (hK.cln hclE)).mono ?_
  rw [show onOf 10 = 4 from by decide]
  rintro e w6 ⟨rfl, hq⟩
  have hclF := cln_trans hclE hq
  clear hclE hq
  go_wp2_with fail
  refine (reads_act 20 _).mono ?_
  rw [show readsB 20 = true from by decide]
  rintro e w7 ⟨rfl, hq⟩
  have hclG := cln_trans hclF hq
  clear hclF hq
  go_wp2_with fail
  refine (fields_act 1 109 _ (hK.cln hclG)).mono ?_
  rw [show hasF 1 109 = true from by decide]
  rintro e w8 ⟨rfl, hq⟩
  have hclH := cln_trans hclG hq
  clear hclG hq
  go_wp2_with fail
  go_ret
  exact ⟨rfl, hclH⟩
end Go.Proofs.YtocllhghbmbjpaaDoor
