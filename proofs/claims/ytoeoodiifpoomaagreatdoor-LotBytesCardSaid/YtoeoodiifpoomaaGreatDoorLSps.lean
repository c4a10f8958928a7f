import Derived.Test.YtoeoodiifpoomaaGreatDoorCut
import Derived.Test.YtoeoodiifpoomaaGreatDoorRows2
import Derived.Test.YtoeoodiifpoomaaGreatDoorSpeak
import Derived.Test.YtoeoodiifpoomaaGreatDoorWLotRead
import Derived.Test.YtoeoodiifpoomaaGreatDoorWLot2
import Derived.Test.YtoeoodiifpoomaaGreatDoorWCut
import Derived.Test.YtoeoodiifpoomaaGreatDoorWSpeaks
/- Layer 11, plainly: what its statements' 'speaks' speaks of; rows of one or two. -/
set_option linter.unusedSimpArgs false
set_option linter.unusedVariables false
set_option maxRecDepth 20000
namespace Moi
def lspA : MAct := ⟨2, [97], 0, 0, [], zeroRec, false⟩
def lspL : MLot := ⟨7, [[lspA]]⟩
theorem lspA_check : checkAct lspA = 0 := by decide
theorem lspA_w : wAct lspA = [2, 0, 1, 97] := by
  have h2 := wU_lt 2 (by decide); have h1 := wU_lt 1 (by decide)
  have e1 : hasF 2 110 = false := by decide
  have e2 : hasF 2 120 = false := by decide
  have e3 : hasF 2 115 = false := by decide
  have e4 : hasF 2 109 = false := by decide
  simp [wAct, lspA, wFlag, wS, h2, h1, e1, e2, e3, e4]
theorem lspL_w : wLot lspL = [7, 1, 1, 2, 0, 1, 97] := by
  have h7 := wU_lt 7 (by decide); have h1 := wU_lt 1 (by decide)
  simp [wLot, lspL, wDeal, h7, h1, lspA_w]
theorem lspD_check : checkDeal [lspA] = (0, 0) := by decide
theorem lspL_check : checkLot lspL = (0, 0) := lot_of (by decide) (by decide) (by decide) (fun d hd => by
  have : d = [lspA] := by simpa [lspL] using hd
  subst this; rw [lspD_check]) (by rw [lspL_w]; decide)
theorem lspL_norm : Go.Proofs.YtoeoodiifpoomaaGreatDoor.normDeals lspL.deals = [[lspA]] := by decide
theorem lspM_check : checkLot ⟨1, [[lspA], []]⟩ = (1, 2) := by decide
theorem lspN_check : checkLot ⟨7, [[lspA], []]⟩ = (1, 2) := by decide
theorem lspL_many : many 7 [[lspA], []] = 1 := by
  have h1 : (checkLot ⟨7, ([[lspA], []] : List (List MAct)).take (0 + 1)⟩).1 = 0 := by show (checkLot lspL).1 = 0; rw [lspL_check]
  have h2 : (checkLot ⟨7, ([[lspA], []] : List (List MAct)).take (1 + 1)⟩).1 ≠ 0 := by show (checkLot ⟨7, [[lspA], []]⟩).1 ≠ 0; rw [lspN_check]; decide
  show manyGo 7 [[lspA], []] 2 0 = 1
  rw [manyGo, if_pos h1, manyGo, if_neg h2]
end Moi
namespace Go.Proofs.YtoeoodiifpoomaaGreatDoor
open Go.RowKit Moi
theorem lspA_wf : lspA.WF := ⟨by decide, by decide, by decide, zeroRec_wf_⟩
theorem lspA_full : FullA lspA := ⟨lspA_wf, fun x hx => by cases hx⟩
theorem rd_act1 {W : World} {g : Nat} {a : MAct} {A : Option Addr} {n c : Nat} (h : Blk W g 90 #[.int .i64 a.kind, .string (str a.key), .int .i64 a.n, .float .f64 a.x, .string (str a.s), .int .i64 a.make.kind, .int .i64 a.make.num, .int .i64 a.make.low, .int .i64 a.make.high, .float .f64 a.make.real, .int .i64 a.make.cap, .string (str a.make.text), .slice A n c, .bool a.must]) (hit : RdItems W A n a.make.list) (hwf : a.WF) : RdActs W (some ⟨g, 0, none⟩) 1 [a] := by
  refine ⟨rfl, fun _ => ⟨g, 0, rfl, h.lt, fun i hi => ⟨A, n, c, ?_⟩⟩⟩
  obtain rfl : i = 0 := by omega
  exact ⟨h.cell 0, h.cell 1, h.cell 2, h.cell 3, h.cell 4, h.cell 5, h.cell 6, h.cell 7, h.cell 8, h.cell 9, h.cell 10, h.cell 11, h.cell 12, h.cell 13, hit, hwf⟩
theorem rd_deal1 {W : World} {g : Nat} {d : List MAct} {A : Option Addr} {n c : Nat} (h : Blk W g 48 #[.slice A n c]) (hit : RdActs W A n d) : RdDeals W (some ⟨g, 0, none⟩) 1 [d] := by
  refine ⟨rfl, fun _ => ⟨g, 0, rfl, h.lt, fun i hi => ⟨A, n, c, ?_⟩⟩⟩
  obtain rfl : i = 0 := by omega
  exact ⟨h.cell 0, hit⟩
theorem RdActs.none_ (W : World) : RdActs W none 0 [] := ⟨rfl, fun h => absurd h (by omega)⟩
theorem rd_deal2 {W : World} {g : Nat} {d : List MAct} {A : Option Addr} {n c : Nat} (h : Blk W g 48 #[.slice A n c, .slice none 0 0]) (hit : RdActs W A n d) : RdDeals W (some ⟨g, 0, none⟩) 2 [d, []] := by
  refine ⟨rfl, fun _ => ⟨g, 0, rfl, h.lt, fun i hi => ?_⟩⟩
  rcases (show i = 0 ∨ i = 1 by omega) with rfl | rfl
  · exact ⟨A, n, c, h.cell 0, hit⟩
  · exact ⟨none, 0, 0, h.cell 1, RdActs.none_ W⟩
end Go.Proofs.YtoeoodiifpoomaaGreatDoor

/- The walk of moietylaw11.speaks. (Printed by wip/tools/gen_lotsp.py.) -/
set_option linter.unusedSimpArgs false
set_option linter.unusedVariables false
set_option maxRecDepth 20000
namespace Go.Proofs.YtoeoodiifpoomaaGreatDoor
open Go.RowKit Moi
attribute [local go_sem] toList_str str_size less_ltB store_float
set_option maxHeartbeats 4000000 in
theorem speaks_lot (w : World) (hK : KindsAt w) : Calls Tryz.prog 13 #[] w fun e w' => e = .returned (.bool true) ∧ Cln w w' := by
  have hfe : ∀ W : World, (binOp .eql 36 (.agg #[.int .i64 0, .int .i64 0]) (.agg #[.int .i64 0, .int .i64 0])).run Tryz.prog W = .ok (.bool true) W := fun W => by kernel_rfl
  have hcl0 : Cln w ((((w.alloc (.cells #[.int .i64 2, .string ⟨#[97]⟩, .int .i64 0, .float .f64 0, .string ⟨#[]⟩, .int .i64 0, .int .i64 0, .int .i64 0, .int .i64 0, .float .f64 0, .int .i64 0, .string ⟨#[]⟩, .slice none 0 0, .bool false] 90)).alloc (.cells #[.slice (some ⟨w.heap.size, 0, none⟩) 1 1] 48)).alloc (.cells #[.slice (some ⟨w.heap.size, 0, none⟩) 1 1] 48)).alloc (.cells #[.int .i64 7, .slice (some ⟨w.heap.size + 1 + 1, 0, none⟩) 1 1] 24)) := by (repeat (first | (with_reducible exact Below.refl _ _) | (with_reducible assumption) | (with_reducible refine Below.setCell ?_ (by first | omega | (simp; done) | (simp; omega)) _) | (with_reducible refine Below.alloc ?_ (by first | omega | (simp; done) | (simp; omega)) _) | (with_reducible refine Below.drew ?_) | (with_reducible refine below_drewN ?_ _)))
  have b0 := (((Blk.new w 90 #[.int .i64 2, .string ⟨#[97]⟩, .int .i64 0, .float .f64 0, .string ⟨#[]⟩, .int .i64 0, .int .i64 0, .int .i64 0, .int .i64 0, .float .f64 0, .int .i64 0, .string ⟨#[]⟩, .slice none 0 0, .bool false]).alloc (.cells #[.slice (some ⟨w.heap.size, 0, none⟩) 1 1] 48)).alloc (.cells #[.slice (some ⟨w.heap.size, 0, none⟩) 1 1] 48)).alloc (.cells #[.int .i64 7, .slice (some ⟨w.heap.size + 1 + 1, 0, none⟩) 1 1] 24)
  have b1 := ((Blk.new (w.alloc (.cells #[.int .i64 2, .string ⟨#[97]⟩, .int .i64 0, .float .f64 0, .string ⟨#[]⟩, .int .i64 0, .int .i64 0, .int .i64 0, .int .i64 0, .float .f64 0, .int .i64 0, .string ⟨#[]⟩, .slice none 0 0, .bool false] 90)) 48 #[.slice (some ⟨w.heap.size, 0, none⟩) 1 1]).alloc (.cells #[.slice (some ⟨w.heap.size, 0, none⟩) 1 1] 48)).alloc (.cells #[.int .i64 7, .slice (some ⟨w.heap.size + 1 + 1, 0, none⟩) 1 1] 24)
  have b2 := (Blk.new ((w.alloc (.cells #[.int .i64 2, .string ⟨#[97]⟩, .int .i64 0, .float .f64 0, .string ⟨#[]⟩, .int .i64 0, .int .i64 0, .int .i64 0, .int .i64 0, .float .f64 0, .int .i64 0, .string ⟨#[]⟩, .slice none 0 0, .bool false] 90)).alloc (.cells #[.slice (some ⟨w.heap.size, 0, none⟩) 1 1] 48)) 48 #[.slice (some ⟨w.heap.size, 0, none⟩) 1 1]).alloc (.cells #[.int .i64 7, .slice (some ⟨w.heap.size + 1 + 1, 0, none⟩) 1 1] 24)
  have b3 := Blk.new (((w.alloc (.cells #[.int .i64 2, .string ⟨#[97]⟩, .int .i64 0, .float .f64 0, .string ⟨#[]⟩, .int .i64 0, .int .i64 0, .int .i64 0, .int .i64 0, .float .f64 0, .int .i64 0, .string ⟨#[]⟩, .slice none 0 0, .bool false] 90)).alloc (.cells #[.slice (some ⟨w.heap.size, 0, none⟩) 1 1] 48)).alloc (.cells #[.slice (some ⟨w.heap.size, 0, none⟩) 1 1] 48)) 24 #[.int .i64 7, .slice (some ⟨w.heap.size + 1 + 1, 0, none⟩) 1 1]
  simp only [World.size_alloc] at b1 b2 b3
  have hra := rd_act1 (a := lspA) b0 (RdItems.none_ _) lspA_wf
  have hrd := rd_deal1 b2 hra
  have hmo : Mod lspL.deals := mod_of (fun d hd => by
    have : d = [lspA] := by simpa [lspL] using hd
    subst this; rw [lspD_check])
  have hmo2 : Mod [[lspA], []] := ⟨fun d hd => by
    rcases (show d = [lspA] ∨ d = [] from by simpa using hd) with rfl | rfl <;> decide, fun d hd a ha => by
    rcases (show d = [lspA] ∨ d = [] from by simpa using hd) with rfl | rfl
    · obtain rfl : a = lspA := by simpa using ha
      decide
    · cases ha⟩
  have cB := lbytes_any lspL (some ⟨w.heap.size + 1 + 1, 0, none⟩) 1 1 hmo _ (hK.cln hcl0) hrd
  rw [show lotBytes lspL = [7, 1, 1, 2, 0, 1, 97] from by unfold lotBytes; rw [lspL_check]; exact lspL_w] at cB
  have hb1 := Lib.hid b1; have hb3 := Lib.hid b3; have hraH := Lib.hid hra; have hrdH := Lib.hid hrd
  clear b0 b1 b2 b3 hra hrd
  go_enter Tryz.func13, Tryz.ntmps13
  go_wp2_with fail
  refine cB.mono ?_
  clear cB
  rintro e wA ⟨A, c, n, hn, rfl, hown, hcl1⟩
  obtain ⟨hrdB, hnc, hc, hA⟩ := newBytes_ok hown
  have hn5 : n ≤ 140737488355328 := by simp at hc; omega
  have hclA := cln_trans hcl0 hcl1
  have d1 := hb1.out.cln hcl1; have d3 := hb3.out.cln hcl1
  have hA' := Lib.hid hA
  replace hraH := Lib.hid (hraH.out.cln hcl1); replace hrdH := Lib.hid (hrdH.out.cln hcl1)
  clear hcl0 hcl1 hn hown hc hA hb1 hb3
  have x1 := d1.cell; have y1 := d1.lt; have x3 := d3.cell; have y3 := d3.lt
  have hrdBH := Lib.hid hrdB
  go_wp2_with fail
  have cR : Calls Tryz.prog 20 #[.slice A n c] wA fun e w' => ∃ A n c, e = .returned (.tuple #[.agg #[.int .i64 7, .slice A n c], .agg #[.int .i64 0, .int .i64 0]]) ∧ n ≤ 32 ∧ n ≤ c ∧ RdDeals w' A n [[lspA]] ∧ Cln wA w' := by
    have h := lread_any A n c [7, 1, 1, 2, 0, 1, 97] wA (hK.cln hclA) hrdB hnc hn5 (fun ad e => (hA'.out ad e).1)
    rw [← lspL_w, readLot_wLot (by rw [lspL_check]) (fun d hd a ha => by
      have : d = [lspA] := by simpa [lspL] using hd
      subst this
      obtain rfl : a = lspA := by simpa using ha
      exact lspA_full), lspL_norm] at h
    exact h
  refine cR.mono ?_
  clear cR hrdB
  rintro e wB ⟨AL, nL, cL, rfl, hnL, hncL, hrL, hcl2⟩
  have hcl3 : Cln wB ((wB.alloc (.cells #[.int .i64 7, .slice AL nL cL] 24)).alloc (.cells #[.int .i64 0, .int .i64 0] 36)) := by (repeat (first | (with_reducible exact Below.refl _ _) | (with_reducible assumption) | (with_reducible refine Below.setCell ?_ (by first | omega | (simp; done) | (simp; omega)) _) | (with_reducible refine Below.alloc ?_ (by first | omega | (simp; done) | (simp; omega)) _) | (with_reducible refine Below.drew ?_) | (with_reducible refine below_drewN ?_ _)))
  have bx := (Blk.new wB 24 #[.int .i64 7, .slice AL nL cL]).alloc (.cells #[.int .i64 0, .int .i64 0] 36)
  have bf := Blk.new (wB.alloc (.cells #[.int .i64 7, .slice AL nL cL] 24)) 36 #[.int .i64 0, .int .i64 0]
  rw [World.size_alloc] at bf
  have e1 := (d1.cln hcl2).cln hcl3; have e3 := (d3.cln hcl2).cln hcl3
  have hrB := Lib.hid ((hrdBH.out.cln hcl2).cln hcl3)
  have hrLB := Lib.hid (hrL.cln hcl3)
  have hraB := Lib.hid ((hraH.out.cln hcl2).cln hcl3)
  have hrdlB := Lib.hid ((hrdH.out.cln hcl2).cln hcl3)
  have hclB := cln_trans (cln_trans hclA hcl2) hcl3
  have z1 : w.heap.size + 1 < wB.heap.size := by have := (d1.cln hcl2).lt; omega
  have z3 : w.heap.size + 1 + 1 + 1 < wB.heap.size := by have := (d3.cln hcl2).lt; omega
  clear x1 y1 x3 y3 d1 d3 hrdBH hraH hrdH hcl2 hrL
  have x1 := e1.cell; have y1 := e1.lt
  have row5 := (Blk.new ((wB.alloc (.cells #[.int .i64 7, .slice AL nL cL] 24)).alloc (.cells #[.int .i64 0, .int .i64 0] 36)) 48 #[.slice (some ⟨w.heap.size, 0, none⟩) 1 1, .slice none 0 0])
  simp only [World.size_alloc] at row5
  have h55 : Cln ((wB.alloc (.cells #[.int .i64 7, .slice AL nL cL] 24)).alloc (.cells #[.int .i64 0, .int .i64 0] 36)) (((wB.alloc (.cells #[.int .i64 7, .slice AL nL cL] 24)).alloc (.cells #[.int .i64 0, .int .i64 0] 36)).alloc (.cells #[.slice (some ⟨w.heap.size, 0, none⟩) 1 1, .slice none 0 0] 48)) := by (repeat (first | (with_reducible exact Below.refl _ _) | (with_reducible assumption) | (with_reducible refine Below.setCell ?_ (by first | omega | (simp; done) | (simp; omega)) _) | (with_reducible refine Below.alloc ?_ (by first | omega | (simp; done) | (simp; omega)) _) | (with_reducible refine Below.drew ?_) | (with_reducible refine below_drewN ?_ _)))
  have cC := cut_any 7 [[lspA], []] (some ⟨wB.heap.size + 1 + 1, 0, none⟩) 2 2 (Nat.le_refl _) (fun e => by cases e) (by omega) hmo2 (fun d hd => ⟨by have := hmo2.deals d hd; rcases (show d = [lspA] ∨ d = [] from by simpa using hd) with rfl | rfl <;> decide, fun a ha => by
    rcases (show d = [lspA] ∨ d = [] from by simpa using hd) with rfl | rfl
    · obtain rfl : a = lspA := by simpa using ha
      decide
    · cases ha⟩) _ (hK.cln (cln_trans hclB h55)) (rd_deal2 row5 (hraB.out.cln h55))
  rw [lspL_many] at cC
  replace e1 := Lib.hid e1; replace e3 := Lib.hid e3; replace bx := Lib.hid bx; replace bf := Lib.hid bf
  clear row5
  go_wp2_with fail
  refine cC.mono ?_
  clear cC x1 y1
  rintro e wC ⟨A1, A2, n1, c1, n2, c2, rfl, hn1, hn2, hnc1, hnc2, hr1, hr2, hclC⟩
  obtain rfl : n1 = 1 := hn1
  obtain rfl : n2 = 1 := hn2
  have hr1' : RdDeals wC A1 1 [[lspA]] := hr1
  have hcy : Cln wC (wC.alloc (.cells #[.int .i64 7, .slice A1 1 c1] 24)) := by (repeat (first | (with_reducible exact Below.refl _ _) | (with_reducible assumption) | (with_reducible refine Below.setCell ?_ (by first | omega | (simp; done) | (simp; omega)) _) | (with_reducible refine Below.alloc ?_ (by first | omega | (simp; done) | (simp; omega)) _) | (with_reducible refine Below.drew ?_) | (with_reducible refine below_drewN ?_ _)))
  have by_ := Blk.new wC 24 #[.int .i64 7, .slice A1 1 c1]
  have hcc := cln_trans (cln_trans h55 hclC) hcy
  have g1 := e1.out.cln hcc
  have hcD := cln_trans hclB hcc
  have hraD := hraB.out.cln hcc
  have zC : wB.heap.size + 1 < wC.heap.size := by have h2 := hclC.size; simp only [World.size_alloc] at h2; omega
  have row6 := Blk.new (wC.alloc (.cells #[.int .i64 7, .slice A1 1 c1] 24)) 48 #[.slice (some ⟨w.heap.size, 0, none⟩) 1 1, .slice none 0 0]
  rw [World.size_alloc] at row6
  have h66 : Cln (wC.alloc (.cells #[.int .i64 7, .slice A1 1 c1] 24)) ((wC.alloc (.cells #[.int .i64 7, .slice A1 1 c1] 24)).alloc (.cells #[.slice (some ⟨w.heap.size, 0, none⟩) 1 1, .slice none 0 0] 48)) := by (repeat (first | (with_reducible exact Below.refl _ _) | (with_reducible assumption) | (with_reducible refine Below.setCell ?_ (by first | omega | (simp; done) | (simp; omega)) _) | (with_reducible refine Below.alloc ?_ (by first | omega | (simp; done) | (simp; omega)) _) | (with_reducible refine Below.drew ?_) | (with_reducible refine below_drewN ?_ _)))
  have cK := lcheck_any ⟨1, [[lspA], []]⟩ (some ⟨wC.heap.size + 1, 0, none⟩) 2 2 hmo2 _ (hK.cln (cln_trans hcD h66)) (rd_deal2 row6 (hraD.cln h66))
  rw [lspM_check] at cK
  have x1 := g1.cell; have y1 := g1.lt
  have hg1 := Lib.hid g1
  have hr1D := Lib.hid (hr1'.cln hcy)
  have byH := Lib.hid by_
  clear row6 g1 hr1 hr1' hr2 by_ hraD
  go_wp2_with fail
  refine cK.mono ?_
  clear cK x1 y1
  rintro e wE ⟨rfl, hclE⟩
  have hEE := cln_trans h66 hclE
  have hall := cln_trans hcc hEE
  have kf := bf.out.cln hall
  have kx := bx.out.cln hall
  have kl := e3.out.cln hall
  have ky := byH.out.cln hEE
  have hrF := hrB.out.cln hall
  have hcv := conv_all hrF c
  have hcF := cln_trans hcD hEE
  have hrlF := hrdlB.out.cln hall
  have hrxF := hrLB.out.cln hall
  have hryF := hr1D.out.cln hEE
  have cS1 := lsame_any lspL ⟨7, [[lspA]]⟩ (some ⟨w.heap.size + 1 + 1, 0, none⟩) AL 1 1 nL cL hmo hmo (by omega) wE hrlF hrxF
  rw [show sameLot lspL ⟨7, [[lspA]]⟩ = true from sameLot_refl lspL] at cS1
  have xf := kf.cell; have yf := kf.lt; have xx := kx.cell; have yx := kx.lt; have xl := kl.cell; have yl := kl.lt
  clear hrF
  go_wp2_with (first | simp only [hcv] | simp only [hfe])
  refine cS1.mono ?_
  clear cS1 xf yf xx yx xl yl
  rintro e wG ⟨rfl, hclG⟩
  have jl := kl.cln hclG
  have jy := ky.cln hclG
  have xl := jl.cell; have yl := jl.lt; have xy := jy.cell; have yy := jy.lt
  have cS2 := lsame_any ⟨7, [[lspA]]⟩ lspL A1 (some ⟨w.heap.size + 1 + 1, 0, none⟩) 1 c1 1 1 hmo hmo (by omega) wG (hryF.cln hclG) (hrlF.cln hclG)
  rw [show sameLot ⟨7, [[lspA]]⟩ lspL = true from sameLot_refl lspL] at cS2
  go_wp2_with fail
  refine cS2.mono ?_
  clear cS2 xl yl xy yy
  rintro e wH ⟨rfl, hclH⟩
  go_wp2_with fail
  go_ret
  exact ⟨rfl, cln_trans hcF (cln_trans hclG hclH)⟩
end Go.Proofs.YtoeoodiifpoomaaGreatDoor
