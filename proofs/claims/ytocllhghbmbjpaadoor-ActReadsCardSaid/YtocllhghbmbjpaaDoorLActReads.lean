/- The law ActReads. (Printed by wip/tools/gen_lactr.py out of RecReads.) -/
import Derived.Test.YtocllhghbmbjpaaDoorWARead
import Derived.Test.YtocllhghbmbjpaaDoorWActSp
import Derived.Test.YtocllhghbmbjpaaDoorTripAct
import Derived.Deep.RegionWith
import Derived.BigQuiet
set_option linter.unusedSimpArgs false
set_option linter.unusedVariables false
set_option maxRecDepth 20000
namespace Go.Proofs.YtocllhghbmbjpaaDoor
open Go.RowKit Moi
attribute [local go_sem] toList_str str_size less_ltB store_float
theorem conv_actR {W : World} {A : Option Addr} {n : Nat} {bs : List UInt8} (h : RdBytes W A n bs) (c : Nat) : ∀ W', Cln W W' → (convert 38 9 (.slice A n c)).run Tryd.prog W' = .ok (.string (str bs)) W' :=
  fun W' k => conv_all (h.cln k) c
set_option maxHeartbeats 8000000 in
theorem lActReads (bs : List UInt8) (A : Option Addr) (n c : Nat) (w : World) (hK : KindsAt w) (hr : RdBytes w A n bs) (hc : n ≤ c) (hA : ∀ ad, A = some ad → ad.block < w.heap.size) :
    Calls Tryd.prog 6 #[.slice A n c] w fun e w' => e = .returned (.bool true) ∧ Cln w w' := by
  by_cases hbig : 2000 < n
  · have t1 : decide (2000 < (n : Int)) = true := decide_eq_true (by omega)
    clear hr hA
    go_enter Tryd.func6, Tryd.ntmps6
    go_wp2_with fail
    refine (speaks_act _ hK).mono ?_; rintro e w1 ⟨rfl, hq⟩
    go_wp2_with fail
    go_ret
    exact ⟨rfl, hq⟩
  have t1 : decide (2000 < (n : Int)) = false := decide_eq_false (by omega)
  have hn : n ≤ 140737488355328 := by omega
  replace hA := Lib.hid hA
  replace hr := Lib.hid hr
  go_enter Tryd.func6, Tryd.ntmps6
  go_wp2_with fail
  refine (speaks_act _ hK).mono ?_; rintro e w1 ⟨rfl, hq⟩
  have hr1 := Lib.hid (hr.out.cln hq)
  have hcl1 := Lib.hid hq
  have hs1 := hq.size
  have hK1 := Lib.hid (hK.cln hq)
  clear hr hq hK
  go_wp2_with fail
  rcases ho : readAct bs with ⟨r, er⟩
  obtain ⟨cd, at1⟩ := er
  refine (aread_any A n c bs w1 hK1.out hr1.out hc hn (fun ad e => by have := hA.out ad e; omega)).mono ?_
  rw [ho]
  rintro e w2 ⟨AL, nL, cL, rfl, hIL, hgeL, hwL, hn32, hq⟩
  rw [show actVal r AL nL cL = .agg #[.int .i64 r.kind, .string (str r.key), .int .i64 r.n, .float .f64 r.x, .string (str r.s), .int .i64 r.make.kind, .int .i64 r.make.num, .int .i64 r.make.low, .int .i64 r.make.high, .float .f64 r.make.real, .int .i64 r.make.cap, .string (str r.make.text), .slice AL nL cL, .bool r.must] from rfl, show faultAgg (cd, at1) = .agg #[.int .i64 (cd : Nat), .int .i64 (at1 : Nat)] from rfl]
  dsimp only at hIL hwL
  have hreal : r.make.real < 18446744073709551616 := hwL.make.real
  have hxx : r.x < 18446744073709551616 := hwL.x
  have hclX : Cln w2 ((w2.alloc (.cells #[.int .i64 r.kind, .string (str r.key), .int .i64 r.n, .float .f64 r.x, .string (str r.s), .int .i64 r.make.kind, .int .i64 r.make.num, .int .i64 r.make.low, .int .i64 r.make.high, .float .f64 r.make.real, .int .i64 r.make.cap, .string (str r.make.text), .slice AL nL cL, .bool r.must] 33)).alloc (.cells #[.int .i64 (cd : Nat), .int .i64 (at1 : Nat)] 41)) := by (repeat (first | (with_reducible exact Below.refl _ _) | (with_reducible assumption) | (with_reducible refine Below.setCell ?_ (by first | omega | (simp; done) | (simp; omega)) _) | (with_reducible refine Below.alloc ?_ (by first | omega | (simp; done) | (simp; omega)) _) | (with_reducible refine Below.drew ?_) | (with_reducible refine below_drewN ?_ _)))
  have hIL2 := Lib.hid (RdItems.cln hIL hclX)
  have hr2 := Lib.hid ((hr1.out.cln hq).cln hclX)
  have hcl2 := Lib.hid (cln_trans (cln_trans hcl1.out hq) hclX)
  have hK2 := Lib.hid ((hK1.out.cln hq).cln hclX)
  have hbL := Lib.hid ((Blk.new w2 33 #[.int .i64 r.kind, .string (str r.key), .int .i64 r.n, .float .f64 r.x, .string (str r.s), .int .i64 r.make.kind, .int .i64 r.make.num, .int .i64 r.make.low, .int .i64 r.make.high, .float .f64 r.make.real, .int .i64 r.make.cap, .string (str r.make.text), .slice AL nL cL, .bool r.must]).alloc (.cells #[.int .i64 (cd : Nat), .int .i64 (at1 : Nat)] 41))
  have hbF := Blk.new (w2.alloc (.cells #[.int .i64 r.kind, .string (str r.key), .int .i64 r.n, .float .f64 r.x, .string (str r.s), .int .i64 r.make.kind, .int .i64 r.make.num, .int .i64 r.make.low, .int .i64 r.make.high, .float .f64 r.make.real, .int .i64 r.make.cap, .string (str r.make.text), .slice AL nL cL, .bool r.must] 33)) 41 #[.int .i64 (cd : Nat), .int .i64 (at1 : Nat)]
  rw [World.size_alloc] at hbF
  replace hbF := Lib.hid hbF
  replace hwL := Lib.hid hwL
  have hsz2 : w1.heap.size ≤ w2.heap.size := hq.size
  replace ho := Lib.hid ho
  clear hIL hgeL hq hclX hr1 hcl1
  go_wp2_with fail
  refine (raread_any A n c bs _ hr2.out hc hn (fun ad e => by have := hA.out ad e; simp only [World.size_alloc]; omega)).mono ?_
  rw [ho.out]
  rintro e w3 ⟨AM, nM, cM, rfl, hIM, hm32, hq⟩
  dsimp only at hIM
  rw [show actVal r AM nM cM = .agg #[.int .i64 r.kind, .string (str r.key), .int .i64 r.n, .float .f64 r.x, .string (str r.s), .int .i64 r.make.kind, .int .i64 r.make.num, .int .i64 r.make.low, .int .i64 r.make.high, .float .f64 r.make.real, .int .i64 r.make.cap, .string (str r.make.text), .slice AM nM cM, .bool r.must] from rfl]
  have hclY : Cln w3 (w3.alloc (.cells #[.int .i64 r.kind, .string (str r.key), .int .i64 r.n, .float .f64 r.x, .string (str r.s), .int .i64 r.make.kind, .int .i64 r.make.num, .int .i64 r.make.low, .int .i64 r.make.high, .float .f64 r.make.real, .int .i64 r.make.cap, .string (str r.make.text), .slice AM nM cM, .bool r.must] 33)) := by (repeat (first | (with_reducible exact Below.refl _ _) | (with_reducible assumption) | (with_reducible refine Below.setCell ?_ (by first | omega | (simp; done) | (simp; omega)) _) | (with_reducible refine Below.alloc ?_ (by first | omega | (simp; done) | (simp; omega)) _) | (with_reducible refine Below.drew ?_) | (with_reducible refine below_drewN ?_ _)))
  have hqY := cln_trans hq hclY
  have hIL3 := Lib.hid (RdItems.cln hIL2.out hqY)
  have hr3 := Lib.hid (hr2.out.cln hqY)
  have hIM3 := Lib.hid (RdItems.cln hIM hclY)
  have hcl3 := Lib.hid (cln_trans hcl2.out hqY)
  have hK3 := Lib.hid (hK2.out.cln hqY)
  have hbL3 := hbL.out.cln hqY
  have hbF3 := hbF.out.cln hqY
  have hbM := Blk.new w3 33 #[.int .i64 r.kind, .string (str r.key), .int .i64 r.n, .float .f64 r.x, .string (str r.s), .int .i64 r.make.kind, .int .i64 r.make.num, .int .i64 r.make.low, .int .i64 r.make.high, .float .f64 r.make.real, .int .i64 r.make.cap, .string (str r.make.text), .slice AM nM cM, .bool r.must]
  have gF0 := hbF3.cell 0; have gF1 := hbF3.cell 1; have gL0 := hbL3.cell 0; have gL1 := hbL3.cell 1; have gL2 := hbL3.cell 2; have gL3 := hbL3.cell 3; have gL4 := hbL3.cell 4; have gL5 := hbL3.cell 5; have gL6 := hbL3.cell 6; have gL7 := hbL3.cell 7; have gL8 := hbL3.cell 8; have gL9 := hbL3.cell 9; have gL10 := hbL3.cell 10; have gL11 := hbL3.cell 11; have gL12 := hbL3.cell 12; have gL13 := hbL3.cell 13; have gM0 := hbM.cell 0; have gM1 := hbM.cell 1; have gM2 := hbM.cell 2; have gM3 := hbM.cell 3; have gM4 := hbM.cell 4; have gM5 := hbM.cell 5; have gM6 := hbM.cell 6; have gM7 := hbM.cell 7; have gM8 := hbM.cell 8; have gM9 := hbM.cell 9; have gM10 := hbM.cell 10; have gM11 := hbM.cell 11; have gM12 := hbM.cell 12; have gM13 := hbM.cell 13
  have lL := hbL3.lt; have lF := hbF3.lt; have lM := hbM.lt
  have t2 : (((cd : Nat) : Int) != ((cd : Nat) : Int)) = false := by simp
  have t3 : (((at1 : Nat) : Int) != ((at1 : Nat) : Int)) = false := by simp
  have hq3 : w2.heap.size + 2 ≤ w3.heap.size := by have := hq.size; simp only [World.size_alloc] at this; omega
  have hn1 : ¬ w2.heap.size = w3.heap.size := by omega
  have hn2 : ¬ w2.heap.size + 1 = w3.heap.size := by omega
  replace hbL3 := Lib.hid hbL3; replace hbF3 := Lib.hid hbF3; replace hbM := Lib.hid hbM
  clear hbL hbF hIL2 hr2 hcl2 hIM hq hclY hqY
  have cS : ∀ W : World, Cln (w3.alloc (.cells #[.int .i64 r.kind, .string (str r.key), .int .i64 r.n, .float .f64 r.x, .string (str r.s), .int .i64 r.make.kind, .int .i64 r.make.num, .int .i64 r.make.low, .int .i64 r.make.high, .float .f64 r.make.real, .int .i64 r.make.cap, .string (str r.make.text), .slice AM nM cM, .bool r.must] 33)) W → Calls Tryd.prog 22 #[.agg #[.int .i64 r.kind, .string (str r.key), .int .i64 r.n, .float .f64 r.x, .string (str r.s), .int .i64 r.make.kind, .int .i64 r.make.num, .int .i64 r.make.low, .int .i64 r.make.high, .float .f64 r.make.real, .int .i64 r.make.cap, .string (str r.make.text), .slice AL nL cL, .bool r.must], .agg #[.int .i64 r.kind, .string (str r.key), .int .i64 r.n, .float .f64 r.x, .string (str r.s), .int .i64 r.make.kind, .int .i64 r.make.num, .int .i64 r.make.low, .int .i64 r.make.high, .float .f64 r.make.real, .int .i64 r.make.cap, .string (str r.make.text), .slice AM nM cM, .bool r.must]] W fun e w' => e = .returned (.bool true) ∧ Cln W w' := fun W h => by
    have := rasame_any r r AL AM nL cL nM cM W (hIL3.out.cln h) (hIM3.out.cln h) (by omega) (by omega) hxx hxx hreal hreal
    rw [sameAct_refl] at this
    exact this
  go_wp2_with fail
  refine (cS _ (by (repeat (first | (with_reducible exact Below.refl _ _) | (with_reducible assumption) | (with_reducible refine Below.setCell ?_ (by first | omega | (simp; done) | (simp; omega)) _) | (with_reducible refine Below.alloc ?_ (by first | omega | (simp; done) | (simp; omega)) _) | (with_reducible refine Below.drew ?_) | (with_reducible refine below_drewN ?_ _))))).mono ?_
  rintro e w4 ⟨rfl, hq⟩
  have hbL4 := hbL3.out.cln (cln_trans (by (repeat (first | (with_reducible exact Below.refl _ _) | (with_reducible assumption) | (with_reducible refine Below.setCell ?_ (by first | omega | (simp; done) | (simp; omega)) _) | (with_reducible refine Below.alloc ?_ (by first | omega | (simp; done) | (simp; omega)) _) | (with_reducible refine Below.drew ?_) | (with_reducible refine below_drewN ?_ _)))) hq)
  clear gF0 gF1 gL0 gM0 gL1 gM1 gL2 gM2 gL3 gM3 gL4 gM4 gL5 gM5 gL6 gM6 gL7 gM7 gL8 gM8 gL9 gM9 gL10 gM10 gL11 gM11 gL12 gM12 gL13 gM13 lL lF lM cS
  have gL0 := hbL4.cell 0; have gL1 := hbL4.cell 1; have gL2 := hbL4.cell 2; have gL3 := hbL4.cell 3; have gL4 := hbL4.cell 4; have gL5 := hbL4.cell 5; have gL6 := hbL4.cell 6; have gL7 := hbL4.cell 7; have gL8 := hbL4.cell 8; have gL9 := hbL4.cell 9; have gL10 := hbL4.cell 10; have gL11 := hbL4.cell 11; have gL12 := hbL4.cell 12; have gL13 := hbL4.cell 13; have lL4 := hbL4.lt
  replace hbL4 := Lib.hid hbL4
  have hr4 := hr3.out.cln hq
  have hcl4 := Lib.hid (cln_trans hcl3.out hq)
  have hK4 := Lib.hid (hK3.out.cln hq)
  have hIL4 := Lib.hid (RdItems.cln hIL3.out hq)
  have hcv := conv_actR hr4 c
  clear hr3 hcl3 hIL3 hIM3 hbF3 hbM
  by_cases hz : cd = 0
  case neg =>
    have t4 : (((cd : Nat) : Int) != 0) = true := by rw [bne_iff_ne]; omega
    clear hcv
    go_wp2_with fail
    go_quiet (fail)
    all_goals
      (try go_wp2_with fail)
      go_ret
      exact ⟨rfl, cln_trans hcl4.out (by (repeat (first | (with_reducible exact Below.refl _ _) | (with_reducible assumption) | (with_reducible refine Below.setCell ?_ (by first | omega | (simp; done) | (simp; omega)) _) | (with_reducible refine Below.alloc ?_ (by first | omega | (simp; done) | (simp; omega)) _) | (with_reducible refine Below.drew ?_) | (with_reducible refine below_drewN ?_ _))))⟩
  have t4 : (((cd : Nat) : Int) != 0) = false := by rw [hz]; rfl
  obtain ⟨hck, hw, _⟩ := readAct_at ho.out hz
  have hrb : actBytes r = bs := by unfold actBytes; rw [if_pos hck]; exact hw
  have cB : ∀ W : World, Cln w4 W → Calls Tryd.prog 19 #[.agg #[.int .i64 r.kind, .string (str r.key), .int .i64 r.n, .float .f64 r.x, .string (str r.s), .int .i64 r.make.kind, .int .i64 r.make.num, .int .i64 r.make.low, .int .i64 r.make.high, .float .f64 r.make.real, .int .i64 r.make.cap, .string (str r.make.text), .slice AL nL cL, .bool r.must]] W fun e w' => ∃ A' c' m', e = .returned (.slice A' m' c') ∧ (∀ W', Cln w' W' → (convert 38 9 (.slice A' m' c')).run Tryd.prog W' = .ok (.string (str bs)) W') ∧ Cln W w' := fun W h => by
    refine (bytes_act r hwL.out AL nL cL (by omega) W (hK4.out.cln h) (hIL4.out.cln h)).mono ?_
    rintro e w' ⟨A', c', m', hm', rfl, hown, hq⟩
    rw [hrb] at hown
    exact ⟨A', c', m', rfl, conv_actR (newBytes_ok hown).1 c', hq⟩
  have hcur := Lib.hid (show Cln w4 w4.drew from Below.drew (Below.refl _ _))
  clear hwL ho hck hw hrb
  go_wp2_with fail
  go_region_with (first
      | (go_at_call 19; with_reducible refine (cB _ hcur.out).mono ?_; rintro e w' ⟨A', c', m', rfl, hva, hq⟩; have hcur := Lib.hid (cln_trans hcur.out hq))
      | simp only [hcv _ hcur.out]
      | simp only [hva _ (Below.refl _ _)])
  all_goals
    (try go_wp2_with fail)
    go_ret
    exact ⟨rfl, cln_trans hcl4.out hcur.out⟩
end Go.Proofs.YtocllhghbmbjpaaDoor
