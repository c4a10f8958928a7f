/- The law ActTakes. (Printed by wip/tools/gen_lactt.py.) -/
import Derived.Test.YtocllhghbmbjpaaDoorWActSp
import Derived.Test.YtocllhghbmbjpaaDoorWAct7
import Derived.Test.YtocllhghbmbjpaaDoorRowAct
import Derived.Deep.RegionWith
set_option linter.unusedSimpArgs false
set_option linter.unusedVariables false
set_option maxRecDepth 20000
namespace Go.Proofs.YtocllhghbmbjpaaDoor
open Go.RowKit Moi
attribute [local go_sem] toList_str str_size less_ltB store_float
set_option maxHeartbeats 8000000 in
theorem lActTakes (l : List MAct) (A : Option Addr) (n c : Nat) (w : World) (hK : KindsAt w) (hr : RdActs w A n l) :
    Calls Tryd.prog 8 #[.slice A n c] w fun e w' => e = .returned (.bool true) ∧ Cln w w' := by
  have hlen : Hid (l.length = n) := hr.len
  have hwfs : Hid (∀ i, i < n → (actAt l i).WF) := fun i hi => by
    obtain ⟨b, o, _, _, h⟩ := hr.rows (by omega)
    obtain ⟨Ai, ni, ci, hc⟩ := h i hi
    exact hc.wf
  go_enter Tryd.func8, Tryd.ntmps8
  go_wp2_with fail
  refine (speaks_act _ hK).mono ?_; rintro e w1 ⟨rfl, hq⟩
  have hr1 := Lib.hid hr
  have hcl1 := Lib.hid hq
  clear hr hq
  by_cases hn : n ≤ 20
  case neg =>
    have t1 : decide (20 < (n : Int)) = true := decide_eq_true (by omega)
    go_wp2_with fail
    go_ret
    exact ⟨rfl, hcl1.out⟩
  have t1 : decide (20 < (n : Int)) = false := decide_eq_false (by omega)
  have hW1 := Lib.hid (newWriter w1)
  have hcl2 := Lib.hid (cln_trans hcl1.out (show Cln w1 (w1.alloc (.cells #[.slice none 0 0] 50)) from by (repeat (first | (with_reducible exact Below.refl _ _) | (with_reducible assumption) | (with_reducible refine Below.setCell ?_ (by first | omega | (simp; done) | (simp; omega)) _) | (with_reducible refine Below.alloc ?_ (by first | omega | (simp; done) | (simp; omega)) _) | (with_reducible refine Below.drew ?_) | (with_reducible refine below_drewN ?_ _)))))
  have hge : w.heap.size ≤ w1.heap.size := hcl1.out.size
  go_wp2_with fail
  go_loopw [16] (fun v wr => ∃ i : Nat, i ≤ n ∧ v = .int .i64 (i : Nat) ∧ Hid (Cln w wr) ∧ Hid (w1.heap.size < wr.heap.size) ∧ Hid (IsW wr w1.heap.size w1.heap.size (catActs (l.take i))) ∧ Hid (∀ j, j < i → checkAct (actAt l j) = 0)) (fun v _ => (n - intOf v).toNat)
  case atStart => exact ⟨0, Nat.zero_le _, rfl, Lib.hid (cln_trans hcl2.out (by (repeat (first | (with_reducible exact Below.refl _ _) | (with_reducible assumption) | (with_reducible refine Below.setCell ?_ (by first | omega | (simp; done) | (simp; omega)) _) | (with_reducible refine Below.alloc ?_ (by first | omega | (simp; done) | (simp; omega)) _) | (with_reducible refine Below.drew ?_) | (with_reducible refine below_drewN ?_ _))))), Lib.hid (by simp), Lib.hid (by simpa [catActs] using hW1.out.cln (by (repeat (first | (with_reducible exact Below.refl _ _) | (with_reducible assumption) | (with_reducible refine Below.setCell ?_ (by first | omega | (simp; done) | (simp; omega)) _) | (with_reducible refine Below.alloc ?_ (by first | omega | (simp; done) | (simp; omega)) _) | (with_reducible refine Below.drew ?_) | (with_reducible refine below_drewN ?_ _))))), fun j hj => by omega⟩
  case round =>
    clear hW1 hcl2
    obtain ⟨i, hi, rfl, hcl, hsz, hW, hck⟩ := hrel
    by_cases hlt : i < n
    · obtain ⟨b, o, rfl, hblt, hcell⟩ := hr1.out.rows (by omega)
      obtain ⟨Ai, ni, ci, hc0⟩ := hcell i hlt
      clear hcell
      have hc := hc0.cln hcl.out
      have hItlo : Hid (0 < ni → ∀ ad, Ai = some ad → ad.block < w1.heap.size) := fun h0 ad e => by
        have := hc0.it.lo h0 ad e; omega
      have hwf := Lib.hid hc0.wf
      clear hc0
      have hblt2 : b < wr.heap.size := by have := hcl.out.size; omega
      generalize hrr : actAt l i = r at hc hwf
      have f0 := hc.c0; have f1 := hc.c1; have f2 := hc.c2; have f3 := hc.c3; have f4 := hc.c4; have f5 := hc.c5; have f6 := hc.c6; have f7 := hc.c7; have f8 := hc.c8; have f9 := hc.c9; have f10 := hc.c10; have f11 := hc.c11; have f12 := hc.c12; have f13 := hc.c13
      have hit := Lib.hid hc.it
      clear hc
      have hrr := Lib.hid hrr
      go_wp2_with fail
      refine (bigA_any r Ai ni ci _ (hit.out.cln (by (repeat (first | (with_reducible exact Below.refl _ _) | (with_reducible assumption) | (with_reducible refine Below.setCell ?_ (by first | omega | (simp; done) | (simp; omega)) _) | (with_reducible refine Below.alloc ?_ (by first | omega | (simp; done) | (simp; omega)) _) | (with_reducible refine Below.drew ?_) | (with_reducible refine below_drewN ?_ _)))))).mono ?_; rintro e w3 ⟨rfl, hq⟩
      clear f0 f1 f2 f3 f4 f5 f6 f7 f8 f9 f10 f11 f12 f13
      have hk3 : Cln wr w3 := cln_trans (by (repeat (first | (with_reducible exact Below.refl _ _) | (with_reducible assumption) | (with_reducible refine Below.setCell ?_ (by first | omega | (simp; done) | (simp; omega)) _) | (with_reducible refine Below.alloc ?_ (by first | omega | (simp; done) | (simp; omega)) _) | (with_reducible refine Below.drew ?_) | (with_reducible refine below_drewN ?_ _)))) hq
      have hb3 := (Blk.new wr 33 #[.int .i64 r.kind, .string (str r.key), .int .i64 r.n, .float .f64 r.x, .string (str r.s), .int .i64 r.make.kind, .int .i64 r.make.num, .int .i64 r.make.low, .int .i64 r.make.high, .float .f64 r.make.real, .int .i64 r.make.cap, .string (str r.make.text), .slice Ai ni ci, .bool r.must]).cln hq
      have hit3 := Lib.hid (hit.out.cln hk3)
      have hW3 := Lib.hid (hW.out.cln hk3)
      have hcl3 := Lib.hid (cln_trans hcl.out hk3)
      have hsz3 : w1.heap.size < w3.heap.size := by have := hk3.size; have := hsz.out; omega
      have hge3 : w1.heap.size < wr.heap.size := hsz.out
      clear hq hk3 hit hW hcl hsz hblt hblt2
      rcases bigA_or r with hbig | hbig
      case inr =>
        rw [hbig]
        go_wp2_with fail
        go_ret
        exact ⟨rfl, hcl3.out⟩
      rw [hbig]
      have hnl := hit3.out.len
      have hn100 : ni ≤ 100 := by have := (bigN_le r.make (bigA_le hbig).2.2).1; omega
      clear hbig hnl
      have f0 := hb3.cell 0; have f1 := hb3.cell 1; have f2 := hb3.cell 2; have f3 := hb3.cell 3; have f4 := hb3.cell 4; have f5 := hb3.cell 5; have f6 := hb3.cell 6; have f7 := hb3.cell 7; have f8 := hb3.cell 8; have f9 := hb3.cell 9; have f10 := hb3.cell 10; have f11 := hb3.cell 11; have f12 := hb3.cell 12; have f13 := hb3.cell 13
      have hb3 := Lib.hid hb3
      go_wp2_with fail
      refine (racheck_any r Ai ni ci (by omega) hwf.out _ hit3.out).mono ?_; rintro e w4 ⟨rfl, hq⟩
      clear f0 f1 f2 f3 f4 f5 f6 f7 f8 f9 f10 f11 f12 f13
      have hb4 := hb3.out.cln hq
      have hit4 := Lib.hid (hit3.out.cln hq)
      have hW4 := Lib.hid (hW3.out.cln hq)
      have hcl4 := Lib.hid (cln_trans hcl3.out hq)
      have hsz4 : w1.heap.size < w4.heap.size := by have := hq.size; omega
      clear hq hit3 hW3 hcl3 hsz3 hb3
      by_cases hca : checkAct r = 0
      case neg =>
        have t3 : (((checkAct r : Nat) : Int) != 0) = true := by rw [bne_iff_ne]; omega
        go_wp2_with fail
        go_ret
        exact ⟨rfl, hcl4.out⟩
      have t3 : (((checkAct r : Nat) : Int) != 0) = false := by rw [hca]; rfl
      have hcaH := Lib.hid hca
      clear hca
      have hck' : Hid (∀ j, j < i + 1 → checkAct (actAt l j) = 0) := fun j hj => by
        rcases Nat.lt_or_ge j i with h | h
        · exact hck.out j h
        · obtain rfl : j = i := by omega
          rw [hrr.out]; exact hcaH.out
      have hbnd : (catActs (l.take i)).length + (wAct r).length ≤ 1099511627776 := by
        have h1 := catA_len (l.take i) (fun j hj => by
          rw [List.length_take] at hj
          have e : actAt (l.take i) j = actAt l j := by simp [actAt, List.getD, List.getElem?_take_of_lt (show j < i from by omega)]
          rw [e]; exact ⟨hck.out j (by omega), hwfs.out j (by omega)⟩)
        have h2 := wAct_len hcaH.out hwf.out
        rw [List.length_take] at h1
        omega
      have hcat : Hid (catActs (l.take (i + 1)) = catActs (l.take i) ++ wAct r) := by unfold Hid; rw [catActs_take l i (by rw [hlen.out]; exact hlt), hrr.out]
      have f0 := hb4.cell 0; have f1 := hb4.cell 1; have f2 := hb4.cell 2; have f3 := hb4.cell 3; have f4 := hb4.cell 4; have f5 := hb4.cell 5; have f6 := hb4.cell 6; have f7 := hb4.cell 7; have f8 := hb4.cell 8; have f9 := hb4.cell 9; have f10 := hb4.cell 10; have f11 := hb4.cell 11; have f12 := hb4.cell 12; have f13 := hb4.cell 13
      have hb4 := Lib.hid hb4
      go_wp2_with fail
      refine (awrite_any w1.heap.size w1.heap.size (catActs (l.take i)) r hcaH.out hwf.out Ai ni ci (by omega) _ (hK.cln (cln_trans hcl4.out (by (repeat (first | (with_reducible exact Below.refl _ _) | (with_reducible assumption) | (with_reducible refine Below.setCell ?_ (by first | omega | (simp; done) | (simp; omega)) _) | (with_reducible refine Below.alloc ?_ (by first | omega | (simp; done) | (simp; omega)) _) | (with_reducible refine Below.drew ?_) | (with_reducible refine below_drewN ?_ _)))))) (hW4.out.cln (by (repeat (first | (with_reducible exact Below.refl _ _) | (with_reducible assumption) | (with_reducible refine Below.setCell ?_ (by first | omega | (simp; done) | (simp; omega)) _) | (with_reducible refine Below.alloc ?_ (by first | omega | (simp; done) | (simp; omega)) _) | (with_reducible refine Below.drew ?_) | (with_reducible refine below_drewN ?_ _))))) (hit4.out.cln (by (repeat (first | (with_reducible exact Below.refl _ _) | (with_reducible assumption) | (with_reducible refine Below.setCell ?_ (by first | omega | (simp; done) | (simp; omega)) _) | (with_reducible refine Below.alloc ?_ (by first | omega | (simp; done) | (simp; omega)) _) | (with_reducible refine Below.drew ?_) | (with_reducible refine below_drewN ?_ _))))) hItlo.out hbnd).mono ?_
      rintro e w5 ⟨rfl, hW5, hK5⟩
      clear f0 f1 f2 f3 f4 f5 f6 f7 f8 f9 f10 f11 f12 f13
      have hcl5 := Lib.hid (show Cln w w5 from hcl4.out.trans (Below.mono (WS_below hK5 (Nat.le_refl _) (by omega)) hge))
      have hsz5 : Hid (w1.heap.size < w5.heap.size) := by unfold Hid; have := hK5.size; omega
      rw [← hcat.out] at hW5
      have hW5 := Lib.hid hW5
      clear hK5 hW4 hit4 hb4 hcl4
      go_wp2_with fail
      go_roundw
      case rel => exact ⟨i + 1, hlt, by go_num, hcl5, hsz5, hW5, hck'⟩
      case measure => simp [intOf]; omega
    · obtain rfl : i = n := by omega
      have t2 : decide ((i : Int) < (i : Int)) = false := decide_eq_false (by omega)
      rw [List.take_of_length_le (by rw [hlen.out]; exact Nat.le_refl _)] at hW
      have hall : Hid (∀ j, j < l.length → checkAct (actAt l j) = 0 ∧ (actAt l j).WF) := fun j hj => ⟨hck.out j (by rw [hlen.out] at hj; exact hj), hwfs.out j (by rw [hlen.out] at hj; exact hj)⟩
      have hbl : (catActs l).length ≤ 28000 := by have := catA_len l hall.out; rw [hlen.out] at this; omega
      clear hck
      go_wp2_with fail
      refine (bytes_any _ _ _ _ hW.out (by omega)).mono ?_
      rintro e w6 ⟨A', c', m, hm, rfl, hown, hq⟩
      obtain ⟨hrd, hnc, hmm, hA'⟩ := newBytes_ok hown
      have hmb : m ≤ 28000 := by omega
      replace hmm := Lib.hid hmm
      have hcl6 := Lib.hid (cln_trans hcl.out hq)
      have hge6 : w.heap.size ≤ w6.heap.size := hcl6.out.size
      clear hown hq hW hcl hsz hm
      go_wp2_with fail
      refine (new_any A' m c' _ w6 hrd hnc (by omega) (fun ad e => (hA' ad e).1)).mono ?_
      rintro e w7 ⟨rfl, hR, hq⟩
      have hcl7 := Lib.hid (cln_trans hcl6.out hq)
      have hsz7 : w6.heap.size < w7.heap.size := hR.blk.lt
      have hA7 : Hid (∀ ad, A' = some ad → ad.block < w6.heap.size) := fun ad e => (hA' ad e).1
      have hR := Lib.hid hR
      clear hrd hA' hq hcl6
      go_wp2_with fail
      go_loopw [35] (fun v wr => ∃ j : Nat, j ≤ i ∧ v = .int .i64 (j : Nat) ∧ Hid (Cln w wr) ∧ Hid (w6.heap.size < wr.heap.size) ∧ Hid (IsR wr w6.heap.size A' m c' (catActs l) (catActs (l.take j)).length)) (fun v _ => (i - intOf v).toNat)
      case atStart => exact ⟨0, Nat.zero_le _, rfl, Lib.hid (cln_trans hcl7.out (by (repeat (first | (with_reducible exact Below.refl _ _) | (with_reducible assumption) | (with_reducible refine Below.setCell ?_ (by first | omega | (simp; done) | (simp; omega)) _) | (with_reducible refine Below.alloc ?_ (by first | omega | (simp; done) | (simp; omega)) _) | (with_reducible refine Below.drew ?_) | (with_reducible refine below_drewN ?_ _))))), Lib.hid hsz7, Lib.hid (by simpa [catActs] using hR.out.cln (by (repeat (first | (with_reducible exact Below.refl _ _) | (with_reducible assumption) | (with_reducible refine Below.setCell ?_ (by first | omega | (simp; done) | (simp; omega)) _) | (with_reducible refine Below.alloc ?_ (by first | omega | (simp; done) | (simp; omega)) _) | (with_reducible refine Below.drew ?_) | (with_reducible refine below_drewN ?_ _)))))⟩
      case round =>
        clear hR hcl7 hsz7
        obtain ⟨j, hj, rfl, hcl, hsz, hR⟩ := hrel
        by_cases hlt : j < i
        · obtain ⟨b, o, rfl, hblt, hcell⟩ := hr1.out.rows (by omega)
          obtain ⟨Ai, ni, ci, hc0⟩ := hcell j hlt
          clear hcell
          have hc := hc0.cln hcl.out
          have hItlo : Hid (0 < ni → ∀ ad, Ai = some ad → ad.block < w.heap.size) := fun h0 ad e => hc0.it.lo h0 ad e
          have hwf := Lib.hid hc0.wf
          have hxf := Lib.hid hc0.full
          have hblt2 : b < wr.heap.size := by have := hcl.out.size; omega
          have hca := Lib.hid (hall.out j (by rw [hlen.out]; exact hlt)).1
          have hat := catActs_at l j (by rw [hlen.out]; exact hlt)
          have htk := Lib.hid (catActs_take l j (by rw [hlen.out]; exact hlt))
          generalize hrr : actAt l j = r at hc hwf hxf hca hat htk
          clear hrr hc0
          have hrd := Lib.hid (rAct_of hca.out hxf.out hat)
          clear hat
          have f0 := hc.c0; have f1 := hc.c1; have f2 := hc.c2; have f3 := hc.c3; have f4 := hc.c4; have f5 := hc.c5; have f6 := hc.c6; have f7 := hc.c7; have f8 := hc.c8; have f9 := hc.c9; have f10 := hc.c10; have f11 := hc.c11; have f12 := hc.c12; have f13 := hc.c13
          have hit := hc.it
          clear hc
          have hreal := hwf.out.make.real; have hrx := hwf.out.x
          have hn32 : ni ≤ 32 := by have := act_list hca.out; have := hit.len; omega
          have hsz' : w6.heap.size < wr.heap.size := hsz.out
          have hbx := Blk.new wr 33 #[.int .i64 r.kind, .string (str r.key), .int .i64 r.n, .float .f64 r.x, .string (str r.s), .int .i64 r.make.kind, .int .i64 r.make.num, .int .i64 r.make.low, .int .i64 r.make.high, .float .f64 r.make.real, .int .i64 r.make.cap, .string (str r.make.text), .slice Ai ni ci, .bool r.must]
          have hit2 := Lib.hid (hit.cln (show Cln wr (wr.alloc (.cells #[.int .i64 r.kind, .string (str r.key), .int .i64 r.n, .float .f64 r.x, .string (str r.s), .int .i64 r.make.kind, .int .i64 r.make.num, .int .i64 r.make.low, .int .i64 r.make.high, .float .f64 r.make.real, .int .i64 r.make.cap, .string (str r.make.text), .slice Ai ni ci, .bool r.must] 33)) from by (repeat (first | (with_reducible exact Below.refl _ _) | (with_reducible assumption) | (with_reducible refine Below.setCell ?_ (by first | omega | (simp; done) | (simp; omega)) _) | (with_reducible refine Below.alloc ?_ (by first | omega | (simp; done) | (simp; omega)) _) | (with_reducible refine Below.drew ?_) | (with_reducible refine below_drewN ?_ _)))))
          have hR2 := Lib.hid (hR.out.alloc (.cells #[.int .i64 r.kind, .string (str r.key), .int .i64 r.n, .float .f64 r.x, .string (str r.s), .int .i64 r.make.kind, .int .i64 r.make.num, .int .i64 r.make.low, .int .i64 r.make.high, .float .f64 r.make.real, .int .i64 r.make.cap, .string (str r.make.text), .slice Ai ni ci, .bool r.must] 33))
          have hcl2 := Lib.hid (cln_trans hcl.out (show Cln wr (wr.alloc (.cells #[.int .i64 r.kind, .string (str r.key), .int .i64 r.n, .float .f64 r.x, .string (str r.s), .int .i64 r.make.kind, .int .i64 r.make.num, .int .i64 r.make.low, .int .i64 r.make.high, .float .f64 r.make.real, .int .i64 r.make.cap, .string (str r.make.text), .slice Ai ni ci, .bool r.must] 33)) from by (repeat (first | (with_reducible exact Below.refl _ _) | (with_reducible assumption) | (with_reducible refine Below.setCell ?_ (by first | omega | (simp; done) | (simp; omega)) _) | (with_reducible refine Below.alloc ?_ (by first | omega | (simp; done) | (simp; omega)) _) | (with_reducible refine Below.drew ?_) | (with_reducible refine below_drewN ?_ _)))))
          have hK0 : ∀ W : World, Hid (Kept (· = w6.heap.size) (wr.alloc (.cells #[.int .i64 r.kind, .string (str r.key), .int .i64 r.n, .float .f64 r.x, .string (str r.s), .int .i64 r.make.kind, .int .i64 r.make.num, .int .i64 r.make.low, .int .i64 r.make.high, .float .f64 r.make.real, .int .i64 r.make.cap, .string (str r.make.text), .slice Ai ni ci, .bool r.must] 33)).drew W) → RdItems W Ai ni r.make.list ∧ Blk W wr.heap.size 33 #[.int .i64 r.kind, .string (str r.key), .int .i64 r.n, .float .f64 r.x, .string (str r.s), .int .i64 r.make.kind, .int .i64 r.make.num, .int .i64 r.make.low, .int .i64 r.make.high, .float .f64 r.make.real, .int .i64 r.make.cap, .string (str r.make.text), .slice Ai ni ci, .bool r.must] ∧ Cln w W ∧ w6.heap.size < W.heap.size := fun W k => by
            have k' := k.out
            have hge := hge6
            refine ⟨(hit2.out.cln (Below.drew (Below.refl _ _))).kept0 k' (fun h0 ad e hl hh => ?_), hbx.drew.kept k' ?_, (Below.drew hcl2.out).trans (k'.toBelow (B := w.heap.size) ?_ ?_), ?_⟩
            · have h1 := hItlo.out h0 ad e
              have h2 : ad.block = w6.heap.size := hh
              omega
            · intro h2
              have h2 : wr.heap.size = w6.heap.size := h2
              omega
            · have := hcl2.out.size; simpa using this
            · intro q hq1 hq2
              have h2 : q = w6.heap.size := hq2
              omega
            · have := k'.size; simp at this; omega
          have cT : Calls Tryd.prog 28 #[.pointer (some ⟨w6.heap.size, 0, none⟩)] (wr.alloc (.cells #[.int .i64 r.kind, .string (str r.key), .int .i64 r.n, .float .f64 r.x, .string (str r.s), .int .i64 r.make.kind, .int .i64 r.make.num, .int .i64 r.make.low, .int .i64 r.make.high, .float .f64 r.make.real, .int .i64 r.make.cap, .string (str r.make.text), .slice Ai ni ci, .bool r.must] 33)).drew fun e w' => ∃ (q : MAct) (A3 : Option Addr) (n3 c3 : Nat), e = .returned (.agg #[.int .i64 q.kind, .string (str q.key), .int .i64 q.n, .float .f64 q.x, .string (str q.s), .int .i64 q.make.kind, .int .i64 q.make.num, .int .i64 q.make.low, .int .i64 q.make.high, .float .f64 q.make.real, .int .i64 q.make.cap, .string (str q.make.text), .slice A3 n3 c3, .bool q.must]) ∧ Hid (sameAct q r = true ∧ q.WF) ∧ Hid (RdItems w' A3 n3 q.make.list) ∧ n3 ≤ 32 ∧ Hid (IsR w' w6.heap.size A' m c' (catActs l) (catActs (l.take (j + 1))).length) ∧ Hid (Kept (· = w6.heap.size) (wr.alloc (.cells #[.int .i64 r.kind, .string (str r.key), .int .i64 r.n, .float .f64 r.x, .string (str r.s), .int .i64 r.make.kind, .int .i64 r.make.num, .int .i64 r.make.low, .int .i64 r.make.high, .float .f64 r.make.real, .int .i64 r.make.cap, .string (str r.make.text), .slice Ai ni ci, .bool r.must] 33)).drew w') := by
            refine (atake_any w6.heap.size A' m c' (catActs l) _ _ hR2.out.drew (fun ad e => by have := hA7.out ad e; simp; omega) (hK.cln (Below.drew hcl2.out))).mono ?_
            intro e w' h
            rw [hrd.out] at h
            obtain ⟨v, rfl, ⟨A3, n3, c3, rfl, h1, h2, h3, h4⟩, hR3, hK3⟩ := h
            refine ⟨norm r, A3, n3, c3, rfl, ⟨norm_same r hca.out, h3⟩, h1, h4, ?_, hK3⟩
            rw [htk.out, List.length_append]; exact hR3
          have cS : ∀ (W : World) (q : MAct) (A3 : Option Addr) (n3 c3 : Nat), Hid (sameAct q r = true ∧ q.WF) → Hid (RdItems W A3 n3 q.make.list) → n3 ≤ 32 → RdItems W Ai ni r.make.list → Calls Tryd.prog 22 #[.agg #[.int .i64 q.kind, .string (str q.key), .int .i64 q.n, .float .f64 q.x, .string (str q.s), .int .i64 q.make.kind, .int .i64 q.make.num, .int .i64 q.make.low, .int .i64 q.make.high, .float .f64 q.make.real, .int .i64 q.make.cap, .string (str q.make.text), .slice A3 n3 c3, .bool q.must], .agg #[.int .i64 r.kind, .string (str r.key), .int .i64 r.n, .float .f64 r.x, .string (str r.s), .int .i64 r.make.kind, .int .i64 r.make.num, .int .i64 r.make.low, .int .i64 r.make.high, .float .f64 r.make.real, .int .i64 r.make.cap, .string (str r.make.text), .slice Ai ni ci, .bool r.must]] W fun e w' => e = .returned (.bool true) ∧ Cln W w' := fun W q A3 n3 c3 h0 h1 h2 h3 => by
            have := rasame_any q r A3 Ai n3 c3 ni ci W h1.out h3 (by omega) (by omega) h0.out.2.x hrx h0.out.2.make.real hreal
            rw [h0.out.1] at this
            exact this
          have g0 := hbx.cell
          clear hit hwf hxf hca hR hrd
          go_wp2_with fail
          go_region_with (first
            | (go_at_call 28; with_reducible refine cT.mono ?_; rintro e w' ⟨q, A3, n3, c3, rfl, hq3, hi3, hn3, hR3, hK3⟩; obtain ⟨hit4, hbx4, hcl4, hsz4⟩ := hK0 _ hK3; have g1 := hbx4.cell)
            | (go_at_call 22; with_reducible refine (cS _ _ _ _ _ hq3 hi3 hn3 hit4).mono ?_; rintro e w9 ⟨rfl, hq9⟩))
          all_goals
            go_wp2_with fail
            go_roundw
            case rel => exact ⟨j + 1, hlt, by go_num, Lib.hid (cln_trans hcl4 hq9), Lib.hid (by have := hq9.size; omega), Lib.hid (hR3.out.cln hq9)⟩
            case measure => simp [intOf]; omega
        · obtain rfl : j = i := by omega
          have t2 : decide ((j : Int) < (j : Int)) = false := decide_eq_false (by omega)
          rw [List.take_of_length_le (by rw [hlen.out]; exact Nat.le_refl _), ← hmm.out] at hR
          have hz : (((m : Int) - ((m : Nat) : Int)) == 0) = true := by rw [beq_iff_eq]; omega
          have hz0 : (m : Int) - ((m : Nat) : Int) = 0 := by omega
          go_wp2_with fail
          refine (left_any _ A' m c' _ _ _ hR.out).mono ?_
          rintro e w9 ⟨rfl, k, rfl⟩
          rw [hz0]
          go_wp2_with fail
          go_ret
          exact ⟨rfl, below_drewN hcl.out _⟩
end Go.Proofs.YtocllhghbmbjpaaDoor
