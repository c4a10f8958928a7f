/- The walk of the document's Meet of deals. (Printed by wip/tools/gen_dealrm.py.) -/
import Derived.Test.YtoeoodiifpoomaaGreatDoorDeals
import Derived.BigRegion
set_option linter.unusedSimpArgs false
set_option linter.unusedVariables false
set_option maxRecDepth 20000
namespace Go.Proofs.YtoeoodiifpoomaaGreatDoor
open Go.RowKit Moi
attribute [local go_sem] toList_str str_size less_ltB store_float
set_option maxHeartbeats 8000000 in
theorem rmeet_any (l m : List MAct) (but : List (List UInt8)) (A B C : Option Addr) (n c k d q e0 : Nat) (hn : n ≤ 140737488355328) (hk : k ≤ 140737488355328) (hq0 : q ≤ 140737488355328) (w : World) (hr : RdActs w A n l) (hs : RdActs w B k m) (hS : RdStrs w C q but) :
  Calls Tryz.prog 37 #[.agg #[.slice A n c], .agg #[.slice B k d], .slice C q e0] w fun e w' => e = .returned (.bool (meetB l m but)) ∧ Cln w w' := by
 have hll := hr.len
 have hml := hs.len
 have hcl0 : Cln w ((w.alloc (.cells #[.slice A n c] 48)).alloc (.cells #[.slice B k d] 48)) := by (repeat with_reducible first | exact cR _ | assumption | refine cA ?_ _ | refine cD ?_ | refine cN ?_ _ | refine cS ?_ (by first | omega | (simp <;> omega)) _)
 have hb1 := Lib.hid ((Blk.new w 48 #[.slice A n c]).alloc (.cells #[.slice B k d] 48))
 have hb2 := Blk.new (w.alloc (.cells #[.slice A n c] 48)) 48 #[.slice B k d]
 rw [World.size_alloc] at hb2
 replace hb2 := Lib.hid hb2
 have s1 : w.heap.size + 1 < ((w.alloc (.cells #[.slice A n c] 48)).alloc (.cells #[.slice B k d] 48)).heap.size := hb2.out.lt
 go_enter Tryz.func37, Tryz.ntmps37
 go_wp2_with fail
 have hB : Hid (Cln ((w.alloc (.cells #[.slice A n c] 48)).alloc (.cells #[.slice B k d] 48)) ((w.alloc (.cells #[.slice A n c] 48)).alloc (.cells #[.slice B k d] 48))) := Below.refl _ _
 generalize ((w.alloc (.cells #[.slice A n c] 48)).alloc (.cells #[.slice B k d] 48)) = w1 at hb1 hb2 hcl0 hB s1
 go_loopw [7] (fun v wr => ∃ i : Nat, i ≤ n ∧ v = .int .i64 (i : Nat) ∧ Hid (Cln w1 wr) ∧ Hid (meetB l m but = (((l.drop i).any fun a => m.any fun b => meetsA but a b) || (rosterB l && rosterB m)))) (fun v _ => (n - intOf v).toNat)
 case atStart => exact ⟨0, Nat.zero_le _, rfl, hB, rfl⟩
 case round =>
  clear hB
  obtain ⟨i, hi, rfl, hcl1, hH⟩ := hrel
  have hcl := Lib.hid (cln_trans hcl0 hcl1.out)
  have u1 := (hb1.out.cln hcl1.out).cell 0
  have l1 := (hb1.out.cln hcl1.out).lt
  by_cases hlt : i < n
  ·have t3 : decide ((i : Int) < (n : Int)) = true := decide_eq_true (by omega)
   have hstep : Hid (meetB l m but = ((((m.drop 0).any (meetsA but (actAt l i))) || (l.drop (i + 1)).any fun a => m.any fun b => meetsA but a b) || (rosterB l && rosterB m))) := by unfold Hid; rw [hH.out, anyany_step _ l m i (by omega)]; rfl
   clear hH
   go_wp2_with fail
   clear u1 l1
   go_loopw [8] (fun v wr => ∃ j : Nat, j ≤ k ∧ v = .int .i64 (j : Nat) ∧ Hid (Cln w1 wr) ∧ Hid (meetB l m but = ((((m.drop j).any (meetsA but (actAt l i))) || (l.drop (i + 1)).any fun a => m.any fun b => meetsA but a b) || (rosterB l && rosterB m)))) (fun v _ => (k - intOf v).toNat)
   case atStart => exact ⟨0, Nat.zero_le _, rfl, hcl1, hstep⟩
   case round =>
    clear hstep hcl hcl1
    obtain ⟨j, hj, rfl, hcl1, hH⟩ := hrel
    have hcl := Lib.hid (cln_trans hcl0 hcl1.out)
    have u1 := (hb1.out.cln hcl1.out).cell 0; have u2 := (hb2.out.cln hcl1.out).cell 0
    have l1 := (hb1.out.cln hcl1.out).lt; have l2 := (hb2.out.cln hcl1.out).lt
    by_cases hlt2 : j < k
    ·have t4 : decide ((j : Int) < (k : Int)) = true := decide_eq_true (by omega)
     have hst : Hid (meetB l m but = (((meetsA but (actAt l i) (actAt m j) || (m.drop (j + 1)).any (meetsA but (actAt l i))) || (l.drop (i + 1)).any fun a => m.any fun b => meetsA but a b) || (rosterB l && rosterB m))) := by unfold Hid; rw [hH.out, any_step _ m j (by omega)]
     clear hH
     obtain ⟨bx, ox, rfl, hbltx, hcellx⟩ := hr.rows (by omega)
     obtain ⟨Ax, nx, cx, hc0x⟩ := hcellx i (by omega)
     clear hcellx
     have hcx := hc0x.cln hcl.out
     have hblt2x : bx < wr.heap.size := by have := hcl.out.size; omega
     clear hc0x
     generalize actAt l i = x at hcx hst
     have f0 := hcx.c0; have f1 := hcx.c1; have f2 := hcx.c2; have f3 := hcx.c3; have f4 := hcx.c4; have f5 := hcx.c5; have f6 := hcx.c6; have f7 := hcx.c7; have f8 := hcx.c8; have f9 := hcx.c9; have f10 := hcx.c10; have f11 := hcx.c11; have f12 := hcx.c12; have f13 := hcx.c13
     obtain ⟨bz, oz, rfl, hbltz, hcellz⟩ := hs.rows (by omega)
     obtain ⟨Az, nz, cz, hc0z⟩ := hcellz j (by omega)
     clear hcellz
     have hcz := hc0z.cln hcl.out
     have hblt2z : bz < wr.heap.size := by have := hcl.out.size; omega
     clear hc0z
     generalize actAt m j = y at hcz hst
     have g0 := hcz.c0; have g1 := hcz.c1; have g2 := hcz.c2; have g3 := hcz.c3; have g4 := hcz.c4; have g5 := hcz.c5; have g6 := hcz.c6; have g7 := hcz.c7; have g8 := hcz.c8; have g9 := hcz.c9; have g10 := hcz.c10; have g11 := hcz.c11; have g12 := hcz.c12; have g13 := hcz.c13
     clear hcx hcz
     have hxy : ¬ wr.heap.size = wr.heap.size + 1 := by omega
     have hyx : ¬ wr.heap.size + 1 = wr.heap.size := by omega
     go_wp2_with fail
     go_region
     ·have hw : Cln wr ((wr.alloc (.cells #[.int .i64 x.kind, .string (str x.key), .int .i64 x.n, .float .f64 x.x, .string (str x.s), .int .i64 x.make.kind, .int .i64 x.make.num, .int .i64 x.make.low, .int .i64 x.make.high, .float .f64 x.make.real, .int .i64 x.make.cap, .string (str x.make.text), .slice Ax nx cx, .bool x.must] 90)).alloc (.cells #[.int .i64 y.kind, .string (str y.key), .int .i64 y.n, .float .f64 y.x, .string (str y.s), .int .i64 y.make.kind, .int .i64 y.make.num, .int .i64 y.make.low, .int .i64 y.make.high, .float .f64 y.make.real, .int .i64 y.make.cap, .string (str y.make.text), .slice Az nz cz, .bool y.must] 90)).drew := by (repeat with_reducible first | exact cR _ | assumption | refine cA ?_ _ | refine cD ?_ | refine cN ?_ _ | refine cS ?_ (by first | omega | (simp <;> omega)) _)
      have hclY : Hid (Cln w ((wr.alloc (.cells #[.int .i64 x.kind, .string (str x.key), .int .i64 x.n, .float .f64 x.x, .string (str x.s), .int .i64 x.make.kind, .int .i64 x.make.num, .int .i64 x.make.low, .int .i64 x.make.high, .float .f64 x.make.real, .int .i64 x.make.cap, .string (str x.make.text), .slice Ax nx cx, .bool x.must] 90)).alloc (.cells #[.int .i64 y.kind, .string (str y.key), .int .i64 y.n, .float .f64 y.x, .string (str y.s), .int .i64 y.make.kind, .int .i64 y.make.num, .int .i64 y.make.low, .int .i64 y.make.high, .float .f64 y.make.real, .int .i64 y.make.cap, .string (str y.make.text), .slice Az nz cz, .bool y.must] 90)).drew) := cln_trans hcl.out hw
      have hclT : Hid (Cln w1 ((wr.alloc (.cells #[.int .i64 x.kind, .string (str x.key), .int .i64 x.n, .float .f64 x.x, .string (str x.s), .int .i64 x.make.kind, .int .i64 x.make.num, .int .i64 x.make.low, .int .i64 x.make.high, .float .f64 x.make.real, .int .i64 x.make.cap, .string (str x.make.text), .slice Ax nx cx, .bool x.must] 90)).alloc (.cells #[.int .i64 y.kind, .string (str y.key), .int .i64 y.n, .float .f64 y.x, .string (str y.s), .int .i64 y.make.kind, .int .i64 y.make.num, .int .i64 y.make.low, .int .i64 y.make.high, .float .f64 y.make.real, .int .i64 y.make.cap, .string (str y.make.text), .slice Az nz cz, .bool y.must] 90)).drew) := cln_trans hcl1.out hw
      have hp1 := (Blk.new wr 90 #[.int .i64 x.kind, .string (str x.key), .int .i64 x.n, .float .f64 x.x, .string (str x.s), .int .i64 x.make.kind, .int .i64 x.make.num, .int .i64 x.make.low, .int .i64 x.make.high, .float .f64 x.make.real, .int .i64 x.make.cap, .string (str x.make.text), .slice Ax nx cx, .bool x.must]).alloc (.cells #[.int .i64 y.kind, .string (str y.key), .int .i64 y.n, .float .f64 y.x, .string (str y.s), .int .i64 y.make.kind, .int .i64 y.make.num, .int .i64 y.make.low, .int .i64 y.make.high, .float .f64 y.make.real, .int .i64 y.make.cap, .string (str y.make.text), .slice Az nz cz, .bool y.must] 90)
      have hp2 := Blk.new (wr.alloc (.cells #[.int .i64 x.kind, .string (str x.key), .int .i64 x.n, .float .f64 x.x, .string (str x.s), .int .i64 x.make.kind, .int .i64 x.make.num, .int .i64 x.make.low, .int .i64 x.make.high, .float .f64 x.make.real, .int .i64 x.make.cap, .string (str x.make.text), .slice Ax nx cx, .bool x.must] 90)) 90 #[.int .i64 y.kind, .string (str y.key), .int .i64 y.n, .float .f64 y.x, .string (str y.s), .int .i64 y.make.kind, .int .i64 y.make.num, .int .i64 y.make.low, .int .i64 y.make.high, .float .f64 y.make.real, .int .i64 y.make.cap, .string (str y.make.text), .slice Az nz cz, .bool y.must]
      rw [World.size_alloc] at hp2
      have hbX1 := Lib.hid hp1.drew
      have hbZ1 := Lib.hid hp2.drew
      have uX := hbX1.out.cell; have uZ := hbZ1.out.cell; have lX := hbX1.out.lt; have lZ := hbZ1.out.lt
      have hcur : Hid (Cln ((wr.alloc (.cells #[.int .i64 x.kind, .string (str x.key), .int .i64 x.n, .float .f64 x.x, .string (str x.s), .int .i64 x.make.kind, .int .i64 x.make.num, .int .i64 x.make.low, .int .i64 x.make.high, .float .f64 x.make.real, .int .i64 x.make.cap, .string (str x.make.text), .slice Ax nx cx, .bool x.must] 90)).alloc (.cells #[.int .i64 y.kind, .string (str y.key), .int .i64 y.n, .float .f64 y.x, .string (str y.s), .int .i64 y.make.kind, .int .i64 y.make.num, .int .i64 y.make.low, .int .i64 y.make.high, .float .f64 y.make.real, .int .i64 y.make.cap, .string (str y.make.text), .slice Az nz cz, .bool y.must] 90)).drew ((wr.alloc (.cells #[.int .i64 x.kind, .string (str x.key), .int .i64 x.n, .float .f64 x.x, .string (str x.s), .int .i64 x.make.kind, .int .i64 x.make.num, .int .i64 x.make.low, .int .i64 x.make.high, .float .f64 x.make.real, .int .i64 x.make.cap, .string (str x.make.text), .slice Ax nx cx, .bool x.must] 90)).alloc (.cells #[.int .i64 y.kind, .string (str y.key), .int .i64 y.n, .float .f64 y.x, .string (str y.s), .int .i64 y.make.kind, .int .i64 y.make.num, .int .i64 y.make.low, .int .i64 y.make.high, .float .f64 y.make.real, .int .i64 y.make.cap, .string (str y.make.text), .slice Az nz cz, .bool y.must] 90)).drew) := Below.refl _ _
      clear hp1 hp2 hw u1 u2 l1 l2
      clear f0 f1 f2 f3 f4 f5 f6 f7 f8 f9 f10 f11 f12 f13 g0 g1 g2 g3 g4 g5 g6 g7 g8 g9 g10 g11 g12 g13
      cases heq : (x.key == y.key) with
      | false =>
       replace heq : Hid ((x.key == y.key) = false) := heq
       have teq := heq.out
       have hmv : Hid (meetsA but x y = false) := by unfold Hid; rw [meetsA, heq.out]; first | rfl | simp
       go_wp2_with fail
       go_roundw
       case rel => exact ⟨j + 1, hlt2, by go_num, Lib.hid (cln_trans hclT.out hcur.out), by unfold Hid; rw [hst.out, hmv.out, Bool.false_or]⟩
       case measure => simp [intOf]; omega
      | true =>
       replace heq : Hid ((x.key == y.key) = true) := heq
       have teq := heq.out
       cases hcn : but.contains x.key with
       | true =>
        replace hcn := Lib.hid hcn
        have hmv : Hid (meetsA but x y = false) := by unfold Hid; rw [meetsA, heq.out, hcn.out]; first | rfl | simp
        go_wp2_with (first
         |(go_at_call 72; with_reducible refine (has_any but x.key C q e0 hq0 _ (hS.cln (cln_trans hclY.out hcur.out))).mono ?_; rintro e w' ⟨rfl, hq⟩; rw [hcn.out]; have hcur := Lib.hid (cln_trans hcur.out hq); clear hq uX uZ lX lZ; have uX := (hbX1.out.cln hcur.out).cell; have uZ := (hbZ1.out.cln hcur.out).cell; have lX := (hbX1.out.cln hcur.out).lt; have lZ := (hbZ1.out.cln hcur.out).lt))
        go_roundw
        case rel => exact ⟨j + 1, hlt2, by go_num, Lib.hid (cln_trans hclT.out hcur.out), by unfold Hid; rw [hst.out, hmv.out, Bool.false_or]⟩
        case measure => simp [intOf]; omega
       | false =>
        replace hcn := Lib.hid hcn
        cases hrx : readsB x.kind with
        | false =>
         replace hrx := Lib.hid hrx
         have hmv : Hid (meetsA but x y = true) := by unfold Hid; rw [meetsA, heq.out, hrx.out, hcn.out]; first | rfl | simp
         go_wp2_with (first
          |(go_at_call 79; (first | (with_reducible refine (rreads8_any x.kind _).mono ?_; rintro e w' ⟨rfl, hq⟩; rw [hrx.out])); have hcur := Lib.hid (cln_trans hcur.out hq); clear hq uX uZ lX lZ; have uX := (hbX1.out.cln hcur.out).cell; have uZ := (hbZ1.out.cln hcur.out).cell; have lX := (hbX1.out.cln hcur.out).lt; have lZ := (hbZ1.out.cln hcur.out).lt)
          |(go_at_call 72; with_reducible refine (has_any but x.key C q e0 hq0 _ (hS.cln (cln_trans hclY.out hcur.out))).mono ?_; rintro e w' ⟨rfl, hq⟩; rw [hcn.out]; have hcur := Lib.hid (cln_trans hcur.out hq); clear hq uX uZ lX lZ; have uX := (hbX1.out.cln hcur.out).cell; have uZ := (hbZ1.out.cln hcur.out).cell; have lX := (hbX1.out.cln hcur.out).lt; have lZ := (hbZ1.out.cln hcur.out).lt))
         go_ret
         exact ⟨ret_bool (by rw [hst.out, hmv.out]; rfl), cln_trans hclY.out hcur.out⟩
        | true =>
         replace hrx := Lib.hid hrx
         cases hry : readsB y.kind with
         | true =>
          replace hry := Lib.hid hry
          have hmv : Hid (meetsA but x y = false) := by unfold Hid; rw [meetsA, heq.out, hrx.out, hry.out, hcn.out]; first | rfl | simp
          go_wp2_with (first
           |(go_at_call 79; (first | (with_reducible refine (rreads8_any x.kind _).mono ?_; rintro e w' ⟨rfl, hq⟩; rw [hrx.out]) | (with_reducible refine (rreads8_any y.kind _).mono ?_; rintro e w' ⟨rfl, hq⟩; rw [hry.out])); have hcur := Lib.hid (cln_trans hcur.out hq); clear hq uX uZ lX lZ; have uX := (hbX1.out.cln hcur.out).cell; have uZ := (hbZ1.out.cln hcur.out).cell; have lX := (hbX1.out.cln hcur.out).lt; have lZ := (hbZ1.out.cln hcur.out).lt)
           |(go_at_call 72; with_reducible refine (has_any but x.key C q e0 hq0 _ (hS.cln (cln_trans hclY.out hcur.out))).mono ?_; rintro e w' ⟨rfl, hq⟩; rw [hcn.out]; have hcur := Lib.hid (cln_trans hcur.out hq); clear hq uX uZ lX lZ; have uX := (hbX1.out.cln hcur.out).cell; have uZ := (hbZ1.out.cln hcur.out).cell; have lX := (hbX1.out.cln hcur.out).lt; have lZ := (hbZ1.out.cln hcur.out).lt))
          go_roundw
          case rel => exact ⟨j + 1, hlt2, by go_num, Lib.hid (cln_trans hclT.out hcur.out), by unfold Hid; rw [hst.out, hmv.out, Bool.false_or]⟩
          case measure => simp [intOf]; omega
         | false =>
          replace hry := Lib.hid hry
          have hmv : Hid (meetsA but x y = true) := by unfold Hid; rw [meetsA, heq.out, hrx.out, hry.out, hcn.out]; first | rfl | simp
          go_wp2_with (first
           |(go_at_call 79; (first | (with_reducible refine (rreads8_any x.kind _).mono ?_; rintro e w' ⟨rfl, hq⟩; rw [hrx.out]) | (with_reducible refine (rreads8_any y.kind _).mono ?_; rintro e w' ⟨rfl, hq⟩; rw [hry.out])); have hcur := Lib.hid (cln_trans hcur.out hq); clear hq uX uZ lX lZ; have uX := (hbX1.out.cln hcur.out).cell; have uZ := (hbZ1.out.cln hcur.out).cell; have lX := (hbX1.out.cln hcur.out).lt; have lZ := (hbZ1.out.cln hcur.out).lt)
           |(go_at_call 72; with_reducible refine (has_any but x.key C q e0 hq0 _ (hS.cln (cln_trans hclY.out hcur.out))).mono ?_; rintro e w' ⟨rfl, hq⟩; rw [hcn.out]; have hcur := Lib.hid (cln_trans hcur.out hq); clear hq uX uZ lX lZ; have uX := (hbX1.out.cln hcur.out).cell; have uZ := (hbZ1.out.cln hcur.out).cell; have lX := (hbX1.out.cln hcur.out).lt; have lZ := (hbZ1.out.cln hcur.out).lt))
          go_ret
          exact ⟨ret_bool (by rw [hst.out, hmv.out]; rfl), cln_trans hclY.out hcur.out⟩
     ·have hw : Cln wr ((wr.alloc (.cells #[.int .i64 y.kind, .string (str y.key), .int .i64 y.n, .float .f64 y.x, .string (str y.s), .int .i64 y.make.kind, .int .i64 y.make.num, .int .i64 y.make.low, .int .i64 y.make.high, .float .f64 y.make.real, .int .i64 y.make.cap, .string (str y.make.text), .slice Az nz cz, .bool y.must] 90)).alloc (.cells #[.int .i64 x.kind, .string (str x.key), .int .i64 x.n, .float .f64 x.x, .string (str x.s), .int .i64 x.make.kind, .int .i64 x.make.num, .int .i64 x.make.low, .int .i64 x.make.high, .float .f64 x.make.real, .int .i64 x.make.cap, .string (str x.make.text), .slice Ax nx cx, .bool x.must] 90)).drew := by (repeat with_reducible first | exact cR _ | assumption | refine cA ?_ _ | refine cD ?_ | refine cN ?_ _ | refine cS ?_ (by first | omega | (simp <;> omega)) _)
      have hclY : Hid (Cln w ((wr.alloc (.cells #[.int .i64 y.kind, .string (str y.key), .int .i64 y.n, .float .f64 y.x, .string (str y.s), .int .i64 y.make.kind, .int .i64 y.make.num, .int .i64 y.make.low, .int .i64 y.make.high, .float .f64 y.make.real, .int .i64 y.make.cap, .string (str y.make.text), .slice Az nz cz, .bool y.must] 90)).alloc (.cells #[.int .i64 x.kind, .string (str x.key), .int .i64 x.n, .float .f64 x.x, .string (str x.s), .int .i64 x.make.kind, .int .i64 x.make.num, .int .i64 x.make.low, .int .i64 x.make.high, .float .f64 x.make.real, .int .i64 x.make.cap, .string (str x.make.text), .slice Ax nx cx, .bool x.must] 90)).drew) := cln_trans hcl.out hw
      have hclT : Hid (Cln w1 ((wr.alloc (.cells #[.int .i64 y.kind, .string (str y.key), .int .i64 y.n, .float .f64 y.x, .string (str y.s), .int .i64 y.make.kind, .int .i64 y.make.num, .int .i64 y.make.low, .int .i64 y.make.high, .float .f64 y.make.real, .int .i64 y.make.cap, .string (str y.make.text), .slice Az nz cz, .bool y.must] 90)).alloc (.cells #[.int .i64 x.kind, .string (str x.key), .int .i64 x.n, .float .f64 x.x, .string (str x.s), .int .i64 x.make.kind, .int .i64 x.make.num, .int .i64 x.make.low, .int .i64 x.make.high, .float .f64 x.make.real, .int .i64 x.make.cap, .string (str x.make.text), .slice Ax nx cx, .bool x.must] 90)).drew) := cln_trans hcl1.out hw
      have hp1 := (Blk.new wr 90 #[.int .i64 y.kind, .string (str y.key), .int .i64 y.n, .float .f64 y.x, .string (str y.s), .int .i64 y.make.kind, .int .i64 y.make.num, .int .i64 y.make.low, .int .i64 y.make.high, .float .f64 y.make.real, .int .i64 y.make.cap, .string (str y.make.text), .slice Az nz cz, .bool y.must]).alloc (.cells #[.int .i64 x.kind, .string (str x.key), .int .i64 x.n, .float .f64 x.x, .string (str x.s), .int .i64 x.make.kind, .int .i64 x.make.num, .int .i64 x.make.low, .int .i64 x.make.high, .float .f64 x.make.real, .int .i64 x.make.cap, .string (str x.make.text), .slice Ax nx cx, .bool x.must] 90)
      have hp2 := Blk.new (wr.alloc (.cells #[.int .i64 y.kind, .string (str y.key), .int .i64 y.n, .float .f64 y.x, .string (str y.s), .int .i64 y.make.kind, .int .i64 y.make.num, .int .i64 y.make.low, .int .i64 y.make.high, .float .f64 y.make.real, .int .i64 y.make.cap, .string (str y.make.text), .slice Az nz cz, .bool y.must] 90)) 90 #[.int .i64 x.kind, .string (str x.key), .int .i64 x.n, .float .f64 x.x, .string (str x.s), .int .i64 x.make.kind, .int .i64 x.make.num, .int .i64 x.make.low, .int .i64 x.make.high, .float .f64 x.make.real, .int .i64 x.make.cap, .string (str x.make.text), .slice Ax nx cx, .bool x.must]
      rw [World.size_alloc] at hp2
      have hbX1 := Lib.hid hp2.drew
      have hbZ1 := Lib.hid hp1.drew
      have uX := hbX1.out.cell; have uZ := hbZ1.out.cell; have lX := hbX1.out.lt; have lZ := hbZ1.out.lt
      have hcur : Hid (Cln ((wr.alloc (.cells #[.int .i64 y.kind, .string (str y.key), .int .i64 y.n, .float .f64 y.x, .string (str y.s), .int .i64 y.make.kind, .int .i64 y.make.num, .int .i64 y.make.low, .int .i64 y.make.high, .float .f64 y.make.real, .int .i64 y.make.cap, .string (str y.make.text), .slice Az nz cz, .bool y.must] 90)).alloc (.cells #[.int .i64 x.kind, .string (str x.key), .int .i64 x.n, .float .f64 x.x, .string (str x.s), .int .i64 x.make.kind, .int .i64 x.make.num, .int .i64 x.make.low, .int .i64 x.make.high, .float .f64 x.make.real, .int .i64 x.make.cap, .string (str x.make.text), .slice Ax nx cx, .bool x.must] 90)).drew ((wr.alloc (.cells #[.int .i64 y.kind, .string (str y.key), .int .i64 y.n, .float .f64 y.x, .string (str y.s), .int .i64 y.make.kind, .int .i64 y.make.num, .int .i64 y.make.low, .int .i64 y.make.high, .float .f64 y.make.real, .int .i64 y.make.cap, .string (str y.make.text), .slice Az nz cz, .bool y.must] 90)).alloc (.cells #[.int .i64 x.kind, .string (str x.key), .int .i64 x.n, .float .f64 x.x, .string (str x.s), .int .i64 x.make.kind, .int .i64 x.make.num, .int .i64 x.make.low, .int .i64 x.make.high, .float .f64 x.make.real, .int .i64 x.make.cap, .string (str x.make.text), .slice Ax nx cx, .bool x.must] 90)).drew) := Below.refl _ _
      clear hp1 hp2 hw u1 u2 l1 l2
      clear f0 f1 f2 f3 f4 f5 f6 f7 f8 f9 f10 f11 f12 f13 g0 g1 g2 g3 g4 g5 g6 g7 g8 g9 g10 g11 g12 g13
      cases heq : (x.key == y.key) with
      | false =>
       replace heq : Hid ((x.key == y.key) = false) := heq
       have teq := heq.out
       have hmv : Hid (meetsA but x y = false) := by unfold Hid; rw [meetsA, heq.out]; first | rfl | simp
       go_wp2_with fail
       go_roundw
       case rel => exact ⟨j + 1, hlt2, by go_num, Lib.hid (cln_trans hclT.out hcur.out), by unfold Hid; rw [hst.out, hmv.out, Bool.false_or]⟩
       case measure => simp [intOf]; omega
      | true =>
       replace heq : Hid ((x.key == y.key) = true) := heq
       have teq := heq.out
       cases hcn : but.contains x.key with
       | true =>
        replace hcn := Lib.hid hcn
        have hmv : Hid (meetsA but x y = false) := by unfold Hid; rw [meetsA, heq.out, hcn.out]; first | rfl | simp
        go_wp2_with (first
         |(go_at_call 72; with_reducible refine (has_any but x.key C q e0 hq0 _ (hS.cln (cln_trans hclY.out hcur.out))).mono ?_; rintro e w' ⟨rfl, hq⟩; rw [hcn.out]; have hcur := Lib.hid (cln_trans hcur.out hq); clear hq uX uZ lX lZ; have uX := (hbX1.out.cln hcur.out).cell; have uZ := (hbZ1.out.cln hcur.out).cell; have lX := (hbX1.out.cln hcur.out).lt; have lZ := (hbZ1.out.cln hcur.out).lt))
        go_roundw
        case rel => exact ⟨j + 1, hlt2, by go_num, Lib.hid (cln_trans hclT.out hcur.out), by unfold Hid; rw [hst.out, hmv.out, Bool.false_or]⟩
        case measure => simp [intOf]; omega
       | false =>
        replace hcn := Lib.hid hcn
        cases hrx : readsB x.kind with
        | false =>
         replace hrx := Lib.hid hrx
         have hmv : Hid (meetsA but x y = true) := by unfold Hid; rw [meetsA, heq.out, hrx.out, hcn.out]; first | rfl | simp
         go_wp2_with (first
          |(go_at_call 79; (first | (with_reducible refine (rreads8_any x.kind _).mono ?_; rintro e w' ⟨rfl, hq⟩; rw [hrx.out])); have hcur := Lib.hid (cln_trans hcur.out hq); clear hq uX uZ lX lZ; have uX := (hbX1.out.cln hcur.out).cell; have uZ := (hbZ1.out.cln hcur.out).cell; have lX := (hbX1.out.cln hcur.out).lt; have lZ := (hbZ1.out.cln hcur.out).lt)
          |(go_at_call 72; with_reducible refine (has_any but x.key C q e0 hq0 _ (hS.cln (cln_trans hclY.out hcur.out))).mono ?_; rintro e w' ⟨rfl, hq⟩; rw [hcn.out]; have hcur := Lib.hid (cln_trans hcur.out hq); clear hq uX uZ lX lZ; have uX := (hbX1.out.cln hcur.out).cell; have uZ := (hbZ1.out.cln hcur.out).cell; have lX := (hbX1.out.cln hcur.out).lt; have lZ := (hbZ1.out.cln hcur.out).lt))
         go_ret
         exact ⟨ret_bool (by rw [hst.out, hmv.out]; rfl), cln_trans hclY.out hcur.out⟩
        | true =>
         replace hrx := Lib.hid hrx
         cases hry : readsB y.kind with
         | true =>
          replace hry := Lib.hid hry
          have hmv : Hid (meetsA but x y = false) := by unfold Hid; rw [meetsA, heq.out, hrx.out, hry.out, hcn.out]; first | rfl | simp
          go_wp2_with (first
           |(go_at_call 79; (first | (with_reducible refine (rreads8_any x.kind _).mono ?_; rintro e w' ⟨rfl, hq⟩; rw [hrx.out]) | (with_reducible refine (rreads8_any y.kind _).mono ?_; rintro e w' ⟨rfl, hq⟩; rw [hry.out])); have hcur := Lib.hid (cln_trans hcur.out hq); clear hq uX uZ lX lZ; have uX := (hbX1.out.cln hcur.out).cell; have uZ := (hbZ1.out.cln hcur.out).cell; have lX := (hbX1.out.cln hcur.out).lt; have lZ := (hbZ1.out.cln hcur.out).lt)
           |(go_at_call 72; with_reducible refine (has_any but x.key C q e0 hq0 _ (hS.cln (cln_trans hclY.out hcur.out))).mono ?_; rintro e w' ⟨rfl, hq⟩; rw [hcn.out]; have hcur := Lib.hid (cln_trans hcur.out hq); clear hq uX uZ lX lZ; have uX := (hbX1.out.cln hcur.out).cell; have uZ := (hbZ1.out.cln hcur.out).cell; have lX := (hbX1.out.cln hcur.out).lt; have lZ := (hbZ1.out.cln hcur.out).lt))
          go_roundw
          case rel => exact ⟨j + 1, hlt2, by go_num, Lib.hid (cln_trans hclT.out hcur.out), by unfold Hid; rw [hst.out, hmv.out, Bool.false_or]⟩
          case measure => simp [intOf]; omega
         | false =>
          replace hry := Lib.hid hry
          have hmv : Hid (meetsA but x y = true) := by unfold Hid; rw [meetsA, heq.out, hrx.out, hry.out, hcn.out]; first | rfl | simp
          go_wp2_with (first
           |(go_at_call 79; (first | (with_reducible refine (rreads8_any x.kind _).mono ?_; rintro e w' ⟨rfl, hq⟩; rw [hrx.out]) | (with_reducible refine (rreads8_any y.kind _).mono ?_; rintro e w' ⟨rfl, hq⟩; rw [hry.out])); have hcur := Lib.hid (cln_trans hcur.out hq); clear hq uX uZ lX lZ; have uX := (hbX1.out.cln hcur.out).cell; have uZ := (hbZ1.out.cln hcur.out).cell; have lX := (hbX1.out.cln hcur.out).lt; have lZ := (hbZ1.out.cln hcur.out).lt)
           |(go_at_call 72; with_reducible refine (has_any but x.key C q e0 hq0 _ (hS.cln (cln_trans hclY.out hcur.out))).mono ?_; rintro e w' ⟨rfl, hq⟩; rw [hcn.out]; have hcur := Lib.hid (cln_trans hcur.out hq); clear hq uX uZ lX lZ; have uX := (hbX1.out.cln hcur.out).cell; have uZ := (hbZ1.out.cln hcur.out).cell; have lX := (hbX1.out.cln hcur.out).lt; have lZ := (hbZ1.out.cln hcur.out).lt))
          go_ret
          exact ⟨ret_bool (by rw [hst.out, hmv.out]; rfl), cln_trans hclY.out hcur.out⟩
    ·obtain rfl : j = k := by omega
     have t4 : decide ((j : Int) < (j : Int)) = false := decide_eq_false (by omega)
     have hst : Hid (meetB l m but = (((l.drop (i + 1)).any fun a => m.any fun b => meetsA but a b) || (rosterB l && rosterB m))) := by unfold Hid; rw [hH.out, List.drop_of_length_le (by omega)]; rfl
     clear hH
     go_wp2_with fail
     go_roundw
     case rel => exact ⟨i + 1, hlt, by go_num, hcl1, hst⟩
     case measure => simp [intOf]; omega
  ·obtain rfl : i = n := by omega
   have t3 : decide ((i : Int) < (i : Int)) = false := decide_eq_false (by omega)
   have hst : Hid (meetB l m but = (rosterB l && rosterB m)) := by unfold Hid; rw [hH.out, List.drop_of_length_le (by omega)]; rfl
   clear hH
   have u2 := (hb2.out.cln hcl1.out).cell 0
   have l2 := (hb2.out.cln hcl1.out).lt
   have hcur : Hid (Cln wr wr) := Below.refl _ _
   have hb1r := Lib.hid (hb1.out.cln hcl1.out); have hb2r := Lib.hid (hb2.out.cln hcl1.out)
   cases h2 : rosterB l
   all_goals cases h3 : rosterB m
   all_goals
    rw [h2, h3] at hst
    replace h2 := Lib.hid h2; replace h3 := Lib.hid h3
    go_wp2_with (go_at_call 33; (first | (with_reducible refine (rroster_any l A i c hn _ (hr.cln (cln_trans hcl.out hcur.out))).mono ?_; rintro e w' ⟨rfl, hq⟩; rw [h2.out]) | (with_reducible refine (rroster_any m B k d hk _ (hs.cln (cln_trans hcl.out hcur.out))).mono ?_; rintro e w' ⟨rfl, hq⟩; rw [h3.out])); have hcur := Lib.hid (cln_trans hcur.out hq); clear hq u1 u2 l1 l2; have u1 := (hb1r.out.cln hcur.out).cell 0; have u2 := (hb2r.out.cln hcur.out).cell 0; have l1 := (hb1r.out.cln hcur.out).lt; have l2 := (hb2r.out.cln hcur.out).lt)
    go_ret
    exact ⟨ret_bool hst.out.symm, cln_trans hcl.out hcur.out⟩
end Go.Proofs.YtoeoodiifpoomaaGreatDoor
