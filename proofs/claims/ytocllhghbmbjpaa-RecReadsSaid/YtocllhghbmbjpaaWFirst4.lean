/- The walk of the document's First, of places of floating numbers. -/
import Derived.Test.YtocllhghbmbjpaaWFirst2
import Derived.StillTailTactics
set_option linter.unusedSimpArgs false
set_option linter.unusedVariables false
set_option maxRecDepth 20000
namespace Go.Proofs.Ytocllhghbmbjpaa
open Go.RowKit Moi
attribute [local go_sem] toList_str str_size less_ltB store_float
theorem rPlaceGo_short (b : List UInt8) : ∀ i k a, a ≤ b.length → b.length < a + i → rPlaceGo b i k a = .error (2, b.length)
  | 0, k, a, h1, h2 => by omega
  | i + 1, k, a, h1, h2 => by
    unfold rPlaceGo rOne
    by_cases h : a < b.length
    · rw [if_pos h]; exact rPlaceGo_short b i _ (a + 1) (by omega) (by omega)
    · rw [if_neg h]
      have : a = b.length := by omega
      subst this; rfl
set_option maxHeartbeats 8000000 in
theorem first_f (A : Option Addr) (n c : Nat) (bs : List UInt8) (hn : n ≤ 140737488355328) (m : Int) (w : World) (hr : RdBytes w A n bs) :
    Calls Try.prog 83 #[.slice A n c, .int .u8 102, .int .i64 m] w (FirstPost w (mapR (fun x => .f (fkey x)) (rF bs 0))) := by
  have hlen := Lib.hid hr.len
  have hb0 := (Blk.new w 96 #[.int .u8 0, .int .u64 0, .int .i64 0, .int .u64 0, .string ⟨#[]⟩, .bool false]).alloc (.cells #[.int .u8 102, .int .u64 0, .int .i64 0, .int .u64 0, .string ⟨#[]⟩, .bool false] 96)
  have hb1 := Blk.new (w.alloc (.cells #[.int .u8 0, .int .u64 0, .int .i64 0, .int .u64 0, .string ⟨#[]⟩, .bool false] 96)) 96 #[.int .u8 102, .int .u64 0, .int .i64 0, .int .u64 0, .string ⟨#[]⟩, .bool false]
  rw [World.size_alloc] at hb1
  have hcl0 := Lib.hid (show Cln w ((w.alloc (.cells #[.int .u8 0, .int .u64 0, .int .i64 0, .int .u64 0, .string ⟨#[]⟩, .bool false] 96)).alloc (.cells #[.int .u8 102, .int .u64 0, .int .i64 0, .int .u64 0, .string ⟨#[]⟩, .bool false] 96)) from by (repeat (first | (with_reducible exact Below.refl _ _) | (with_reducible assumption) | (with_reducible refine Below.setCell ?_ (by first | omega | (simp; done) | (simp; omega)) _) | (with_reducible refine Below.alloc ?_ (by first | omega | (simp; done) | (simp; omega)) _) | (with_reducible refine Below.drew ?_) | (with_reducible refine below_drewN ?_ _))))
  replace hb0 := Lib.hid hb0; replace hb1 := Lib.hid hb1
  go_enter Try.func83, Try.ntmps83
  by_cases h8 : n < 8
  · have t1 : decide ((n : Int) < 8) = true := decide_eq_true (by omega)
    have hI : Hid (rF bs 0 = .error (2, n)) := by
      unfold Hid rF
      rw [rPlaceGo_short bs 8 0 0 (by omega) (by rw [hlen.out]; omega), hlen.out]
    clear h8
    go_wp2_with fail
    refine bodyPost_ret (results_ctt Try.results83 _ _ w.heap.size 96 #[.int .u8 102, .int .u64 0, .int .i64 0, .int .u64 0, .string ⟨#[]⟩, .bool false] (0, 0) _ rfl ?_ Try.underlying96 rfl size_part) rfl ⟨?_, ?_⟩
    · exact (Blk.new w _ _).alloc _
    · (repeat (first | (with_reducible exact Below.refl _ _) | (with_reducible assumption) | (with_reducible refine Below.setCell ?_ (by first | omega | (simp; done) | (simp; omega)) _) | (with_reducible refine Below.alloc ?_ (by first | omega | (simp; done) | (simp; omega)) _) | (with_reducible refine Below.drew ?_) | (with_reducible refine below_drewN ?_ _)))
    · rw [hI.out]; exact ⟨_, _, _, _, _, _, rfl⟩
  have t1 : decide ((n : Int) < 8) = false := decide_eq_false (by omega)
  go_wp2_with fail
  go_loopw [11] (fun v wr => ∃ (i K : Nat), i ≤ 8 ∧ v = .int .i64 (i : Nat) ∧ K < 256 ^ i ∧ Hid (Cln w wr) ∧ Hid (Blk wr w.heap.size 96 #[.int .u8 0, .int .u64 0, .int .i64 0, .int .u64 0, .string ⟨#[]⟩, .bool false]) ∧ Hid (Blk wr (w.heap.size + 1) 96 #[.int .u8 102, .int .u64 0, .int .i64 0, .int .u64 (K : Nat), .string ⟨#[]⟩, .bool false]) ∧ Hid (rPlaceGo bs 8 0 0 = rPlaceGo bs (8 - i) K i)) (fun v _ => (8 - intOf v).toNat)
  case atStart => exact ⟨0, 0, by omega, rfl, by decide, Lib.hid (cln_trans hcl0.out (by (repeat (first | (with_reducible exact Below.refl _ _) | (with_reducible assumption) | (with_reducible refine Below.setCell ?_ (by first | omega | (simp; done) | (simp; omega)) _) | (with_reducible refine Below.alloc ?_ (by first | omega | (simp; done) | (simp; omega)) _) | (with_reducible refine Below.drew ?_) | (with_reducible refine below_drewN ?_ _))))), Lib.hid (hb0.out.cln (by (repeat (first | (with_reducible exact Below.refl _ _) | (with_reducible assumption) | (with_reducible refine Below.setCell ?_ (by first | omega | (simp; done) | (simp; omega)) _) | (with_reducible refine Below.alloc ?_ (by first | omega | (simp; done) | (simp; omega)) _) | (with_reducible refine Below.drew ?_) | (with_reducible refine below_drewN ?_ _))))), Lib.hid (hb1.out.cln (by (repeat (first | (with_reducible exact Below.refl _ _) | (with_reducible assumption) | (with_reducible refine Below.setCell ?_ (by first | omega | (simp; done) | (simp; omega)) _) | (with_reducible refine Below.alloc ?_ (by first | omega | (simp; done) | (simp; omega)) _) | (with_reducible refine Below.drew ?_) | (with_reducible refine below_drewN ?_ _))))), rfl⟩
  case round =>
    obtain ⟨i, K, hi, rfl, hK, hcl, hB0, hB1, hH⟩ := hrel
    by_cases hlt : i < 8
    · obtain ⟨b, o, rfl, hblt0, hcell0⟩ := hr.cells (by omega)
      obtain ⟨b2, o2, e2, hblt, hcell⟩ := (hr.cln hcl.out).cells (by omega)
      injection e2 with e2; injection e2 with e3 e4; subst e3; subst e4
      have hc := hcell i (by omega)
      have hx : byteAt bs i < 256 := UInt8.toNat_lt _
      have hstep : Hid (rPlaceGo bs (8 - i) K i = rPlaceGo bs (8 - (i + 1)) (K * 256 + byteAt bs i) (i + 1)) := by
        unfold Hid
        rw [show 8 - i = (8 - (i + 1)) + 1 from by omega]
        conv => lhs; unfold rPlaceGo
        have : rOne bs i = .ok (byteAt bs i, i + 1) := by unfold rOne; rw [if_pos (by rw [hlen.out]; omega)]; rfl
        simp only [this]
      generalize byteAt bs i = x at hc hx hstep
      clear hcell hcell0
      have hpow : 256 ^ (i + 1) = 256 ^ i * 256 := Nat.pow_succ ..
      have hK7 : K < 72057594037927936 := by
        have : 256 ^ i ≤ 256 ^ 7 := Nat.pow_le_pow_right (by omega) (by omega)
        have e7 : (256 : Nat) ^ 7 = 72057594037927936 := by decide
        omega
      have hK2 : K * 256 + x < 256 ^ (i + 1) := by omega
      clear hpow
      have w1 : IntKind.u64.wrap ((K : Int) * 256) = ((K * 256 : Nat) : Int) := by rw [show (K : Int) * 256 = ((K * 256 : Nat) : Int) from by omega]; exact IntWalk.u64_in _ (by omega)
      have w2 : IntKind.u64.wrap (((K * 256 : Nat) : Int) + (x : Int)) = ((K * 256 + x : Nat) : Int) := by rw [← Int.natCast_add]; exact IntWalk.u64_in _ (by omega)
      have c3 := hB1.out.cell 3
      have hf3 := hB1.out.frozen 3
      have hl1 := hB1.out.lt
      have hcl' := hcl.out
      have hbl : b < wr.heap.size := hblt
      have hi8 : (i : Int) < (n : Int) := by omega
      have hneb : ¬ b = w.heap.size + 1 := by omega
      have hin : i < n := by omega
      have hval : IntKind.u64.wrap ((K : Int) * 256 + (x : Int)) = ((K * 256 + x : Nat) : Int) := by rw [show (K : Int) * 256 + (x : Int) = ((K * 256 + x : Nat) : Int) from by omega]; exact IntWalk.u64_in _ (by omega)
      replace hval := Lib.hid hval
      clear hK7 h8
      go_wp2_with fail
      (refine region_tail 10 (by kernel_rfl) (by kernel_rfl) ?_; simp only [List.take_succ_cons, List.take_zero, List.drop_succ_cons, List.drop_zero]; (repeat still_step); refine wpStill_nil ?_)
      go_wp2_with (simp only [w1, w2])
      rw [hval.out]
      refine ⟨⟨i + 1, K * 256 + x, by omega, congrArg (Value.int .i64) (by omega), hK2, Lib.hid (by (repeat (first | (with_reducible exact Below.refl _ _) | (with_reducible assumption) | (with_reducible refine Below.setCell ?_ (by first | omega | (simp; done) | (simp; omega)) _) | (with_reducible refine Below.alloc ?_ (by first | omega | (simp; done) | (simp; omega)) _) | (with_reducible refine Below.drew ?_) | (with_reducible refine below_drewN ?_ _)))), Lib.hid (hB0.out.far (show w.heap.size ≠ w.heap.size + 1 from by omega) _), Lib.hid (Blk.store1 hB1.out 3 _ rfl), by unfold Hid; rw [hH.out, hstep.out]⟩, by simp [intOf]; omega⟩
    · obtain rfl : i = 8 := by omega
      have hP : Hid (rPlaceGo bs 8 0 0 = .ok (K, 8)) := by unfold Hid; rw [hH.out]; rfl
      have hKl : K < 18446744073709551616 := by
        have e8 : (256 : Nat) ^ 8 = 18446744073709551616 := by decide
        omega
      have c0 := hB1.out.cell 0; have c1 := hB1.out.cell 1; have c2 := hB1.out.cell 2; have c3 := hB1.out.cell 3; have c4 := hB1.out.cell 4; have c5 := hB1.out.cell 5
      have hl1 := hB1.out.lt
      have hl0 := hB0.out.lt
      have hf0 := hB0.out.frozen
      have d0 := hB0.out.cell 0; have d1 := hB0.out.cell 1; have d2 := hB0.out.cell 2; have d3 := hB0.out.cell 3; have d4 := hB0.out.cell 4; have d5 := hB0.out.cell 5
      have hcl' := hcl.out
      have hK64 := Lib.hid hKl
      clear hK hKl h8 t1
      go_wp2_with fail
      refine (numberB_any K hK64.out _).mono ?_
      rintro e w2 ⟨rfl, rfl⟩
      cases hN : numberB K with
      | true =>
        obtain ⟨x, hx⟩ : ∃ x, fback K = some x := by unfold numberB at hN; exact Option.isSome_iff_exists.1 hN
        have hI : Hid (rF bs 0 = .ok (x, 8)) := by unfold Hid rF; simp only [hP.out, hx]
        have hkx := Lib.hid (fback_some hx)
        clear hx hN
        go_wp2_with fail
        refine bodyPost_ret (results_ctt Try.results83 _ _ w.heap.size 96 #[.int .u8 102, .int .u64 0, .int .i64 0, .int .u64 (K : Nat), .string ⟨#[]⟩, .bool false] (0, 0) _ rfl ?_ Try.underlying96 rfl size_part) rfl ⟨?_, ?_⟩
        · exact Blk.store6 hB0.out
        · (repeat (first | (with_reducible exact Below.refl _ _) | (with_reducible assumption) | (with_reducible refine Below.setCell ?_ (by first | omega | (simp; done) | (simp; omega)) _) | (with_reducible refine Below.alloc ?_ (by first | omega | (simp; done) | (simp; omega)) _) | (with_reducible refine Below.drew ?_) | (with_reducible refine below_drewN ?_ _)))
        · rw [hI.out]; show _ = Ending.returned (.tuple #[.agg (partCells (.f (fkey x))), _, _]); rw [hkx.out]; rfl
      | false =>
        have hx : fback K = none := by unfold numberB at hN; simpa using hN
        have hI : Hid (rF bs 0 = .error (4, 8)) := by unfold Hid rF; simp only [hP.out, hx]
        clear hx hN
        go_wp2_with fail
        refine bodyPost_ret (results_ctt Try.results83 _ _ w.heap.size 96 #[.int .u8 102, .int .u64 0, .int .i64 0, .int .u64 (K : Nat), .string ⟨#[]⟩, .bool false] (0, 0) _ rfl ?_ Try.underlying96 rfl size_part) rfl ⟨?_, ?_⟩
        · exact Blk.store6 hB0.out
        · (repeat (first | (with_reducible exact Below.refl _ _) | (with_reducible assumption) | (with_reducible refine Below.setCell ?_ (by first | omega | (simp; done) | (simp; omega)) _) | (with_reducible refine Below.alloc ?_ (by first | omega | (simp; done) | (simp; omega)) _) | (with_reducible refine Below.drew ?_) | (with_reducible refine below_drewN ?_ _)))
        · rw [hI.out]; exact ⟨_, _, _, _, _, _, rfl⟩
end Go.Proofs.Ytocllhghbmbjpaa
