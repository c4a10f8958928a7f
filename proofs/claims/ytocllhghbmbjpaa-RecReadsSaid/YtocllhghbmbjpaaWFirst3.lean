/- The walk of the document's First, of texts. -/
import Derived.Test.YtocllhghbmbjpaaWFirst2
import Derived.Test.YtocllhghbmbjpaaWRd2
set_option linter.unusedSimpArgs false
set_option linter.unusedVariables false
set_option maxRecDepth 20000
namespace Go.Proofs.Ytocllhghbmbjpaa
open Go.RowKit Moi
attribute [local go_sem] toList_str str_size less_ltB store_float
theorem rU_le {b : List UInt8} {x a' : Nat} (h : rU b 0 = .ok (x, a')) : a' ≤ b.length := by
  obtain ⟨_, hd⟩ := rU_at h
  have h2 := rU_of (rU_lt h) hd
  rw [h] at h2
  injection h2 with h2; injection h2 with _ h2
  have := congrArg List.length hd
  simp only [List.drop_zero, List.length_append, List.length_drop] at this
  omega
set_option maxHeartbeats 8000000 in
theorem first_s (A : Option Addr) (n c : Nat) (bs : List UInt8) (hn : n ≤ 140737488355328) (hc : n ≤ c) (M : Nat) (hM : M ≤ 1000000) (w : World) (hr : RdBytes w A n bs) :
    Calls Try.prog 83 #[.slice A n c, .int .u8 115, .int .i64 (M : Nat)] w (FirstPost w (mapR .s (rS M bs 0))) := by
  have hr1 := hr.cln (show Cln w ((w.alloc (.cells #[.int .u8 0, .int .u64 0, .int .i64 0, .int .u64 0, .string ⟨#[]⟩, .bool false] 96)).alloc (.cells #[.int .u8 115, .int .u64 0, .int .i64 0, .int .u64 0, .string ⟨#[]⟩, .bool false] 96)) from by (repeat (first | (with_reducible exact Below.refl _ _) | (with_reducible assumption) | (with_reducible refine Below.setCell ?_ (by first | omega | (simp; done) | (simp; omega)) _) | (with_reducible refine Below.alloc ?_ (by first | omega | (simp; done) | (simp; omega)) _) | (with_reducible refine Below.drew ?_) | (with_reducible refine below_drewN ?_ _))))
  have hlen := Lib.hid hr.len
  have tM : decide ((M : Int) < 0) = false := decide_eq_false (by omega)
  go_enter Try.func83, Try.ntmps83
  go_wp2_with fail
  refine (num_any A n c bs hn _ hr1).mono ?_
  rintro e w1 ⟨rfl, k, rfl⟩
  cases hU : rU bs 0 with
  | error er =>
    obtain ⟨cd, a⟩ := er
    have hnz := rU_nz hU
    have t1 : (((cd : Nat) : Int) != 0) = true := by rw [bne_iff_ne]; simp at hnz; omega
    simp only [numR]
    have hI : Hid (rS M bs 0 = .error (cd, a)) := by unfold Hid rS; rw [hU]
    go_wp2_with fail
    refine bodyPost_ret (results_ctt Try.results83 _ _ w.heap.size 96 #[.int .u8 115, .int .u64 0, .int .i64 0, .int .u64 0, .string ⟨#[]⟩, .bool false] (0, 0) _ rfl ?_ Try.underlying96 rfl size_part) rfl ⟨?_, ?_⟩
    · exact Blk.store6 (((Blk.new w _ _).alloc _).drewN k)
    · (repeat (first | (with_reducible exact Below.refl _ _) | (with_reducible assumption) | (with_reducible refine Below.setCell ?_ (by first | omega | (simp; done) | (simp; omega)) _) | (with_reducible refine Below.alloc ?_ (by first | omega | (simp; done) | (simp; omega)) _) | (with_reducible refine Below.drew ?_) | (with_reducible refine below_drewN ?_ _)))
    · rw [hI.out]; exact ⟨_, _, _, _, _, _, rfl⟩
  | ok x =>
    obtain ⟨nn, a⟩ := x
    have hlt := rU_lt hU
    have hle := rU_le hU
    rw [hlen.out] at hle
    simp only [numR]
    have wM : IntKind.u64.wrap ((M : Nat) : Int) = ((M : Nat) : Int) := IntWalk.u64_in _ (by omega)
    by_cases h1 : M < nn
    · have hI : Hid (rS M bs 0 = .error (3, a)) := by unfold Hid rS; simp only [hU]; rw [if_pos h1]
      have t1 : decide ((M : Int) < (nn : Int)) = true := decide_eq_true (by omega)
      have t1' : decide (M < nn) = true := decide_eq_true h1
      clear hU h1
      go_wp2_with fail
      refine bodyPost_ret (results_ctt Try.results83 _ _ w.heap.size 96 #[.int .u8 115, .int .u64 0, .int .i64 0, .int .u64 0, .string ⟨#[]⟩, .bool false] (0, 0) _ rfl ?_ Try.underlying96 rfl size_part) rfl ⟨?_, ?_⟩
      · exact Blk.store6 (((Blk.new w _ _).alloc _).drewN k)
      · (repeat (first | (with_reducible exact Below.refl _ _) | (with_reducible assumption) | (with_reducible refine Below.setCell ?_ (by first | omega | (simp; done) | (simp; omega)) _) | (with_reducible refine Below.alloc ?_ (by first | omega | (simp; done) | (simp; omega)) _) | (with_reducible refine Below.drew ?_) | (with_reducible refine below_drewN ?_ _)))
      · rw [hI.out]; exact ⟨_, _, _, _, _, _, rfl⟩
    · have t1 : decide ((M : Int) < (nn : Int)) = false := decide_eq_false (by omega)
      have t1' : decide (M < nn) = false := decide_eq_false h1
      have w2 : IntKind.i64.wrap ((n : Int) - (a : Int)) = (n : Int) - (a : Int) := IntWalk.i64_in _ (by omega)
      have w3 : IntKind.u64.wrap ((n : Int) - (a : Int)) = (n : Int) - (a : Int) := IntWalk.u64_in _ (by omega)
      by_cases h2 : n - a < nn
      · have hI : Hid (rS M bs 0 = .error (2, a)) := by unfold Hid rS; simp only [hU]; rw [if_neg h1, if_pos (by rw [hlen.out]; exact h2)]
        have t2 : decide ((n : Int) - (a : Int) < (nn : Int)) = true := decide_eq_true (by omega)
        clear hU h1 h2
        go_wp2_with fail
        refine bodyPost_ret (results_ctt Try.results83 _ _ w.heap.size 96 #[.int .u8 115, .int .u64 0, .int .i64 0, .int .u64 0, .string ⟨#[]⟩, .bool false] (0, 0) _ rfl ?_ Try.underlying96 rfl size_part) rfl ⟨?_, ?_⟩
        · exact Blk.store6 (((Blk.new w _ _).alloc _).drewN k)
        · (repeat (first | (with_reducible exact Below.refl _ _) | (with_reducible assumption) | (with_reducible refine Below.setCell ?_ (by first | omega | (simp; done) | (simp; omega)) _) | (with_reducible refine Below.alloc ?_ (by first | omega | (simp; done) | (simp; omega)) _) | (with_reducible refine Below.drew ?_) | (with_reducible refine below_drewN ?_ _)))
        · rw [hI.out]; exact ⟨_, _, _, _, _, _, rfl⟩
      · have hI : Hid (rS M bs 0 = .ok ((bs.drop a).take nn, a + nn)) := by unfold Hid rS; simp only [hU]; rw [if_neg h1, if_neg (by rw [hlen.out]; exact h2)]
        have t2 : decide ((n : Int) - (a : Int) < (nn : Int)) = false := decide_eq_false (by omega)
        have hax : a + nn ≤ n := by omega
        have w4 : IntKind.i64.wrap (nn : Int) = (nn : Int) := IntWalk.i64_in _ (by omega)
        have w5 : IntKind.i64.wrap ((a : Int) + (nn : Int)) = (a : Int) + (nn : Int) := IntWalk.i64_in _ (by omega)
        have hb1 : (0 : Int) ≤ (a : Int) := by omega
        have hb2 : (a : Int) ≤ (a : Int) + (nn : Int) := by omega
        have hb3 : (a : Int) + (nn : Int) ≤ (c : Int) := by omega
        have hconv := conv_cut (hr1.drewN k) a nn c hax hc
        clear hU h1 h2 hr1
        by_cases hca : c = a
        · subst hca
          obtain rfl : nn = 0 := by omega
          rw [if_pos rfl, Nat.sub_self] at hconv
          go_wp2_with (simp only [hconv])
          refine bodyPost_ret (results_ctt Try.results83 _ _ w.heap.size 96 #[.int .u8 115, .int .u64 0, .int .i64 0, .int .u64 0, .string (str ((bs.drop c).take 0)), .bool false] (0, 0) _ rfl ?_ Try.underlying96 rfl size_part) rfl ⟨?_, ?_⟩
          · exact Blk.store6 ((((Blk.new w _ _).alloc _).drewN k).far (show w.heap.size ≠ w.heap.size + 1 from by omega) _)
          · (repeat (first | (with_reducible exact Below.refl _ _) | (with_reducible assumption) | (with_reducible refine Below.setCell ?_ (by first | omega | (simp; done) | (simp; omega)) _) | (with_reducible refine Below.alloc ?_ (by first | omega | (simp; done) | (simp; omega)) _) | (with_reducible refine Below.drew ?_) | (with_reducible refine below_drewN ?_ _)))
          · rw [hI.out]; rfl
        · rw [if_neg hca] at hconv
          go_wp2_with (simp only [hconv])
          refine bodyPost_ret (results_ctt Try.results83 _ _ w.heap.size 96 #[.int .u8 115, .int .u64 0, .int .i64 0, .int .u64 0, .string (str ((bs.drop a).take nn)), .bool false] (0, 0) _ rfl ?_ Try.underlying96 rfl size_part) rfl ⟨?_, ?_⟩
          · exact Blk.store6 ((((Blk.new w _ _).alloc _).drewN k).far (show w.heap.size ≠ w.heap.size + 1 from by omega) _)
          · (repeat (first | (with_reducible exact Below.refl _ _) | (with_reducible assumption) | (with_reducible refine Below.setCell ?_ (by first | omega | (simp; done) | (simp; omega)) _) | (with_reducible refine Below.alloc ?_ (by first | omega | (simp; done) | (simp; omega)) _) | (with_reducible refine Below.drew ?_) | (with_reducible refine below_drewN ?_ _)))
          · rw [hI.out]; rfl
end Go.Proofs.Ytocllhghbmbjpaa
