import Derived.Test.YtoeoodiifpoomaaGreatDoorRds
import Derived.Test.YtoeoodiifpoomaaGreatDoorPlain
import Derived.StillTailTactics
import Derived.OwnWalk
import Derived.Test.YtoeoodiifpoomaaGreatDoorParts
/- The walk of the document's num: the number that bytes begin with. -/
set_option linter.unusedSimpArgs false
set_option linter.unusedVariables false
set_option maxRecDepth 20000
namespace Go.Proofs.YtoeoodiifpoomaaGreatDoor
open Go.RowKit Moi
def numR : RRes Nat → Value
 | .ok (n, a) => .tuple #[.int .u64 (n : Nat), .int .i64 (a : Nat), .int .i64 0]
 | .error (c, a) => .tuple #[.int .u64 0, .int .i64 (a : Nat), .int .i64 (c : Nat)]
set_option maxHeartbeats 8000000 in
theorem num_any (A : Option Addr) (n c : Nat) (bs : List UInt8) (hn : n ≤ 140737488355328) (w : World) (hr : RdBytes w A n bs) :
  Calls Tryz.prog 169 #[.slice A n c] w fun e w' => e = .returned (numR (rU bs 0)) ∧ ∃ k, w.drewN k = w' := by
 have hlen := Lib.hid hr.len
 go_enter Tryz.func169, Tryz.ntmps169
 go_wp2_with fail
 go_loopw [5, 6, 7] (fun v5 v6 v7 wr => ∃ (i N : Nat), i ≤ n ∧ i ≤ 9 ∧ v7 = .int .i64 (i : Nat) ∧ v6 = .int .u64 ((128 ^ i : Nat) : Int) ∧ v5 = .int .u64 (N : Nat) ∧ N < 128 ^ i ∧ (∃ k, w.drewN k = wr) ∧ Hid (rU bs 0 = rUgo bs (10 - i) i N i)) (fun _ _ v7 _ => (n - intOf v7).toNat)
 case atStart => exact ⟨0, 0, Nat.zero_le _, by omega, rfl, rfl, rfl, by decide, ⟨0, rfl⟩, rfl⟩
 case round =>
  obtain ⟨i, N, hi, hi9, rfl, rfl, rfl, hN, ⟨k, rfl⟩, hH⟩ := hrel
  by_cases hlt : i < n
  ·obtain ⟨b, o, rfl, hblt, hcell⟩ := (hr.drewN k).cells (by omega)
   have hc := hcell i hlt
   have hx : byteAt bs i < 256 := UInt8.toNat_lt _
   have hstep : Hid (rUgo bs (10 - i) i N i = if i = 9 ∧ 1 < byteAt bs i then .error (1, i + 1) else if 128 ≤ byteAt bs i then rUgo bs (9 - i) (i + 1) (N + (byteAt bs i % 128) * 128 ^ i) (i + 1) else if byteAt bs i = 0 ∧ 0 < i then .error (4, i + 1) else .ok (N + (byteAt bs i % 128) * 128 ^ i, i + 1)) := by
    unfold Hid
    rw [show 10 - i = (9 - i) + 1 from by omega]
    conv => lhs; unfold rUgo
    have : rOne bs i = .ok (byteAt bs i, i + 1) := by unfold rOne; rw [if_pos (by rw [hlen.out]; exact hlt)]; rfl
    simp only [this]
   generalize byteAt bs i = x at hc hx hstep
   clear hcell
   have hrU := Lib.hid (hH.out.trans hstep.out)
   clear hH hstep
   by_cases hA : i = 9 ∧ 1 < x
   ·obtain ⟨rfl, h1⟩ := hA
    have hF : Hid (rU bs 0 = .error (1, 10)) := by unfold Hid; rw [hrU.out, if_pos ⟨rfl, h1⟩]
    have t1 : (((9 : Nat) : Int) == 9) = true := rfl
    have t2 : decide (1 < (x : Int)) = true := decide_eq_true (by omega)
    go_wp2_with fail
    go_ret3
    exact ⟨by rw [hF.out]; rfl, ⟨_, rfl⟩⟩
   have hrU2 := Lib.hid (hrU.out.trans (if_neg hA))
   clear hrU
   have hP1 : 128 ^ i ≤ 9223372036854775808 := pow128_le i hi9
   have hP2 : i ≤ 8 → 128 ^ i ≤ 72057594037927936 := fun h => by
    have : 128 ^ i ≤ 128 ^ 8 := Nat.pow_le_pow_right (by omega) h
    omega
   have hPs : 128 ^ (i + 1) = 128 ^ i * 128 := Nat.pow_succ ..
   have hsum : N + (x % 128) * 128 ^ i < 18446744073709551616 := by
    have hm : (x % 128) * 128 ^ i ≤ 127 * 128 ^ i := Nat.mul_le_mul_right _ (by omega)
    by_cases h9 : i = 9
    ·have hx1 : x % 128 ≤ 1 := by omega
     have hm1 : (x % 128) * 128 ^ i ≤ 1 * 128 ^ i := Nat.mul_le_mul_right _ hx1
     omega
    ·have := hP2 (by omega)
     omega
   have hN' : N + (x % 128) * 128 ^ i < 128 ^ i * 128 := by
    have hm : (x % 128) * 128 ^ i ≤ 127 * 128 ^ i := Nat.mul_le_mul_right _ (by omega)
    omega
   rw [← hPs] at hN'
   have hnx : Hid (128 ^ (i + 1) = 128 ^ i * 128) := hPs
   generalize hPe : 128 ^ i = P at *
   have hmul : (((x % 128 : Nat) : Int) * ((P : Nat) : Int)) = (((x % 128) * P : Nat) : Int) := by rw [Int.natCast_mul]
   generalize hQe : (x % 128) * P = Q at *
   have w1 : IntKind.u64.wrap ((Q : Nat) : Int) = ((Q : Nat) : Int) := IntWalk.u64_in _ (by omega)
   have w2 : IntKind.u64.wrap (((N : Nat) : Int) + ((Q : Nat) : Int)) = ((N + Q : Nat) : Int) := by rw [← Int.natCast_add]; exact IntWalk.u64_in _ (by omega)
   have w3 : (x : Int).tmod 128 = ((x % 128 : Nat) : Int) := by rw [Int.tmod_eq_emod_of_nonneg (by omega)]; omega
   have t9 : ((i : Int) == 9) = true ∧ decide (1 < (x : Int)) = false ∨ ((i : Int) == 9) = false := by
    by_cases h : i = 9
    ·exact .inl ⟨by rw [beq_iff_eq]; omega, decide_eq_false (by omega)⟩
    ·exact .inr (by rw [beq_eq_false_iff_ne]; omega)
   by_cases h128 : 128 ≤ x
   ·have ti : ((i : Int) == 9) = false := by rw [beq_eq_false_iff_ne]; omega
    have t3 : decide ((x : Int) < 128) = false := decide_eq_false (by omega)
    have hP3 := hP2 (by omega)
    have hi8 : i + 1 ≤ 9 := by omega
    have hF : Hid (rU bs 0 = rUgo bs (10 - (i + 1)) (i + 1) (N + Q) (i + 1)) := by unfold Hid; rw [hrU2.out, if_pos h128]; rw [show 10 - (i + 1) = 9 - i from by omega]
    have w4 : IntKind.u64.wrap (((P : Nat) : Int) * 128) = ((P * 128 : Nat) : Int) := by rw [show ((P : Nat) : Int) * 128 = ((P * 128 : Nat) : Int) from by omega]; exact IntWalk.u64_in _ (by omega)
    clear t9 hrU2 hA h128 hP2
    go_wp2_with (simp only [w3, hmul, w1, w2, w4])
    refine ⟨⟨i + 1, N + Q, hlt, hi8, congrArg (Value.int .i64) (by omega), congrArg (Value.int .u64) (by rw [hnx.out]; omega), congrArg (Value.int .u64) ?_, by rw [hnx.out]; omega, ⟨_, rfl⟩, hF⟩, by simp [intOf]; omega⟩
    rw [show ((x : Int) % 128) = ((x % 128 : Nat) : Int) from by omega, hmul, w1, w2]
   ·have t3 : decide ((x : Int) < 128) = true := decide_eq_true (by omega)
    have hval : IntKind.u64.wrap ((N : Int) + IntKind.u64.wrap ((x : Int) % 128 * (P : Int))) = ((N + Q : Nat) : Int) := by
     rw [show ((x : Int) % 128) = ((x % 128 : Nat) : Int) from by omega, hmul, w1, w2]
    by_cases hz : x = 0 ∧ 0 < i
    ·obtain ⟨rfl, h0⟩ := hz
     have hF : Hid (rU bs 0 = .error (4, i + 1)) := by unfold Hid; rw [hrU2.out, if_neg h128, if_pos ⟨rfl, h0⟩]
     have t4 : (((0 : Nat) : Int) == 0) = true := rfl
     have t5 : decide (0 < (i : Int)) = true := decide_eq_true (by omega)
     have t5' : decide (0 < i) = true := decide_eq_true h0
     clear hrU2 hA h128 hP2 hval
     rcases t9 with ⟨t9, t10⟩ | t9
     ·go_wp2_with fail
      go_ret3
      exact ⟨by rw [hF.out]; rfl, ⟨_, rfl⟩⟩
     ·go_wp2_with fail
      go_ret3
      exact ⟨by rw [hF.out]; rfl, ⟨_, rfl⟩⟩
    ·have hF : Hid (rU bs 0 = .ok (N + Q, i + 1)) := by unfold Hid; rw [hrU2.out, if_neg h128, if_neg hz]
     have tz : (((x : Int) == 0) = false) ∨ ((((x : Int) == 0) = true) ∧ decide (0 < (i : Int)) = false ∧ decide (0 < i) = false) := by
      by_cases h : x = 0
      ·exact .inr ⟨by rw [beq_iff_eq]; omega, decide_eq_false (by omega), decide_eq_false (by omega)⟩
      ·exact .inl (by rw [beq_eq_false_iff_ne]; omega)
     have hval' := Lib.hid hval
     clear hrU2 hA h128 hP2 hz hval
     rcases t9 with ⟨t9, t10⟩ | t9 <;> rcases tz with tz | ⟨tz, tz2, tz3⟩
     all_goals
      go_wp2_with fail
      go_ret3
      exact ⟨by rw [hF.out]; exact congrArg (fun v => Ending.returned (.tuple #[.int .u64 v, .int .i64 ((i : Int) + 1), .int .i64 0])) hval'.out, ⟨_, rfl⟩⟩
  ·obtain rfl : i = n := by omega
   have t2 : decide ((i : Int) < (i : Int)) = false := decide_eq_false (by omega)
   have hF : Hid (rU bs 0 = .error (2, i)) := by
    unfold Hid
    rw [hH.out, show 10 - i = (9 - i) + 1 from by omega]
    unfold rUgo
    have : rOne bs i = .error (2, i) := by unfold rOne; rw [if_neg (by rw [hlen.out]; omega)]
    simp only [this]
   go_wp2_with fail
   go_ret3
   exact ⟨by rw [hF.out]; rfl, ⟨_, rfl⟩⟩
end Go.Proofs.YtoeoodiifpoomaaGreatDoor

/- The walks of the document's number, zag and First. -/
namespace Go.Proofs.YtoeoodiifpoomaaGreatDoor
open Go.RowKit Moi
attribute [local go_sem] toList_str str_size less_ltB store_float
theorem zag_any (n : Nat) (hn : n < 18446744073709551616) (w : World) : Calls Tryz.prog 170 #[.int .u64 (n : Nat)] w fun e w' => e = .returned (.int .i64 (unzig n)) ∧ w = w' := by
 have w3 : (n : Int).tmod 2 = ((n % 2 : Nat) : Int) := by rw [Int.tmod_eq_emod_of_nonneg (by omega)]; omega
 have w4 : (n : Int).tdiv 2 = ((n / 2 : Nat) : Int) := by rw [Int.tdiv_eq_ediv_of_nonneg (by omega)]; omega
 by_cases h : n % 2 = 1
 ·have hE : Hid (unzig n = -((n / 2 : Nat) : Int) - 1) := by unfold Hid unzig; rw [if_pos h]
  have t1 : ((n : Int) % 2 == 1) = true := by rw [beq_iff_eq]; omega
  have w5 : IntKind.i64.wrap ((n / 2 : Nat) : Int) = ((n / 2 : Nat) : Int) := IntWalk.i64_in _ (by omega)
  go_enter Tryz.func170, Tryz.ntmps170
  go_wp2_with (simp only [w3, w4, w5])
  go_ret
  refine ⟨ret_int ?_, rfl⟩
  rw [hE.out]
  omega
 ·have hE : Hid (unzig n = ((n / 2 : Nat) : Int)) := by unfold Hid unzig; rw [if_neg h]
  have t1 : ((n : Int) % 2 == 1) = false := by rw [beq_eq_false_iff_ne]; omega
  go_enter Tryz.func170, Tryz.ntmps170
  go_wp2_with (simp only [w3, w4])
  go_ret
  refine ⟨ret_int ?_, rfl⟩
  rw [hE.out]
  omega
def numberB (k : Nat) : Bool := (fback k).isSome
theorem numberB_hi (k : Nat) (hk : k < 18446744073709551616) (h : 9223372036854775808 ≤ k) : numberB k = (decide (k - 9223372036854775808 ≤ 9218868437227405312) || (k - 9223372036854775808 == 9221120237041090561)) := by
 have e : funkey k = k - 9223372036854775808 := by unfold funkey fsign; rw [if_pos h]
 have hm : (k - 9223372036854775808) % 9223372036854775808 = k - 9223372036854775808 := by omega
 unfold numberB fback
 rw [e]
 by_cases h1 : k - 9223372036854775808 ≤ 9218868437227405312
 ·have hc : canon (k - 9223372036854775808) = k - 9223372036854775808 := by unfold canon isNaN; rw [hm, if_neg (by simp; omega)]
  have : fkey (k - 9223372036854775808) = k := by unfold fkey fsign; rw [hc, if_neg (by omega)]; omega
  rw [if_pos this]; simp [h1]
 ·have hc : canon (k - 9223372036854775808) = 9221120237041090561 := by unfold canon isNaN theNaN; rw [hm, if_pos (by simp; omega)]
  have hf : fkey (k - 9223372036854775808) = 18444492273895866369 := by unfold fkey fsign; rw [hc]; decide
  rw [hf]
  by_cases h2 : k = 18444492273895866369
  ·subst h2; decide
  ·rw [if_neg (by omega)]
   have : ¬ (k - 9223372036854775808 = 9221120237041090561) := by omega
   simp [h1, this]
theorem numberB_lo (k : Nat) (h : k < 9223372036854775808) : numberB k = decide (9223372036854775807 - k ≤ 9218868437227405312) := by
 have e : funkey k = 18446744073709551615 - k := by unfold funkey fsign; rw [if_neg (by omega)]
 have hm : (18446744073709551615 - k) % 9223372036854775808 = 9223372036854775807 - k := by omega
 unfold numberB fback
 rw [e]
 by_cases h1 : 9223372036854775807 - k ≤ 9218868437227405312
 ·have hc : canon (18446744073709551615 - k) = 18446744073709551615 - k := by unfold canon isNaN; rw [hm, if_neg (by simp; omega)]
  have : fkey (18446744073709551615 - k) = k := by unfold fkey fsign; rw [hc, if_pos (by omega)]; omega
  rw [if_pos this]; simp [h1]
 ·have hc : canon (18446744073709551615 - k) = 9221120237041090561 := by unfold canon isNaN theNaN; rw [hm, if_pos (by simp; omega)]
  have hf : fkey (18446744073709551615 - k) = 18444492273895866369 := by unfold fkey fsign; rw [hc]; decide
  rw [hf, if_neg (by omega)]; simp [h1]
theorem numberB_any (k : Nat) (hk : k < 18446744073709551616) (w : World) : Calls Tryz.prog 168 #[.int .u64 (k : Nat)] w fun e w' => e = .returned (.bool (numberB k)) ∧ w = w' := by
 by_cases h : 9223372036854775808 ≤ k
 ·have hE := Lib.hid (numberB_hi k hk h)
  have t1 : decide ((9223372036854775808 : Int) ≤ (k : Int)) = true := decide_eq_true (by omega)
  have w1 : IntKind.u64.wrap ((k : Int) - 9223372036854775808) = (k : Int) - 9223372036854775808 := IntWalk.u64_in _ (by omega)
  have i1 : (9223372036854775808 : Int) ≤ (k : Int) := by omega
  have i2 : (k : Int) < 18446744073709551616 := by omega
  by_cases h1 : k - 9223372036854775808 ≤ 9218868437227405312
  ·have t2 : decide ((k : Int) - 9223372036854775808 ≤ 9218868437227405312) = true := decide_eq_true (by omega)
   have hF : Hid (numberB k = true) := by unfold Hid; rw [hE.out]; simp [h1]
   clear hE h h1 hk
   go_enter Tryz.func168, Tryz.ntmps168
   go_wp2_with fail
   go_ret
   exact ⟨ret_bool hF.out.symm, rfl⟩
  ·have t2 : decide ((k : Int) - 9223372036854775808 ≤ 9218868437227405312) = false := decide_eq_false (by omega)
   have hF : Hid (numberB k = ((k : Int) - 9223372036854775808 == 9221120237041090561)) := by
    unfold Hid; rw [hE.out, Bool.eq_iff_iff]; simp [h1]; omega
   clear hE h h1 hk
   go_enter Tryz.func168, Tryz.ntmps168
   go_wp2_with fail
   go_ret
   exact ⟨ret_bool hF.out.symm, rfl⟩
 ·have hE := Lib.hid (numberB_lo k (by omega))
  have t1 : decide ((9223372036854775808 : Int) ≤ (k : Int)) = false := decide_eq_false (by omega)
  have hF : Hid (numberB k = decide ((9223372036854775807 : Int) - (k : Int) ≤ 9218868437227405312)) := by
   unfold Hid; rw [hE.out, decide_eq_decide]; omega
  clear hE
  go_enter Tryz.func168, Tryz.ntmps168
  go_wp2_with fail
  go_ret
  exact ⟨ret_bool hF.out.symm, rfl⟩
theorem results_ctt {P : Program} {fn : Func} {p u v : Tmp} {ty : TypeId} (h : fn.results = #[.cell p ty, .tmp u, .tmp v]) (tmps : Array Value) (w : World) (g : Nat) (t : TypeId) (cs : Array Value) (fr : Nat × Nat) (d : TypeDesc)
  (hp : tmps.getD p undef = .pointer (some ⟨g, 0, none⟩)) (hg : w.heap[g]? = some (.cells cs t fr))
  (hu : P.underlying ty = some d) (hd : (match d with | .struct _ | .array _ _ => true | _ => false) = true) (hi : (P.info? ty).map (·.size) = some cs.size) :
  (results fn tmps).run P w = .ok (.tuple #[.agg cs, tmps.getD u undef, tmps.getD v undef]) w := by
 have h1 : tmps[p]?.getD undef = .pointer (some ⟨g, 0, none⟩) := by simpa using hp
 simp [results, h, h1, asAddr, run_loadVar_row w g t ty cs fr d hg hu hd hi]
def FirstPost (w : World) (res : RRes MPart) (e : Ending) (w' : World) : Prop :=
 Cln w w' ∧ match res with
 | .ok (p, a) => e = .returned (.tuple #[.agg (partCells p), .int .i64 (a : Nat), .int .i64 0])
 | .error (c, a) => ∃ (x0 x1 x2 x3 : Int) (x4 : ByteArray) (x5 : Bool), e = .returned (.tuple #[.agg #[.int .u8 x0, .int .u64 x1, .int .i64 x2, .int .u64 x3, .string x4, .bool x5], .int .i64 (a : Nat), .int .i64 (c : Nat)])
theorem partCells_typed (p : MPart) : ∃ (x0 x1 x2 x3 : Int) (x4 : ByteArray) (x5 : Bool), partCells p = #[.int .u8 x0, .int .u64 x1, .int .i64 x2, .int .u64 x3, .string x4, .bool x5] := by
 cases p <;> exact ⟨_, _, _, _, _, _, rfl⟩
def mapR {α β : Type} (f : α → β) : RRes α → RRes β
 | .ok (x, a) => .ok (f x, a)
 | .error e => .error e
theorem Blk.store1 {w : World} {g : Nat} {t : TypeId} {cs : Array Value} (h : Blk w g t cs) (i : Nat) (v : Value) {cs' : Array Value} (e : cs.setIfInBounds i v = cs') : Blk (w.setCell ⟨g, i, none⟩ v) g t cs' := e ▸ h.set_ i v
set_option maxHeartbeats 8000000 in
theorem first_u (A : Option Addr) (n c : Nat) (bs : List UInt8) (hn : n ≤ 140737488355328) (m : Int) (w : World) (hr : RdBytes w A n bs) :
  Calls Tryz.prog 135 #[.slice A n c, .int .u8 117, .int .i64 m] w (FirstPost w (mapR .u (rU bs 0))) := by
 go_enter Tryz.func135, Tryz.ntmps135
 go_wp2_with fail
 refine (num_any A n c bs hn _ (hr.cln (by (repeat with_reducible first | exact cR _ | assumption | refine cA ?_ _ | refine cD ?_ | refine cN ?_ _ | refine cS ?_ (by first | omega | (simp <;> omega)) _)))).mono ?_
 rintro e w1 ⟨rfl, k, rfl⟩
 cases hU : rU bs 0 with
 | error er =>
  obtain ⟨cd, a⟩ := er
  have hnz := rU_nz hU
  have t1 : (((cd : Nat) : Int) != 0) = true := by rw [bne_iff_ne]; simp at hnz; omega
  simp only [numR]
  go_wp2_with fail
  refine bodyPost_ret (results_ctt Tryz.results135 _ _ w.heap.size 132 #[.int .u8 117, .int .u64 0, .int .i64 0, .int .u64 0, .string ⟨#[]⟩, .bool false] (0, 0) _ rfl ?_ Tryz.underlying132 rfl size_part) rfl ⟨?_, _, _, _, _, _, _, rfl⟩
  ·exact Blk.store6 (((Blk.new w _ _).alloc _).drewN k)
  ·(repeat with_reducible first | exact cR _ | assumption | refine cA ?_ _ | refine cD ?_ | refine cN ?_ _ | refine cS ?_ (by first | omega | (simp <;> omega)) _)
 | ok x =>
  obtain ⟨nn, a⟩ := x
  simp only [numR]
  go_wp2_with fail
  refine bodyPost_ret (results_ctt Tryz.results135 _ _ w.heap.size 132 #[.int .u8 117, .int .u64 (nn : Nat), .int .i64 0, .int .u64 0, .string ⟨#[]⟩, .bool false] (0, 0) _ rfl ?_ Tryz.underlying132 rfl size_part) rfl ⟨?_, by rw [hU]; rfl⟩
  ·exact Blk.store6 ((((Blk.new w _ _).alloc _).drewN k).far (show w.heap.size ≠ w.heap.size + 1 from by omega) _)
  ·(repeat with_reducible first | exact cR _ | assumption | refine cA ?_ _ | refine cD ?_ | refine cN ?_ _ | refine cS ?_ (by first | omega | (simp <;> omega)) _)
set_option maxHeartbeats 8000000 in
theorem first_i (A : Option Addr) (n c : Nat) (bs : List UInt8) (hn : n ≤ 140737488355328) (m : Int) (w : World) (hr : RdBytes w A n bs) :
  Calls Tryz.prog 135 #[.slice A n c, .int .u8 105, .int .i64 m] w (FirstPost w (mapR .i (rI bs 0))) := by
 go_enter Tryz.func135, Tryz.ntmps135
 go_wp2_with fail
 refine (num_any A n c bs hn _ (hr.cln (by (repeat with_reducible first | exact cR _ | assumption | refine cA ?_ _ | refine cD ?_ | refine cN ?_ _ | refine cS ?_ (by first | omega | (simp <;> omega)) _)))).mono ?_
 rintro e w1 ⟨rfl, k, rfl⟩
 cases hU : rU bs 0 with
 | error er =>
  obtain ⟨cd, a⟩ := er
  have hnz := rU_nz hU
  have t1 : (((cd : Nat) : Int) != 0) = true := by rw [bne_iff_ne]; simp at hnz; omega
  simp only [numR]
  have hI : Hid (rI bs 0 = .error (cd, a)) := by unfold Hid rI; rw [hU]
  go_wp2_with fail
  refine bodyPost_ret (results_ctt Tryz.results135 _ _ w.heap.size 132 #[.int .u8 105, .int .u64 0, .int .i64 0, .int .u64 0, .string ⟨#[]⟩, .bool false] (0, 0) _ rfl ?_ Tryz.underlying132 rfl size_part) rfl ⟨?_, ?_⟩
  ·exact Blk.store6 (((Blk.new w _ _).alloc _).drewN k)
  ·(repeat with_reducible first | exact cR _ | assumption | refine cA ?_ _ | refine cD ?_ | refine cN ?_ _ | refine cS ?_ (by first | omega | (simp <;> omega)) _)
  ·rw [hI.out]; exact ⟨_, _, _, _, _, _, rfl⟩
 | ok x =>
  obtain ⟨nn, a⟩ := x
  have hI : Hid (rI bs 0 = .ok (unzig nn, a)) := by unfold Hid rI; rw [hU]
  have hlt := rU_lt hU
  simp only [numR]
  go_wp2_with fail
  refine (zag_any nn hlt _).mono ?_
  rintro e w2 ⟨rfl, rfl⟩
  go_wp2_with fail
  refine bodyPost_ret (results_ctt Tryz.results135 _ _ w.heap.size 132 #[.int .u8 105, .int .u64 0, .int .i64 (unzig nn), .int .u64 0, .string ⟨#[]⟩, .bool false] (0, 0) _ rfl ?_ Tryz.underlying132 rfl size_part) rfl ⟨?_, ?_⟩
  ·exact Blk.store6 ((((Blk.new w _ _).alloc _).drewN k).far (show w.heap.size ≠ w.heap.size + 1 from by omega) _)
  ·(repeat with_reducible first | exact cR _ | assumption | refine cA ?_ _ | refine cD ?_ | refine cN ?_ _ | refine cS ?_ (by first | omega | (simp <;> omega)) _)
  ·rw [hI.out]; rfl
theorem rU_le {b : List UInt8} {x a' : Nat} (h : rU b 0 = .ok (x, a')) : a' ≤ b.length := by
 obtain ⟨_, hd⟩ := rU_at h
 have h2 := rU_of (rU_lt h) hd
 rw [h] at h2
 injection h2 with h2; injection h2 with _ h2
 have := congrArg List.length hd
 simp only [List.drop_zero, List.length_append, List.length_drop] at this
 omega
set_option maxHeartbeats 8000000 in
theorem first_s (A : Option Addr) (n c : Nat) (bs : List UInt8) (hn : n ≤ 140737488355328) (hc : n ≤ c) (M : Nat) (hM : M ≤ 1000000) (w : World) (hr : RdBytes w A n bs) :
  Calls Tryz.prog 135 #[.slice A n c, .int .u8 115, .int .i64 (M : Nat)] w (FirstPost w (mapR .s (rS M bs 0))) := by
 have hr1 := hr.cln (show Cln w ((w.alloc (.cells #[.int .u8 0, .int .u64 0, .int .i64 0, .int .u64 0, .string ⟨#[]⟩, .bool false] 132)).alloc (.cells #[.int .u8 115, .int .u64 0, .int .i64 0, .int .u64 0, .string ⟨#[]⟩, .bool false] 132)) from by (repeat with_reducible first | exact cR _ | assumption | refine cA ?_ _ | refine cD ?_ | refine cN ?_ _ | refine cS ?_ (by first | omega | (simp <;> omega)) _))
 have hlen := Lib.hid hr.len
 have tM : decide ((M : Int) < 0) = false := decide_eq_false (by omega)
 go_enter Tryz.func135, Tryz.ntmps135
 go_wp2_with fail
 refine (num_any A n c bs hn _ hr1).mono ?_
 rintro e w1 ⟨rfl, k, rfl⟩
 cases hU : rU bs 0 with
 | error er =>
  obtain ⟨cd, a⟩ := er
  have hnz := rU_nz hU
  have t1 : (((cd : Nat) : Int) != 0) = true := by rw [bne_iff_ne]; simp at hnz; omega
  simp only [numR]
  have hI : Hid (rS M bs 0 = .error (cd, a)) := by unfold Hid rS; rw [hU]
  go_wp2_with fail
  refine bodyPost_ret (results_ctt Tryz.results135 _ _ w.heap.size 132 #[.int .u8 115, .int .u64 0, .int .i64 0, .int .u64 0, .string ⟨#[]⟩, .bool false] (0, 0) _ rfl ?_ Tryz.underlying132 rfl size_part) rfl ⟨?_, ?_⟩
  ·exact Blk.store6 (((Blk.new w _ _).alloc _).drewN k)
  ·(repeat with_reducible first | exact cR _ | assumption | refine cA ?_ _ | refine cD ?_ | refine cN ?_ _ | refine cS ?_ (by first | omega | (simp <;> omega)) _)
  ·rw [hI.out]; exact ⟨_, _, _, _, _, _, rfl⟩
 | ok x =>
  obtain ⟨nn, a⟩ := x
  have hlt := rU_lt hU
  have hle := rU_le hU
  rw [hlen.out] at hle
  simp only [numR]
  have wM : IntKind.u64.wrap ((M : Nat) : Int) = ((M : Nat) : Int) := IntWalk.u64_in _ (by omega)
  by_cases h1 : M < nn
  ·have hI : Hid (rS M bs 0 = .error (3, a)) := by unfold Hid rS; simp only [hU]; rw [if_pos h1]
   have t1 : decide ((M : Int) < (nn : Int)) = true := decide_eq_true (by omega)
   have t1' : decide (M < nn) = true := decide_eq_true h1
   clear hU h1
   go_wp2_with fail
   refine bodyPost_ret (results_ctt Tryz.results135 _ _ w.heap.size 132 #[.int .u8 115, .int .u64 0, .int .i64 0, .int .u64 0, .string ⟨#[]⟩, .bool false] (0, 0) _ rfl ?_ Tryz.underlying132 rfl size_part) rfl ⟨?_, ?_⟩
   ·exact Blk.store6 (((Blk.new w _ _).alloc _).drewN k)
   ·(repeat with_reducible first | exact cR _ | assumption | refine cA ?_ _ | refine cD ?_ | refine cN ?_ _ | refine cS ?_ (by first | omega | (simp <;> omega)) _)
   ·rw [hI.out]; exact ⟨_, _, _, _, _, _, rfl⟩
  ·have t1 : decide ((M : Int) < (nn : Int)) = false := decide_eq_false (by omega)
   have t1' : decide (M < nn) = false := decide_eq_false h1
   have w2 : IntKind.i64.wrap ((n : Int) - (a : Int)) = (n : Int) - (a : Int) := IntWalk.i64_in _ (by omega)
   have w3 : IntKind.u64.wrap ((n : Int) - (a : Int)) = (n : Int) - (a : Int) := IntWalk.u64_in _ (by omega)
   by_cases h2 : n - a < nn
   ·have hI : Hid (rS M bs 0 = .error (2, a)) := by unfold Hid rS; simp only [hU]; rw [if_neg h1, if_pos (by rw [hlen.out]; exact h2)]
    have t2 : decide ((n : Int) - (a : Int) < (nn : Int)) = true := decide_eq_true (by omega)
    clear hU h1 h2
    go_wp2_with fail
    refine bodyPost_ret (results_ctt Tryz.results135 _ _ w.heap.size 132 #[.int .u8 115, .int .u64 0, .int .i64 0, .int .u64 0, .string ⟨#[]⟩, .bool false] (0, 0) _ rfl ?_ Tryz.underlying132 rfl size_part) rfl ⟨?_, ?_⟩
    ·exact Blk.store6 (((Blk.new w _ _).alloc _).drewN k)
    ·(repeat with_reducible first | exact cR _ | assumption | refine cA ?_ _ | refine cD ?_ | refine cN ?_ _ | refine cS ?_ (by first | omega | (simp <;> omega)) _)
    ·rw [hI.out]; exact ⟨_, _, _, _, _, _, rfl⟩
   ·have hI : Hid (rS M bs 0 = .ok ((bs.drop a).take nn, a + nn)) := by unfold Hid rS; simp only [hU]; rw [if_neg h1, if_neg (by rw [hlen.out]; exact h2)]
    have t2 : decide ((n : Int) - (a : Int) < (nn : Int)) = false := decide_eq_false (by omega)
    have hax : a + nn ≤ n := by omega
    have w4 : IntKind.i64.wrap (nn : Int) = (nn : Int) := IntWalk.i64_in _ (by omega)
    have w5 : IntKind.i64.wrap ((a : Int) + (nn : Int)) = (a : Int) + (nn : Int) := IntWalk.i64_in _ (by omega)
    have hb1 : (0 : Int) ≤ (a : Int) := by omega
    have hb2 : (a : Int) ≤ (a : Int) + (nn : Int) := by omega
    have hb3 : (a : Int) + (nn : Int) ≤ (c : Int) := by omega
    have hconv := conv_cut (hr1.drewN k) a nn c hax hc
    clear hU h1 h2 hr1
    by_cases hca : c = a
    ·subst hca
     obtain rfl : nn = 0 := by omega
     rw [if_pos rfl, Nat.sub_self] at hconv
     go_wp2_with (simp only [hconv])
     refine bodyPost_ret (results_ctt Tryz.results135 _ _ w.heap.size 132 #[.int .u8 115, .int .u64 0, .int .i64 0, .int .u64 0, .string (str ((bs.drop c).take 0)), .bool false] (0, 0) _ rfl ?_ Tryz.underlying132 rfl size_part) rfl ⟨?_, ?_⟩
     ·exact Blk.store6 ((((Blk.new w _ _).alloc _).drewN k).far (show w.heap.size ≠ w.heap.size + 1 from by omega) _)
     ·(repeat with_reducible first | exact cR _ | assumption | refine cA ?_ _ | refine cD ?_ | refine cN ?_ _ | refine cS ?_ (by first | omega | (simp <;> omega)) _)
     ·rw [hI.out]; rfl
    ·rw [if_neg hca] at hconv
     go_wp2_with (simp only [hconv])
     refine bodyPost_ret (results_ctt Tryz.results135 _ _ w.heap.size 132 #[.int .u8 115, .int .u64 0, .int .i64 0, .int .u64 0, .string (str ((bs.drop a).take nn)), .bool false] (0, 0) _ rfl ?_ Tryz.underlying132 rfl size_part) rfl ⟨?_, ?_⟩
     ·exact Blk.store6 ((((Blk.new w _ _).alloc _).drewN k).far (show w.heap.size ≠ w.heap.size + 1 from by omega) _)
     ·(repeat with_reducible first | exact cR _ | assumption | refine cA ?_ _ | refine cD ?_ | refine cN ?_ _ | refine cS ?_ (by first | omega | (simp <;> omega)) _)
     ·rw [hI.out]; rfl
theorem rPlaceGo_short (b : List UInt8) : ∀ i k a, a ≤ b.length → b.length < a + i → rPlaceGo b i k a = .error (2, b.length)
 | 0, k, a, h1, h2 => by omega
 | i + 1, k, a, h1, h2 => by
  unfold rPlaceGo rOne
  by_cases h : a < b.length
  ·rw [if_pos h]; exact rPlaceGo_short b i _ (a + 1) (by omega) (by omega)
  ·rw [if_neg h]
   have : a = b.length := by omega
   subst this; rfl
set_option maxHeartbeats 8000000 in
theorem first_f (A : Option Addr) (n c : Nat) (bs : List UInt8) (hn : n ≤ 140737488355328) (m : Int) (w : World) (hr : RdBytes w A n bs) :
  Calls Tryz.prog 135 #[.slice A n c, .int .u8 102, .int .i64 m] w (FirstPost w (mapR (fun x => .f (fkey x)) (rF bs 0))) := by
 have hlen := Lib.hid hr.len
 have hb0 := (Blk.new w 132 #[.int .u8 0, .int .u64 0, .int .i64 0, .int .u64 0, .string ⟨#[]⟩, .bool false]).alloc (.cells #[.int .u8 102, .int .u64 0, .int .i64 0, .int .u64 0, .string ⟨#[]⟩, .bool false] 132)
 have hb1 := Blk.new (w.alloc (.cells #[.int .u8 0, .int .u64 0, .int .i64 0, .int .u64 0, .string ⟨#[]⟩, .bool false] 132)) 132 #[.int .u8 102, .int .u64 0, .int .i64 0, .int .u64 0, .string ⟨#[]⟩, .bool false]
 rw [World.size_alloc] at hb1
 have hcl0 := Lib.hid (show Cln w ((w.alloc (.cells #[.int .u8 0, .int .u64 0, .int .i64 0, .int .u64 0, .string ⟨#[]⟩, .bool false] 132)).alloc (.cells #[.int .u8 102, .int .u64 0, .int .i64 0, .int .u64 0, .string ⟨#[]⟩, .bool false] 132)) from by (repeat with_reducible first | exact cR _ | assumption | refine cA ?_ _ | refine cD ?_ | refine cN ?_ _ | refine cS ?_ (by first | omega | (simp <;> omega)) _))
 replace hb0 := Lib.hid hb0; replace hb1 := Lib.hid hb1
 go_enter Tryz.func135, Tryz.ntmps135
 by_cases h8 : n < 8
 ·have t1 : decide ((n : Int) < 8) = true := decide_eq_true (by omega)
  have hI : Hid (rF bs 0 = .error (2, n)) := by
   unfold Hid rF
   rw [rPlaceGo_short bs 8 0 0 (by omega) (by rw [hlen.out]; omega), hlen.out]
  clear h8
  go_wp2_with fail
  refine bodyPost_ret (results_ctt Tryz.results135 _ _ w.heap.size 132 #[.int .u8 102, .int .u64 0, .int .i64 0, .int .u64 0, .string ⟨#[]⟩, .bool false] (0, 0) _ rfl ?_ Tryz.underlying132 rfl size_part) rfl ⟨?_, ?_⟩
  ·exact (Blk.new w _ _).alloc _
  ·(repeat with_reducible first | exact cR _ | assumption | refine cA ?_ _ | refine cD ?_ | refine cN ?_ _ | refine cS ?_ (by first | omega | (simp <;> omega)) _)
  ·rw [hI.out]; exact ⟨_, _, _, _, _, _, rfl⟩
 have t1 : decide ((n : Int) < 8) = false := decide_eq_false (by omega)
 go_wp2_with fail
 go_loopw [11] (fun v wr => ∃ (i K : Nat), i ≤ 8 ∧ v = .int .i64 (i : Nat) ∧ K < 256 ^ i ∧ Hid (Cln w wr) ∧ Hid (Blk wr w.heap.size 132 #[.int .u8 0, .int .u64 0, .int .i64 0, .int .u64 0, .string ⟨#[]⟩, .bool false]) ∧ Hid (Blk wr (w.heap.size + 1) 132 #[.int .u8 102, .int .u64 0, .int .i64 0, .int .u64 (K : Nat), .string ⟨#[]⟩, .bool false]) ∧ Hid (rPlaceGo bs 8 0 0 = rPlaceGo bs (8 - i) K i)) (fun v _ => (8 - intOf v).toNat)
 case atStart => exact ⟨0, 0, by omega, rfl, by decide, Lib.hid (cln_trans hcl0.out (by (repeat with_reducible first | exact cR _ | assumption | refine cA ?_ _ | refine cD ?_ | refine cN ?_ _ | refine cS ?_ (by first | omega | (simp <;> omega)) _))), Lib.hid (hb0.out.cln (by (repeat with_reducible first | exact cR _ | assumption | refine cA ?_ _ | refine cD ?_ | refine cN ?_ _ | refine cS ?_ (by first | omega | (simp <;> omega)) _))), Lib.hid (hb1.out.cln (by (repeat with_reducible first | exact cR _ | assumption | refine cA ?_ _ | refine cD ?_ | refine cN ?_ _ | refine cS ?_ (by first | omega | (simp <;> omega)) _))), rfl⟩
 case round =>
  obtain ⟨i, K, hi, rfl, hK, hcl, hB0, hB1, hH⟩ := hrel
  by_cases hlt : i < 8
  ·obtain ⟨b, o, rfl, hblt0, hcell0⟩ := hr.cells (by omega)
   obtain ⟨b2, o2, e2, hblt, hcell⟩ := (hr.cln hcl.out).cells (by omega)
   injection e2 with e2; injection e2 with e3 e4; subst e3; subst e4
   have hc := hcell i (by omega)
   have hx : byteAt bs i < 256 := UInt8.toNat_lt _
   have hstep : Hid (rPlaceGo bs (8 - i) K i = rPlaceGo bs (8 - (i + 1)) (K * 256 + byteAt bs i) (i + 1)) := by
    unfold Hid
    rw [show 8 - i = (8 - (i + 1)) + 1 from by omega]
    conv => lhs; unfold rPlaceGo
    have : rOne bs i = .ok (byteAt bs i, i + 1) := by unfold rOne; rw [if_pos (by rw [hlen.out]; omega)]; rfl
    simp only [this]
   generalize byteAt bs i = x at hc hx hstep
   clear hcell hcell0
   have hpow : 256 ^ (i + 1) = 256 ^ i * 256 := Nat.pow_succ ..
   have hK7 : K < 72057594037927936 := by
    have : 256 ^ i ≤ 256 ^ 7 := Nat.pow_le_pow_right (by omega) (by omega)
    have e7 : (256 : Nat) ^ 7 = 72057594037927936 := by decide
    omega
   have hK2 : K * 256 + x < 256 ^ (i + 1) := by omega
   clear hpow
   have w1 : IntKind.u64.wrap ((K : Int) * 256) = ((K * 256 : Nat) : Int) := by rw [show (K : Int) * 256 = ((K * 256 : Nat) : Int) from by omega]; exact IntWalk.u64_in _ (by omega)
   have w2 : IntKind.u64.wrap (((K * 256 : Nat) : Int) + (x : Int)) = ((K * 256 + x : Nat) : Int) := by rw [← Int.natCast_add]; exact IntWalk.u64_in _ (by omega)
   have c3 := hB1.out.cell 3
   have hf3 := hB1.out.frozen 3
   have hl1 := hB1.out.lt
   have hcl' := hcl.out
   have hbl : b < wr.heap.size := hblt
   have hi8 : (i : Int) < (n : Int) := by omega
   have hneb : ¬ b = w.heap.size + 1 := by omega
   have hin : i < n := by omega
   have hval : IntKind.u64.wrap ((K : Int) * 256 + (x : Int)) = ((K * 256 + x : Nat) : Int) := by rw [show (K : Int) * 256 + (x : Int) = ((K * 256 + x : Nat) : Int) from by omega]; exact IntWalk.u64_in _ (by omega)
   replace hval := Lib.hid hval
   clear hK7 h8
   go_wp2_with fail
   (refine region_tail 10 (by kernel_rfl) (by kernel_rfl) ?_; simp only [List.take_succ_cons, List.take_zero, List.drop_succ_cons, List.drop_zero]; (repeat still_step); refine wpStill_nil ?_)
   go_wp2_with (simp only [w1, w2])
   rw [hval.out]
   refine ⟨⟨i + 1, K * 256 + x, by omega, congrArg (Value.int .i64) (by omega), hK2, Lib.hid (by (repeat with_reducible first | exact cR _ | assumption | refine cA ?_ _ | refine cD ?_ | refine cN ?_ _ | refine cS ?_ (by first | omega | (simp <;> omega)) _)), Lib.hid (hB0.out.far (show w.heap.size ≠ w.heap.size + 1 from by omega) _), Lib.hid (Blk.store1 hB1.out 3 _ rfl), by unfold Hid; rw [hH.out, hstep.out]⟩, by simp [intOf]; omega⟩
  ·obtain rfl : i = 8 := by omega
   have hP : Hid (rPlaceGo bs 8 0 0 = .ok (K, 8)) := by unfold Hid; rw [hH.out]; rfl
   have hKl : K < 18446744073709551616 := by
    have e8 : (256 : Nat) ^ 8 = 18446744073709551616 := by decide
    omega
   have c0 := hB1.out.cell 0; have c1 := hB1.out.cell 1; have c2 := hB1.out.cell 2; have c3 := hB1.out.cell 3; have c4 := hB1.out.cell 4; have c5 := hB1.out.cell 5
   have hl1 := hB1.out.lt
   have hl0 := hB0.out.lt
   have hf0 := hB0.out.frozen
   have d0 := hB0.out.cell 0; have d1 := hB0.out.cell 1; have d2 := hB0.out.cell 2; have d3 := hB0.out.cell 3; have d4 := hB0.out.cell 4; have d5 := hB0.out.cell 5
   have hcl' := hcl.out
   have hK64 := Lib.hid hKl
   clear hK hKl h8 t1
   go_wp2_with fail
   refine (numberB_any K hK64.out _).mono ?_
   rintro e w2 ⟨rfl, rfl⟩
   cases hN : numberB K with
   | true =>
    obtain ⟨x, hx⟩ : ∃ x, fback K = some x := by unfold numberB at hN; exact Option.isSome_iff_exists.1 hN
    have hI : Hid (rF bs 0 = .ok (x, 8)) := by unfold Hid rF; simp only [hP.out, hx]
    have hkx := Lib.hid (fback_some hx)
    clear hx hN
    go_wp2_with fail
    refine bodyPost_ret (results_ctt Tryz.results135 _ _ w.heap.size 132 #[.int .u8 102, .int .u64 0, .int .i64 0, .int .u64 (K : Nat), .string ⟨#[]⟩, .bool false] (0, 0) _ rfl ?_ Tryz.underlying132 rfl size_part) rfl ⟨?_, ?_⟩
    ·exact Blk.store6 hB0.out
    ·(repeat with_reducible first | exact cR _ | assumption | refine cA ?_ _ | refine cD ?_ | refine cN ?_ _ | refine cS ?_ (by first | omega | (simp <;> omega)) _)
    ·rw [hI.out]; show _ = Ending.returned (.tuple #[.agg (partCells (.f (fkey x))), _, _]); rw [hkx.out]; rfl
   | false =>
    have hx : fback K = none := by unfold numberB at hN; simpa using hN
    have hI : Hid (rF bs 0 = .error (4, 8)) := by unfold Hid rF; simp only [hP.out, hx]
    clear hx hN
    go_wp2_with fail
    refine bodyPost_ret (results_ctt Tryz.results135 _ _ w.heap.size 132 #[.int .u8 102, .int .u64 0, .int .i64 0, .int .u64 (K : Nat), .string ⟨#[]⟩, .bool false] (0, 0) _ rfl ?_ Tryz.underlying132 rfl size_part) rfl ⟨?_, ?_⟩
    ·exact Blk.store6 hB0.out
    ·(repeat with_reducible first | exact cR _ | assumption | refine cA ?_ _ | refine cD ?_ | refine cN ?_ _ | refine cS ?_ (by first | omega | (simp <;> omega)) _)
    ·rw [hI.out]; exact ⟨_, _, _, _, _, _, rfl⟩
end Go.Proofs.YtoeoodiifpoomaaGreatDoor
