/- The walks of moietylaw04.Big, and of the document's Check of acts. (Printed by wip/tools/gen_act7.py.) -/
import Derived.Test.YtbemnfbndjolpaaGreatDoorActA
import Derived.Test.YtbemnfbndjolpaaGreatDoorWName
import Derived.Test.YtbemnfbndjolpaaGreatDoorWAct4
set_option linter.unusedSimpArgs false
set_option linter.unusedVariables false
set_option maxRecDepth 20000
namespace Go.Proofs.YtbemnfbndjolpaaGreatDoor
open Go.RowKit Moi
attribute [local go_sem] toList_str str_size less_ltB store_float
theorem hasF_kind (k : Int) (h : 1 ≤ k ∧ k ≤ 21) : hasF k 109 = decide (k = 1) := by
 obtain ⟨m, rfl⟩ : ∃ m : Nat, k = (m : Int) := ⟨k.toNat, by omega⟩
 rcases act_class m (by omega) with ⟨_, _, _, h4, h5⟩ | ⟨_, _, _, h4, h5⟩ | ⟨_, _, _, h4, h5⟩ | ⟨_, _, _, h4, h5⟩ | ⟨_, _, _, h4, h5⟩ | ⟨_, _, _, h4, h5⟩ <;> rw [h4] <;> simp [h5] <;> omega
def bigNA (a : MAct) : Int := if bigAct a then 1 else 0
theorem bigA_le {a : MAct} (h : bigNA a = 0) : a.key.length ≤ 200 ∧ a.s.length ≤ 1000 ∧ bigN a.make = 0 := by
 unfold bigNA at h
 split at h
 ·cases h
 ·rename_i hb
  unfold bigAct at hb
  simp at hb
  unfold bigN
  exact ⟨by omega, by omega, by rw [if_neg (by simp [hb.2])]⟩
set_option maxHeartbeats 4000000 in
theorem bigA_any (a : MAct) (A : Option Addr) (n c : Nat) (w : World) (hr : RdItems w A n a.make.list) :
  Calls Tryz.prog 60 #[actVal a A n c] w fun e w' => e = .returned (.int .i64 (bigNA a)) ∧ Cln w w' := by
 have hcl0 : Cln w (w.alloc (.cells #[.int .i64 a.kind, .string (str a.key), .int .i64 a.n, .float .f64 a.x, .string (str a.s), .int .i64 a.make.kind, .int .i64 a.make.num, .int .i64 a.make.low, .int .i64 a.make.high, .float .f64 a.make.real, .int .i64 a.make.cap, .string (str a.make.text), .slice A n c, .bool a.must] 64)) := by (repeat with_reducible first | exact cR _ | assumption | refine cA ?_ _ | refine cD ?_ | refine cN ?_ _ | refine cS ?_ (by first | omega | (simp <;> omega)) _)
 have hb := Blk.new w 64 #[.int .i64 a.kind, .string (str a.key), .int .i64 a.n, .float .f64 a.x, .string (str a.s), .int .i64 a.make.kind, .int .i64 a.make.num, .int .i64 a.make.low, .int .i64 a.make.high, .float .f64 a.make.real, .int .i64 a.make.cap, .string (str a.make.text), .slice A n c, .bool a.must]
 have uA := hb.cell; have lA := hb.lt
 unfold actVal
 by_cases h1 : 200 < a.key.length
 ·have hI : bigNA a = 1 := by unfold bigNA bigAct; simp [h1]
  rw [hI]
  have t1 : decide (200 < (a.key.length : Int)) = true := decide_eq_true (by omega)
  clear hI
  go_enter Tryz.func60, Tryz.ntmps60
  go_wp2_with fail
  go_ret
  exact ⟨rfl, by (repeat with_reducible first | exact cR _ | assumption | refine cA ?_ _ | refine cD ?_ | refine cN ?_ _ | refine cS ?_ (by first | omega | (simp <;> omega)) _)⟩
 have t1 : decide (200 < (a.key.length : Int)) = false := decide_eq_false (by omega)
 by_cases h2 : 1000 < a.s.length
 ·have hI : bigNA a = 1 := by unfold bigNA bigAct; simp [h2]
  rw [hI]
  have t2 : decide (1000 < (a.s.length : Int)) = true := decide_eq_true (by omega)
  clear hI
  go_enter Tryz.func60, Tryz.ntmps60
  go_wp2_with fail
  go_ret
  exact ⟨rfl, by (repeat with_reducible first | exact cR _ | assumption | refine cA ?_ _ | refine cD ?_ | refine cN ?_ _ | refine cS ?_ (by first | omega | (simp <;> omega)) _)⟩
 have t2 : decide (1000 < (a.s.length : Int)) = false := decide_eq_false (by omega)
 have hI : bigNA a = bigN a.make := by unfold bigNA bigN bigAct; simp [h1, h2]
 rw [hI]
 clear hI h1 h2
 have cM := big_any a.make A n c _ (hr.cln hcl0)
 unfold recVal at cM
 go_enter Tryz.func60, Tryz.ntmps60
 go_wp2_with fail
 refine cM.mono ?_; rintro e w1 ⟨rfl, hq⟩
 clear cM uA lA hb
 rcases bigN_or a.make with h3 | h3
 ·rw [h3]
  go_wp2_with fail
  go_ret
  exact ⟨by first | rfl | (rw [h3]; rfl), cln_trans hcl0 hq⟩
 ·rw [h3]
  go_wp2_with fail
  go_ret
  exact ⟨by first | rfl | (rw [h3]; rfl), cln_trans hcl0 hq⟩
set_option maxHeartbeats 8000000 in
theorem racheck_any (a : MAct) (A : Option Addr) (n c : Nat) (hn : n ≤ 140737488355328) (hf : a.WF) (w : World) (hit : RdItems w A n a.make.list) :
  Calls Tryz.prog 61 #[actVal a A n c] w fun e w' => e = .returned (.int .i64 (checkAct a : Nat)) ∧ Cln w w' := by
 have hx := hf.x
 have hr := hf.make.real
 have hcl0 : Hid (Cln w (w.alloc (.cells #[.int .i64 a.kind, .string (str a.key), .int .i64 a.n, .float .f64 a.x, .string (str a.s), .int .i64 a.make.kind, .int .i64 a.make.num, .int .i64 a.make.low, .int .i64 a.make.high, .float .f64 a.make.real, .int .i64 a.make.cap, .string (str a.make.text), .slice A n c, .bool a.must] 64))) := by unfold Hid; (repeat with_reducible first | exact cR _ | assumption | refine cA ?_ _ | refine cD ?_ | refine cN ?_ _ | refine cS ?_ (by first | omega | (simp <;> omega)) _)
 have hA0 := Lib.hid (Blk.new w 64 #[.int .i64 a.kind, .string (str a.key), .int .i64 a.n, .float .f64 a.x, .string (str a.s), .int .i64 a.make.kind, .int .i64 a.make.num, .int .i64 a.make.low, .int .i64 a.make.high, .float .f64 a.make.real, .int .i64 a.make.cap, .string (str a.make.text), .slice A n c, .bool a.must])
 have uA := hA0.out.cell; have lA := hA0.out.lt
 replace hit := Lib.hid hit
 replace hf := Lib.hid hf
 have hcur : Hid (Cln (w.alloc (.cells #[.int .i64 a.kind, .string (str a.key), .int .i64 a.n, .float .f64 a.x, .string (str a.s), .int .i64 a.make.kind, .int .i64 a.make.num, .int .i64 a.make.low, .int .i64 a.make.high, .float .f64 a.make.real, .int .i64 a.make.cap, .string (str a.make.text), .slice A n c, .bool a.must] 64)) (w.alloc (.cells #[.int .i64 a.kind, .string (str a.key), .int .i64 a.n, .float .f64 a.x, .string (str a.s), .int .i64 a.make.kind, .int .i64 a.make.num, .int .i64 a.make.low, .int .i64 a.make.high, .float .f64 a.make.real, .int .i64 a.make.cap, .string (str a.make.text), .slice A n c, .bool a.must] 64))) := Below.refl _ _
 have hfin : ∀ (m : Nat) (w' : World), checkAct a = m → Cln w w' → (Ending.returned (.int .i64 (m : Nat)) = .returned (.int .i64 (checkAct a : Nat)) ∧ Cln w w') := fun m w' h h2 => ⟨by rw [h], h2⟩
 unfold actVal
 by_cases h0 : a.kind < 1
 ·have hI : Hid (checkAct a = 5) := by unfold Hid checkAct; rw [if_pos (.inl h0)]
  have t1 : decide (a.kind < 1) = true := decide_eq_true h0
  clear h0
  go_enter Tryz.func61, Tryz.ntmps61
  go_wp2_with fail
  go_ret
  exact hfin 5 _ hI.out (cln_trans hcl0.out hcur.out)
 have t1 : decide (a.kind < 1) = false := decide_eq_false h0
 by_cases h1 : 21 < a.kind
 ·have hI : Hid (checkAct a = 5) := by unfold Hid checkAct; rw [if_pos (.inr h1)]
  have t2 : decide (21 < a.kind) = true := decide_eq_true h1
  clear h0 h1
  go_enter Tryz.func61, Tryz.ntmps61
  go_wp2_with fail
  go_ret
  exact hfin 5 _ hI.out (cln_trans hcl0.out hcur.out)
 have t2 : decide (21 < a.kind) = false := decide_eq_false h1
 by_cases h2 : a.key.length < 1
 ·have hI : Hid (checkAct a = 1) := by unfold Hid checkAct; rw [if_neg (by omega), if_pos (.inl h2)]
  have t3 : decide ((a.key.length : Int) < 1) = true := decide_eq_true (by omega)
  clear h0 h1 h2
  go_enter Tryz.func61, Tryz.ntmps61
  go_wp2_with fail
  go_ret
  exact hfin 1 _ hI.out (cln_trans hcl0.out hcur.out)
 have t3 : decide ((a.key.length : Int) < 1) = false := decide_eq_false (by omega)
 by_cases h3 : 24 < a.key.length
 ·have hI : Hid (checkAct a = 1) := by unfold Hid checkAct; rw [if_neg (by omega), if_pos (.inr h3)]
  have t4 : decide (24 < (a.key.length : Int)) = true := decide_eq_true (by omega)
  clear h0 h1 h2 h3
  go_enter Tryz.func61, Tryz.ntmps61
  go_wp2_with fail
  go_ret
  exact hfin 1 _ hI.out (cln_trans hcl0.out hcur.out)
 have t4 : decide (24 < (a.key.length : Int)) = false := decide_eq_false (by omega)
 have hI2 : Hid (checkAct a = if bareA a = false then 4 else if mostOf a.kind < a.s.length then 3 else if (a.kind = 10 ∨ a.kind = 11) ∧ (a.n < 0 ∨ 2305843009213693952 < a.n) then 1 else if fproper a.x = false then 4 else if a.kind = 1 then checkRec a.make else 0) := by unfold Hid checkAct; rw [if_neg (by omega), if_neg (by omega)]
 have hkr : Hid (1 ≤ a.kind ∧ a.kind ≤ 21) := ⟨by omega, by omega⟩
 clear h0 h1 h2 h3
 have f110 : ∀ W, Calls Tryz.prog 70 #[.int .i64 a.kind, .int .u8 110] W fun e w' => e = .returned (.bool (hasF a.kind 110)) ∧ Cln W w' := fun W => rhas_any a.kind 110 W
 have f120 : ∀ W, Calls Tryz.prog 70 #[.int .i64 a.kind, .int .u8 120] W fun e w' => e = .returned (.bool (hasF a.kind 120)) ∧ Cln W w' := fun W => rhas_any a.kind 120 W
 have f115 : ∀ W, Calls Tryz.prog 70 #[.int .i64 a.kind, .int .u8 115] W fun e w' => e = .returned (.bool (hasF a.kind 115)) ∧ Cln W w' := fun W => rhas_any a.kind 115 W
 have hS : ∀ W, Cln w W → Calls Tryz.prog 80 #[.agg #[.int .i64 a.make.kind, .int .i64 a.make.num, .int .i64 a.make.low, .int .i64 a.make.high, .float .f64 a.make.real, .int .i64 a.make.cap, .string (str a.make.text), .slice A n c], .agg #[.int .i64 0, .int .i64 0, .int .i64 0, .int .i64 0, .float .f64 0, .int .i64 0, .string ⟨#[]⟩, .slice none 0 0]] W fun e w' => e = .returned (.bool (sameRec a.make zeroRec)) ∧ Cln W w' :=
  fun W h => recsame_any a.make zeroRec A none n c 0 0 W (hit.out.cln h) (RdItems.none_ _) hn (by omega) hr (by decide)
 go_enter Tryz.func61, Tryz.ntmps61
 go_wp2_with fail
 rename_i K2 hK2 K1 hK1 K0 hK0
 have hJ : ∀ (s0 s3 s4 s5 s6 s7 s8 s9 s10 s11 s12 s13 s14 s15 s16 s17 s18 s19 s20 s21 s22 s23 s24 s25 s26 s27 s28 s29 s30 s31 s32 s33 s34 s35 s36 s37 s38 s39 s40 s41 s42 s43 s44 s45 s46 s47 s48 s49 s50 s51 s52 s53 s54 s55 s56 s57 s58 s59 s60 s61 s62 s63 s64 s65 s66 s67 s68 s69 s70 s71 s72 s73 s74 s75 s76 s77 s78 s79 s80 s81 s82 s83 s84 s85 s86 s87 s88 s89 s90 s91 s92 s93 s94 s95 s96 s97 s98 s99 s100 s101 s102 s103 s104 s105 s106 s107 s108 s109 s110 s111 s112 : Value) (W : World), ((hasF a.kind 110 || a.n == 0) && (hasF a.kind 120 || fsame a.x 0) && (hasF a.kind 115 || a.s == [])) = true → Cln (w.alloc (.cells #[.int .i64 a.kind, .string (str a.key), .int .i64 a.n, .float .f64 a.x, .string (str a.s), .int .i64 a.make.kind, .int .i64 a.make.num, .int .i64 a.make.low, .int .i64 a.make.high, .float .f64 a.make.real, .int .i64 a.make.cap, .string (str a.make.text), .slice A n c, .bool a.must] 64)) W →
   K2 { tmps := #[s0, .pointer (some ⟨w.heap.size, 0, none⟩), .int .i64 0, s3, s4, s5, s6, s7, s8, s9, s10, s11, s12, s13, s14, s15, s16, s17, s18, s19, s20, s21, s22, s23, s24, s25, s26, s27, s28, s29, s30, s31, s32, s33, s34, s35, s36, s37, s38, s39, s40, s41, s42, s43, s44, s45, s46, s47, s48, s49, s50, s51, s52, s53, s54, s55, s56, s57, s58, s59, s60, s61, s62, s63, s64, s65, s66, s67, s68, s69, s70, s71, s72, s73, s74, s75, s76, s77, s78, s79, s80, s81, s82, s83, s84, s85, s86, s87, s88, s89, s90, s91, s92, s93, s94, s95, s96, s97, s98, s99, s100, s101, s102, s103, s104, s105, s106, s107, s108, s109, s110, s111, s112], defers := [] } W := by
  intro s0 s3 s4 s5 s6 s7 s8 s9 s10 s11 s12 s13 s14 s15 s16 s17 s18 s19 s20 s21 s22 s23 s24 s25 s26 s27 s28 s29 s30 s31 s32 s33 s34 s35 s36 s37 s38 s39 s40 s41 s42 s43 s44 s45 s46 s47 s48 s49 s50 s51 s52 s53 s54 s55 s56 s57 s58 s59 s60 s61 s62 s63 s64 s65 s66 s67 s68 s69 s70 s71 s72 s73 s74 s75 s76 s77 s78 s79 s80 s81 s82 s83 s84 s85 s86 s87 s88 s89 s90 s91 s92 s93 s94 s95 s96 s97 s98 s99 s100 s101 s102 s103 s104 s105 s106 s107 s108 s109 s110 s111 s112 W hp3 hcur
  replace hcur := Lib.hid hcur
  replace hp3 := Lib.hid hp3
  refine hK2 _ _ ?_
  clear hK2 hK1 hK0 f110 f120 f115 uA lA
  have uA := (hA0.out.cln hcur.out).cell; have lA := (hA0.out.cln hcur.out).lt
  have hM : Hid (hasF a.kind 109 = decide (a.kind = 1)) := hasF_kind a.kind hkr.out
  have hJ2 : Hid (bareA a = true) → Hid (checkAct a = if mostOf a.kind < a.s.length then 3 else if (a.kind = 10 ∨ a.kind = 11) ∧ (a.n < 0 ∨ 2305843009213693952 < a.n) then 1 else if fproper a.x = false then 4 else if a.kind = 1 then checkRec a.make else 0) := fun h => by unfold Hid; rw [hI2.out, if_neg (by rw [h.out]; decide)]
  by_cases hk1 : a.kind = 1
  ·have t5 : (a.kind != 1) = false := by rw [hk1]; rfl
   have hB : Hid (bareA a = true) := by unfold Hid bareA; rw [hM.out, hp3.out]; simp [hk1]
   have hI3 := hJ2 hB
   clear hI2 hJ2 hB hM hp3 hk1
   go_wp2_with fail
   refine (ron_any a.kind _).mono ?_; rintro e w' ⟨rfl, hq⟩
   have hcur := Lib.hid (cln_trans hcur.out hq)
   clear hq uA lA
   have uA := (hA0.out.cln hcur.out).cell
   have lA := (hA0.out.cln hcur.out).lt
   by_cases ho : onOf a.kind = 1
   ·have t11 : (((onOf a.kind : Nat) : Int) == 1) = true := by rw [ho]; rfl
    have t12 : (((onOf a.kind : Nat) : Int) != 1) = false := by rw [ho]; rfl
    have hmo : Hid (mostOf a.kind = 64) := by unfold Hid mostOf; rw [if_pos ho]
    by_cases hlen : 64 < a.s.length
    ·have t13 : decide (64 < (a.s.length : Int)) = true := decide_eq_true (by omega)
     have hI : Hid (checkAct a = 3) := by unfold Hid; rw [hI3.out, hmo.out, if_pos hlen]
     clear hI3 ho hlen
     go_wp2_with fail
     go_ret
     exact hfin 3 _ hI.out (cln_trans hcl0.out hcur.out)
    have t13 : decide (64 < (a.s.length : Int)) = false := decide_eq_false (by omega)
    have hI4 : Hid (checkAct a = if (a.kind = 10 ∨ a.kind = 11) ∧ (a.n < 0 ∨ 2305843009213693952 < a.n) then 1 else if fproper a.x = false then 4 else if a.kind = 1 then checkRec a.make else 0) := by unfold Hid; rw [hI3.out, hmo.out, if_neg hlen]
    clear hI3 ho hlen hmo
    go_wp2_with fail
    refine (ron_any a.kind _).mono ?_; rintro e w' ⟨rfl, hq⟩
    have hcur := Lib.hid (cln_trans hcur.out hq)
    clear hq uA lA
    have uA := (hA0.out.cln hcur.out).cell
    have lA := (hA0.out.cln hcur.out).lt
    by_cases hk10 : a.kind = 10
    ·have t6 : (a.kind == 10) = true := by rw [beq_iff_eq]; exact hk10
     have hkk := Lib.hid hk10
     by_cases h5 : a.n < 0
     ·have hI : Hid (checkAct a = 1) := by unfold Hid; rw [hI4.out, if_pos ⟨by omega, .inl h5⟩]
      have t7 : decide (a.n < 0) = true := decide_eq_true h5
      clear hI4 hk10 h5
      go_wp2_with fail
      go_ret
      exact hfin 1 _ hI.out (cln_trans hcl0.out hcur.out)
     have t7 : decide (a.n < 0) = false := decide_eq_false h5
     by_cases h6 : 2305843009213693952 < a.n
     ·have hI : Hid (checkAct a = 1) := by unfold Hid; rw [hI4.out, if_pos ⟨by omega, .inr h6⟩]
      have t8 : decide (2305843009213693952 < a.n) = true := decide_eq_true h6
      clear hI4 hk10 h5 h6
      go_wp2_with fail
      go_ret
      exact hfin 1 _ hI.out (cln_trans hcl0.out hcur.out)
     have t8 : decide (2305843009213693952 < a.n) = false := decide_eq_false h6
     have hI5 : Hid (checkAct a = if fproper a.x = false then 4 else if a.kind = 1 then checkRec a.make else 0) := by unfold Hid; rw [hI4.out, if_neg (by omega)]
     clear hI4 hk10 h5 h6
     go_wp2_with fail
     refine (rproper_any a.x hx _).mono ?_; rintro e w' ⟨rfl, rfl⟩
     cases hP : fproper a.x with
     | false =>
      have hI : Hid (checkAct a = 4) := by unfold Hid; rw [hI5.out, if_pos hP]
      go_wp2_with fail
      go_ret
      exact hfin 4 _ hI.out (cln_trans hcl0.out hcur.out)
     | true =>
      have hI : Hid (checkAct a = 0) := by unfold Hid; rw [hI5.out, if_neg (by rw [hP]; decide), if_neg (by have := hkk.out; omega)]
      have t9 : (a.kind == 1) = false := by rw [beq_eq_false_iff_ne]; have := hkk.out; omega
      go_wp2_with fail
      go_ret
      exact hfin 0 _ hI.out (cln_trans hcl0.out hcur.out)
    by_cases hk11 : a.kind = 11
    ·have t5 : (a.kind == 10) = false := by rw [beq_eq_false_iff_ne]; omega
     have t6 : (a.kind == 11) = true := by rw [beq_iff_eq]; exact hk11
     have hkk := Lib.hid hk11
     by_cases h5 : a.n < 0
     ·have hI : Hid (checkAct a = 1) := by unfold Hid; rw [hI4.out, if_pos ⟨by omega, .inl h5⟩]
      have t7 : decide (a.n < 0) = true := decide_eq_true h5
      clear hI4 hk11 h5
      go_wp2_with fail
      go_ret
      exact hfin 1 _ hI.out (cln_trans hcl0.out hcur.out)
     have t7 : decide (a.n < 0) = false := decide_eq_false h5
     by_cases h6 : 2305843009213693952 < a.n
     ·have hI : Hid (checkAct a = 1) := by unfold Hid; rw [hI4.out, if_pos ⟨by omega, .inr h6⟩]
      have t8 : decide (2305843009213693952 < a.n) = true := decide_eq_true h6
      clear hI4 hk11 h5 h6
      go_wp2_with fail
      go_ret
      exact hfin 1 _ hI.out (cln_trans hcl0.out hcur.out)
     have t8 : decide (2305843009213693952 < a.n) = false := decide_eq_false h6
     have hI5 : Hid (checkAct a = if fproper a.x = false then 4 else if a.kind = 1 then checkRec a.make else 0) := by unfold Hid; rw [hI4.out, if_neg (by omega)]
     clear hI4 hk11 h5 h6
     go_wp2_with fail
     refine (rproper_any a.x hx _).mono ?_; rintro e w' ⟨rfl, rfl⟩
     cases hP : fproper a.x with
     | false =>
      have hI : Hid (checkAct a = 4) := by unfold Hid; rw [hI5.out, if_pos hP]
      go_wp2_with fail
      go_ret
      exact hfin 4 _ hI.out (cln_trans hcl0.out hcur.out)
     | true =>
      have hI : Hid (checkAct a = 0) := by unfold Hid; rw [hI5.out, if_neg (by rw [hP]; decide), if_neg (by have := hkk.out; omega)]
      have t9 : (a.kind == 1) = false := by rw [beq_eq_false_iff_ne]; have := hkk.out; omega
      go_wp2_with fail
      go_ret
      exact hfin 0 _ hI.out (cln_trans hcl0.out hcur.out)
    have t5 : (a.kind == 10) = false := by rw [beq_eq_false_iff_ne]; exact hk10
    have t6 : (a.kind == 11) = false := by rw [beq_eq_false_iff_ne]; exact hk11
    have hI5 : Hid (checkAct a = if fproper a.x = false then 4 else if a.kind = 1 then checkRec a.make else 0) := by unfold Hid; rw [hI4.out, if_neg (by omega)]
    clear hI4 hk10 hk11
    go_wp2_with fail
    refine (rproper_any a.x hx _).mono ?_; rintro e w' ⟨rfl, rfl⟩
    cases hP : fproper a.x with
    | false =>
     have hI : Hid (checkAct a = 4) := by unfold Hid; rw [hI5.out, if_pos hP]
     go_wp2_with fail
     go_ret
     exact hfin 4 _ hI.out (cln_trans hcl0.out hcur.out)
    | true =>
     have hI6 : Hid (checkAct a = if a.kind = 1 then checkRec a.make else 0) := by unfold Hid; rw [hI5.out, if_neg (by rw [hP]; decide)]
     by_cases hk1 : a.kind = 1
     ·have hI : Hid (checkAct a = checkRec a.make) := by unfold Hid; rw [hI6.out, if_pos hk1]
      have t9 : (a.kind == 1) = true := by rw [hk1]; rfl
      clear hI6 hI5 hk1
      go_wp2_with fail
      have cM := rcheck_any a.make A n c hn hf.out.make _ (hit.out.cln (cln_trans hcl0.out hcur.out))
      unfold recVal at cM
      refine cM.mono ?_; rintro e w' ⟨rfl, hq⟩
      go_wp2_with fail
      go_ret
      exact hfin _ _ hI.out (cln_trans (cln_trans hcl0.out hcur.out) hq)
     ·have hI : Hid (checkAct a = 0) := by unfold Hid; rw [hI6.out, if_neg hk1]
      have t9 : (a.kind == 1) = false := by rw [beq_eq_false_iff_ne]; exact hk1
      clear hI6 hI5 hk1
      go_wp2_with fail
      go_ret
      exact hfin 0 _ hI.out (cln_trans hcl0.out hcur.out)
   have t11 : (((onOf a.kind : Nat) : Int) == 1) = false := by rw [beq_eq_false_iff_ne]; omega
   have t12 : (((onOf a.kind : Nat) : Int) != 1) = true := by rw [bne_iff_ne]; omega
   have hmo : Hid (mostOf a.kind = 16) := by unfold Hid mostOf; rw [if_neg ho]
   go_wp2_with fail
   refine (ron_any a.kind _).mono ?_; rintro e w' ⟨rfl, hq⟩
   have hcur := Lib.hid (cln_trans hcur.out hq)
   clear hq uA lA
   have uA := (hA0.out.cln hcur.out).cell
   have lA := (hA0.out.cln hcur.out).lt
   by_cases hlen : 16 < a.s.length
   ·have t13 : decide (16 < (a.s.length : Int)) = true := decide_eq_true (by omega)
    have hI : Hid (checkAct a = 3) := by unfold Hid; rw [hI3.out, hmo.out, if_pos hlen]
    clear hI3 ho hlen
    go_wp2_with fail
    go_ret
    exact hfin 3 _ hI.out (cln_trans hcl0.out hcur.out)
   have t13 : decide (16 < (a.s.length : Int)) = false := decide_eq_false (by omega)
   have hI4 : Hid (checkAct a = if (a.kind = 10 ∨ a.kind = 11) ∧ (a.n < 0 ∨ 2305843009213693952 < a.n) then 1 else if fproper a.x = false then 4 else if a.kind = 1 then checkRec a.make else 0) := by unfold Hid; rw [hI3.out, hmo.out, if_neg hlen]
   clear hI3 ho hlen hmo
   by_cases hk10 : a.kind = 10
   ·have t6 : (a.kind == 10) = true := by rw [beq_iff_eq]; exact hk10
    have hkk := Lib.hid hk10
    by_cases h5 : a.n < 0
    ·have hI : Hid (checkAct a = 1) := by unfold Hid; rw [hI4.out, if_pos ⟨by omega, .inl h5⟩]
     have t7 : decide (a.n < 0) = true := decide_eq_true h5
     clear hI4 hk10 h5
     go_wp2_with fail
     go_ret
     exact hfin 1 _ hI.out (cln_trans hcl0.out hcur.out)
    have t7 : decide (a.n < 0) = false := decide_eq_false h5
    by_cases h6 : 2305843009213693952 < a.n
    ·have hI : Hid (checkAct a = 1) := by unfold Hid; rw [hI4.out, if_pos ⟨by omega, .inr h6⟩]
     have t8 : decide (2305843009213693952 < a.n) = true := decide_eq_true h6
     clear hI4 hk10 h5 h6
     go_wp2_with fail
     go_ret
     exact hfin 1 _ hI.out (cln_trans hcl0.out hcur.out)
    have t8 : decide (2305843009213693952 < a.n) = false := decide_eq_false h6
    have hI5 : Hid (checkAct a = if fproper a.x = false then 4 else if a.kind = 1 then checkRec a.make else 0) := by unfold Hid; rw [hI4.out, if_neg (by omega)]
    clear hI4 hk10 h5 h6
    go_wp2_with fail
    refine (rproper_any a.x hx _).mono ?_; rintro e w' ⟨rfl, rfl⟩
    cases hP : fproper a.x with
    | false =>
     have hI : Hid (checkAct a = 4) := by unfold Hid; rw [hI5.out, if_pos hP]
     go_wp2_with fail
     go_ret
     exact hfin 4 _ hI.out (cln_trans hcl0.out hcur.out)
    | true =>
     have hI : Hid (checkAct a = 0) := by unfold Hid; rw [hI5.out, if_neg (by rw [hP]; decide), if_neg (by have := hkk.out; omega)]
     have t9 : (a.kind == 1) = false := by rw [beq_eq_false_iff_ne]; have := hkk.out; omega
     go_wp2_with fail
     go_ret
     exact hfin 0 _ hI.out (cln_trans hcl0.out hcur.out)
   by_cases hk11 : a.kind = 11
   ·have t5 : (a.kind == 10) = false := by rw [beq_eq_false_iff_ne]; omega
    have t6 : (a.kind == 11) = true := by rw [beq_iff_eq]; exact hk11
    have hkk := Lib.hid hk11
    by_cases h5 : a.n < 0
    ·have hI : Hid (checkAct a = 1) := by unfold Hid; rw [hI4.out, if_pos ⟨by omega, .inl h5⟩]
     have t7 : decide (a.n < 0) = true := decide_eq_true h5
     clear hI4 hk11 h5
     go_wp2_with fail
     go_ret
     exact hfin 1 _ hI.out (cln_trans hcl0.out hcur.out)
    have t7 : decide (a.n < 0) = false := decide_eq_false h5
    by_cases h6 : 2305843009213693952 < a.n
    ·have hI : Hid (checkAct a = 1) := by unfold Hid; rw [hI4.out, if_pos ⟨by omega, .inr h6⟩]
     have t8 : decide (2305843009213693952 < a.n) = true := decide_eq_true h6
     clear hI4 hk11 h5 h6
     go_wp2_with fail
     go_ret
     exact hfin 1 _ hI.out (cln_trans hcl0.out hcur.out)
    have t8 : decide (2305843009213693952 < a.n) = false := decide_eq_false h6
    have hI5 : Hid (checkAct a = if fproper a.x = false then 4 else if a.kind = 1 then checkRec a.make else 0) := by unfold Hid; rw [hI4.out, if_neg (by omega)]
    clear hI4 hk11 h5 h6
    go_wp2_with fail
    refine (rproper_any a.x hx _).mono ?_; rintro e w' ⟨rfl, rfl⟩
    cases hP : fproper a.x with
    | false =>
     have hI : Hid (checkAct a = 4) := by unfold Hid; rw [hI5.out, if_pos hP]
     go_wp2_with fail
     go_ret
     exact hfin 4 _ hI.out (cln_trans hcl0.out hcur.out)
    | true =>
     have hI : Hid (checkAct a = 0) := by unfold Hid; rw [hI5.out, if_neg (by rw [hP]; decide), if_neg (by have := hkk.out; omega)]
     have t9 : (a.kind == 1) = false := by rw [beq_eq_false_iff_ne]; have := hkk.out; omega
     go_wp2_with fail
     go_ret
     exact hfin 0 _ hI.out (cln_trans hcl0.out hcur.out)
   have t5 : (a.kind == 10) = false := by rw [beq_eq_false_iff_ne]; exact hk10
   have t6 : (a.kind == 11) = false := by rw [beq_eq_false_iff_ne]; exact hk11
   have hI5 : Hid (checkAct a = if fproper a.x = false then 4 else if a.kind = 1 then checkRec a.make else 0) := by unfold Hid; rw [hI4.out, if_neg (by omega)]
   clear hI4 hk10 hk11
   go_wp2_with fail
   refine (rproper_any a.x hx _).mono ?_; rintro e w' ⟨rfl, rfl⟩
   cases hP : fproper a.x with
   | false =>
    have hI : Hid (checkAct a = 4) := by unfold Hid; rw [hI5.out, if_pos hP]
    go_wp2_with fail
    go_ret
    exact hfin 4 _ hI.out (cln_trans hcl0.out hcur.out)
   | true =>
    have hI6 : Hid (checkAct a = if a.kind = 1 then checkRec a.make else 0) := by unfold Hid; rw [hI5.out, if_neg (by rw [hP]; decide)]
    by_cases hk1 : a.kind = 1
    ·have hI : Hid (checkAct a = checkRec a.make) := by unfold Hid; rw [hI6.out, if_pos hk1]
     have t9 : (a.kind == 1) = true := by rw [hk1]; rfl
     clear hI6 hI5 hk1
     go_wp2_with fail
     have cM := rcheck_any a.make A n c hn hf.out.make _ (hit.out.cln (cln_trans hcl0.out hcur.out))
     unfold recVal at cM
     refine cM.mono ?_; rintro e w' ⟨rfl, hq⟩
     go_wp2_with fail
     go_ret
     exact hfin _ _ hI.out (cln_trans (cln_trans hcl0.out hcur.out) hq)
    ·have hI : Hid (checkAct a = 0) := by unfold Hid; rw [hI6.out, if_neg hk1]
     have t9 : (a.kind == 1) = false := by rw [beq_eq_false_iff_ne]; exact hk1
     clear hI6 hI5 hk1
     go_wp2_with fail
     go_ret
     exact hfin 0 _ hI.out (cln_trans hcl0.out hcur.out)
  have t5 : (a.kind != 1) = true := by rw [bne_iff_ne]; exact hk1
  cases hZ : sameRec a.make zeroRec with
  | false =>
   have hI : Hid (checkAct a = 4) := by unfold Hid; rw [hI2.out, if_pos (by unfold bareA; rw [hM.out, hZ]; simp [hk1])]
   clear hI2 hJ2 hM hp3 hk1
   go_wp2_with fail
   refine (hS _ (cln_trans hcl0.out hcur.out)).mono ?_; rintro e w' ⟨rfl, hq⟩; rw [hZ]
   go_wp2_with fail
   go_ret
   exact hfin 4 _ hI.out (cln_trans (cln_trans hcl0.out hcur.out) hq)
  | true =>
   have hB : Hid (bareA a = true) := by unfold Hid bareA; rw [hM.out, hp3.out, hZ]; simp
   have hI3 := hJ2 hB
   clear hI2 hJ2 hB hM hp3 hk1
   go_wp2_with fail
   refine (hS _ (cln_trans hcl0.out hcur.out)).mono ?_; rintro e w' ⟨rfl, hq⟩; rw [hZ]
   have hcur := Lib.hid (cln_trans hcur.out hq)
   clear hq uA lA
   have uA := (hA0.out.cln hcur.out).cell
   have lA := (hA0.out.cln hcur.out).lt
   go_wp2_with fail
   refine (ron_any a.kind _).mono ?_; rintro e w' ⟨rfl, hq⟩
   have hcur := Lib.hid (cln_trans hcur.out hq)
   clear hq uA lA
   have uA := (hA0.out.cln hcur.out).cell
   have lA := (hA0.out.cln hcur.out).lt
   by_cases ho : onOf a.kind = 1
   ·have t11 : (((onOf a.kind : Nat) : Int) == 1) = true := by rw [ho]; rfl
    have t12 : (((onOf a.kind : Nat) : Int) != 1) = false := by rw [ho]; rfl
    have hmo : Hid (mostOf a.kind = 64) := by unfold Hid mostOf; rw [if_pos ho]
    by_cases hlen : 64 < a.s.length
    ·have t13 : decide (64 < (a.s.length : Int)) = true := decide_eq_true (by omega)
     have hI : Hid (checkAct a = 3) := by unfold Hid; rw [hI3.out, hmo.out, if_pos hlen]
     clear hI3 ho hlen
     go_wp2_with fail
     go_ret
     exact hfin 3 _ hI.out (cln_trans hcl0.out hcur.out)
    have t13 : decide (64 < (a.s.length : Int)) = false := decide_eq_false (by omega)
    have hI4 : Hid (checkAct a = if (a.kind = 10 ∨ a.kind = 11) ∧ (a.n < 0 ∨ 2305843009213693952 < a.n) then 1 else if fproper a.x = false then 4 else if a.kind = 1 then checkRec a.make else 0) := by unfold Hid; rw [hI3.out, hmo.out, if_neg hlen]
    clear hI3 ho hlen hmo
    go_wp2_with fail
    refine (ron_any a.kind _).mono ?_; rintro e w' ⟨rfl, hq⟩
    have hcur := Lib.hid (cln_trans hcur.out hq)
    clear hq uA lA
    have uA := (hA0.out.cln hcur.out).cell
    have lA := (hA0.out.cln hcur.out).lt
    by_cases hk10 : a.kind = 10
    ·have t6 : (a.kind == 10) = true := by rw [beq_iff_eq]; exact hk10
     have hkk := Lib.hid hk10
     by_cases h5 : a.n < 0
     ·have hI : Hid (checkAct a = 1) := by unfold Hid; rw [hI4.out, if_pos ⟨by omega, .inl h5⟩]
      have t7 : decide (a.n < 0) = true := decide_eq_true h5
      clear hI4 hk10 h5
      go_wp2_with fail
      go_ret
      exact hfin 1 _ hI.out (cln_trans hcl0.out hcur.out)
     have t7 : decide (a.n < 0) = false := decide_eq_false h5
     by_cases h6 : 2305843009213693952 < a.n
     ·have hI : Hid (checkAct a = 1) := by unfold Hid; rw [hI4.out, if_pos ⟨by omega, .inr h6⟩]
      have t8 : decide (2305843009213693952 < a.n) = true := decide_eq_true h6
      clear hI4 hk10 h5 h6
      go_wp2_with fail
      go_ret
      exact hfin 1 _ hI.out (cln_trans hcl0.out hcur.out)
     have t8 : decide (2305843009213693952 < a.n) = false := decide_eq_false h6
     have hI5 : Hid (checkAct a = if fproper a.x = false then 4 else if a.kind = 1 then checkRec a.make else 0) := by unfold Hid; rw [hI4.out, if_neg (by omega)]
     clear hI4 hk10 h5 h6
     go_wp2_with fail
     refine (rproper_any a.x hx _).mono ?_; rintro e w' ⟨rfl, rfl⟩
     cases hP : fproper a.x with
     | false =>
      have hI : Hid (checkAct a = 4) := by unfold Hid; rw [hI5.out, if_pos hP]
      go_wp2_with fail
      go_ret
      exact hfin 4 _ hI.out (cln_trans hcl0.out hcur.out)
     | true =>
      have hI : Hid (checkAct a = 0) := by unfold Hid; rw [hI5.out, if_neg (by rw [hP]; decide), if_neg (by have := hkk.out; omega)]
      have t9 : (a.kind == 1) = false := by rw [beq_eq_false_iff_ne]; have := hkk.out; omega
      go_wp2_with fail
      go_ret
      exact hfin 0 _ hI.out (cln_trans hcl0.out hcur.out)
    by_cases hk11 : a.kind = 11
    ·have t5 : (a.kind == 10) = false := by rw [beq_eq_false_iff_ne]; omega
     have t6 : (a.kind == 11) = true := by rw [beq_iff_eq]; exact hk11
     have hkk := Lib.hid hk11
     by_cases h5 : a.n < 0
     ·have hI : Hid (checkAct a = 1) := by unfold Hid; rw [hI4.out, if_pos ⟨by omega, .inl h5⟩]
      have t7 : decide (a.n < 0) = true := decide_eq_true h5
      clear hI4 hk11 h5
      go_wp2_with fail
      go_ret
      exact hfin 1 _ hI.out (cln_trans hcl0.out hcur.out)
     have t7 : decide (a.n < 0) = false := decide_eq_false h5
     by_cases h6 : 2305843009213693952 < a.n
     ·have hI : Hid (checkAct a = 1) := by unfold Hid; rw [hI4.out, if_pos ⟨by omega, .inr h6⟩]
      have t8 : decide (2305843009213693952 < a.n) = true := decide_eq_true h6
      clear hI4 hk11 h5 h6
      go_wp2_with fail
      go_ret
      exact hfin 1 _ hI.out (cln_trans hcl0.out hcur.out)
     have t8 : decide (2305843009213693952 < a.n) = false := decide_eq_false h6
     have hI5 : Hid (checkAct a = if fproper a.x = false then 4 else if a.kind = 1 then checkRec a.make else 0) := by unfold Hid; rw [hI4.out, if_neg (by omega)]
     clear hI4 hk11 h5 h6
     go_wp2_with fail
     refine (rproper_any a.x hx _).mono ?_; rintro e w' ⟨rfl, rfl⟩
     cases hP : fproper a.x with
     | false =>
      have hI : Hid (checkAct a = 4) := by unfold Hid; rw [hI5.out, if_pos hP]
      go_wp2_with fail
      go_ret
      exact hfin 4 _ hI.out (cln_trans hcl0.out hcur.out)
     | true =>
      have hI : Hid (checkAct a = 0) := by unfold Hid; rw [hI5.out, if_neg (by rw [hP]; decide), if_neg (by have := hkk.out; omega)]
      have t9 : (a.kind == 1) = false := by rw [beq_eq_false_iff_ne]; have := hkk.out; omega
      go_wp2_with fail
      go_ret
      exact hfin 0 _ hI.out (cln_trans hcl0.out hcur.out)
    have t5 : (a.kind == 10) = false := by rw [beq_eq_false_iff_ne]; exact hk10
    have t6 : (a.kind == 11) = false := by rw [beq_eq_false_iff_ne]; exact hk11
    have hI5 : Hid (checkAct a = if fproper a.x = false then 4 else if a.kind = 1 then checkRec a.make else 0) := by unfold Hid; rw [hI4.out, if_neg (by omega)]
    clear hI4 hk10 hk11
    go_wp2_with fail
    refine (rproper_any a.x hx _).mono ?_; rintro e w' ⟨rfl, rfl⟩
    cases hP : fproper a.x with
    | false =>
     have hI : Hid (checkAct a = 4) := by unfold Hid; rw [hI5.out, if_pos hP]
     go_wp2_with fail
     go_ret
     exact hfin 4 _ hI.out (cln_trans hcl0.out hcur.out)
    | true =>
     have hI6 : Hid (checkAct a = if a.kind = 1 then checkRec a.make else 0) := by unfold Hid; rw [hI5.out, if_neg (by rw [hP]; decide)]
     by_cases hk1 : a.kind = 1
     ·have hI : Hid (checkAct a = checkRec a.make) := by unfold Hid; rw [hI6.out, if_pos hk1]
      have t9 : (a.kind == 1) = true := by rw [hk1]; rfl
      clear hI6 hI5 hk1
      go_wp2_with fail
      have cM := rcheck_any a.make A n c hn hf.out.make _ (hit.out.cln (cln_trans hcl0.out hcur.out))
      unfold recVal at cM
      refine cM.mono ?_; rintro e w' ⟨rfl, hq⟩
      go_wp2_with fail
      go_ret
      exact hfin _ _ hI.out (cln_trans (cln_trans hcl0.out hcur.out) hq)
     ·have hI : Hid (checkAct a = 0) := by unfold Hid; rw [hI6.out, if_neg hk1]
      have t9 : (a.kind == 1) = false := by rw [beq_eq_false_iff_ne]; exact hk1
      clear hI6 hI5 hk1
      go_wp2_with fail
      go_ret
      exact hfin 0 _ hI.out (cln_trans hcl0.out hcur.out)
   have t11 : (((onOf a.kind : Nat) : Int) == 1) = false := by rw [beq_eq_false_iff_ne]; omega
   have t12 : (((onOf a.kind : Nat) : Int) != 1) = true := by rw [bne_iff_ne]; omega
   have hmo : Hid (mostOf a.kind = 16) := by unfold Hid mostOf; rw [if_neg ho]
   go_wp2_with fail
   refine (ron_any a.kind _).mono ?_; rintro e w' ⟨rfl, hq⟩
   have hcur := Lib.hid (cln_trans hcur.out hq)
   clear hq uA lA
   have uA := (hA0.out.cln hcur.out).cell
   have lA := (hA0.out.cln hcur.out).lt
   by_cases hlen : 16 < a.s.length
   ·have t13 : decide (16 < (a.s.length : Int)) = true := decide_eq_true (by omega)
    have hI : Hid (checkAct a = 3) := by unfold Hid; rw [hI3.out, hmo.out, if_pos hlen]
    clear hI3 ho hlen
    go_wp2_with fail
    go_ret
    exact hfin 3 _ hI.out (cln_trans hcl0.out hcur.out)
   have t13 : decide (16 < (a.s.length : Int)) = false := decide_eq_false (by omega)
   have hI4 : Hid (checkAct a = if (a.kind = 10 ∨ a.kind = 11) ∧ (a.n < 0 ∨ 2305843009213693952 < a.n) then 1 else if fproper a.x = false then 4 else if a.kind = 1 then checkRec a.make else 0) := by unfold Hid; rw [hI3.out, hmo.out, if_neg hlen]
   clear hI3 ho hlen hmo
   by_cases hk10 : a.kind = 10
   ·have t6 : (a.kind == 10) = true := by rw [beq_iff_eq]; exact hk10
    have hkk := Lib.hid hk10
    by_cases h5 : a.n < 0
    ·have hI : Hid (checkAct a = 1) := by unfold Hid; rw [hI4.out, if_pos ⟨by omega, .inl h5⟩]
     have t7 : decide (a.n < 0) = true := decide_eq_true h5
     clear hI4 hk10 h5
     go_wp2_with fail
     go_ret
     exact hfin 1 _ hI.out (cln_trans hcl0.out hcur.out)
    have t7 : decide (a.n < 0) = false := decide_eq_false h5
    by_cases h6 : 2305843009213693952 < a.n
    ·have hI : Hid (checkAct a = 1) := by unfold Hid; rw [hI4.out, if_pos ⟨by omega, .inr h6⟩]
     have t8 : decide (2305843009213693952 < a.n) = true := decide_eq_true h6
     clear hI4 hk10 h5 h6
     go_wp2_with fail
     go_ret
     exact hfin 1 _ hI.out (cln_trans hcl0.out hcur.out)
    have t8 : decide (2305843009213693952 < a.n) = false := decide_eq_false h6
    have hI5 : Hid (checkAct a = if fproper a.x = false then 4 else if a.kind = 1 then checkRec a.make else 0) := by unfold Hid; rw [hI4.out, if_neg (by omega)]
    clear hI4 hk10 h5 h6
    go_wp2_with fail
    refine (rproper_any a.x hx _).mono ?_; rintro e w' ⟨rfl, rfl⟩
    cases hP : fproper a.x with
    | false =>
     have hI : Hid (checkAct a = 4) := by unfold Hid; rw [hI5.out, if_pos hP]
     go_wp2_with fail
     go_ret
     exact hfin 4 _ hI.out (cln_trans hcl0.out hcur.out)
    | true =>
     have hI : Hid (checkAct a = 0) := by unfold Hid; rw [hI5.out, if_neg (by rw [hP]; decide), if_neg (by have := hkk.out; omega)]
     have t9 : (a.kind == 1) = false := by rw [beq_eq_false_iff_ne]; have := hkk.out; omega
     go_wp2_with fail
     go_ret
     exact hfin 0 _ hI.out (cln_trans hcl0.out hcur.out)
   by_cases hk11 : a.kind = 11
   ·have t5 : (a.kind == 10) = false := by rw [beq_eq_false_iff_ne]; omega
    have t6 : (a.kind == 11) = true := by rw [beq_iff_eq]; exact hk11
    have hkk := Lib.hid hk11
    by_cases h5 : a.n < 0
    ·have hI : Hid (checkAct a = 1) := by unfold Hid; rw [hI4.out, if_pos ⟨by omega, .inl h5⟩]
     have t7 : decide (a.n < 0) = true := decide_eq_true h5
     clear hI4 hk11 h5
     go_wp2_with fail
     go_ret
     exact hfin 1 _ hI.out (cln_trans hcl0.out hcur.out)
    have t7 : decide (a.n < 0) = false := decide_eq_false h5
    by_cases h6 : 2305843009213693952 < a.n
    ·have hI : Hid (checkAct a = 1) := by unfold Hid; rw [hI4.out, if_pos ⟨by omega, .inr h6⟩]
     have t8 : decide (2305843009213693952 < a.n) = true := decide_eq_true h6
     clear hI4 hk11 h5 h6
     go_wp2_with fail
     go_ret
     exact hfin 1 _ hI.out (cln_trans hcl0.out hcur.out)
    have t8 : decide (2305843009213693952 < a.n) = false := decide_eq_false h6
    have hI5 : Hid (checkAct a = if fproper a.x = false then 4 else if a.kind = 1 then checkRec a.make else 0) := by unfold Hid; rw [hI4.out, if_neg (by omega)]
    clear hI4 hk11 h5 h6
    go_wp2_with fail
    refine (rproper_any a.x hx _).mono ?_; rintro e w' ⟨rfl, rfl⟩
    cases hP : fproper a.x with
    | false =>
     have hI : Hid (checkAct a = 4) := by unfold Hid; rw [hI5.out, if_pos hP]
     go_wp2_with fail
     go_ret
     exact hfin 4 _ hI.out (cln_trans hcl0.out hcur.out)
    | true =>
     have hI : Hid (checkAct a = 0) := by unfold Hid; rw [hI5.out, if_neg (by rw [hP]; decide), if_neg (by have := hkk.out; omega)]
     have t9 : (a.kind == 1) = false := by rw [beq_eq_false_iff_ne]; have := hkk.out; omega
     go_wp2_with fail
     go_ret
     exact hfin 0 _ hI.out (cln_trans hcl0.out hcur.out)
   have t5 : (a.kind == 10) = false := by rw [beq_eq_false_iff_ne]; exact hk10
   have t6 : (a.kind == 11) = false := by rw [beq_eq_false_iff_ne]; exact hk11
   have hI5 : Hid (checkAct a = if fproper a.x = false then 4 else if a.kind = 1 then checkRec a.make else 0) := by unfold Hid; rw [hI4.out, if_neg (by omega)]
   clear hI4 hk10 hk11
   go_wp2_with fail
   refine (rproper_any a.x hx _).mono ?_; rintro e w' ⟨rfl, rfl⟩
   cases hP : fproper a.x with
   | false =>
    have hI : Hid (checkAct a = 4) := by unfold Hid; rw [hI5.out, if_pos hP]
    go_wp2_with fail
    go_ret
    exact hfin 4 _ hI.out (cln_trans hcl0.out hcur.out)
   | true =>
    have hI6 : Hid (checkAct a = if a.kind = 1 then checkRec a.make else 0) := by unfold Hid; rw [hI5.out, if_neg (by rw [hP]; decide)]
    by_cases hk1 : a.kind = 1
    ·have hI : Hid (checkAct a = checkRec a.make) := by unfold Hid; rw [hI6.out, if_pos hk1]
     have t9 : (a.kind == 1) = true := by rw [hk1]; rfl
     clear hI6 hI5 hk1
     go_wp2_with fail
     have cM := rcheck_any a.make A n c hn hf.out.make _ (hit.out.cln (cln_trans hcl0.out hcur.out))
     unfold recVal at cM
     refine cM.mono ?_; rintro e w' ⟨rfl, hq⟩
     go_wp2_with fail
     go_ret
     exact hfin _ _ hI.out (cln_trans (cln_trans hcl0.out hcur.out) hq)
    ·have hI : Hid (checkAct a = 0) := by unfold Hid; rw [hI6.out, if_neg hk1]
     have t9 : (a.kind == 1) = false := by rw [beq_eq_false_iff_ne]; exact hk1
     clear hI6 hI5 hk1
     go_wp2_with fail
     go_ret
     exact hfin 0 _ hI.out (cln_trans hcl0.out hcur.out)
 clear hK2
 go_wp2_with (first
  |(go_at_call 70; (first | with_reducible refine (f110 _).mono ?_ | with_reducible refine (f120 _).mono ?_ | with_reducible refine (f115 _).mono ?_); rintro e w' ⟨rfl, hq⟩; have hcur := Lib.hid (cln_trans hcur.out hq); clear hq uA lA; have uA := (hA0.out.cln hcur.out).cell; have lA := (hA0.out.cln hcur.out).lt)
  |(go_at_call 79; refine (rsame_any _ _ hx (by omega) _).mono ?_; rintro e w' ⟨rfl, rfl⟩))
 all_goals first
  | exact hJ _ _ _ _ _ _ _ _ _ _ _ _ _ _ _ _ _ _ _ _ _ _ _ _ _ _ _ _ _ _ _ _ _ _ _ _ _ _ _ _ _ _ _ _ _ _ _ _ _ _ _ _ _ _ _ _ _ _ _ _ _ _ _ _ _ _ _ _ _ _ _ _ _ _ _ _ _ _ _ _ _ _ _ _ _ _ _ _ _ _ _ _ _ _ _ _ _ _ _ _ _ _ _ _ _ _ _ _ _ _ _ _ (by clear hJ f110 f120 f115 hS uA lA hA0 hit hf hcl0 hcur hfin hI2; simp_all) hcur.out
  |(go_ret; refine hfin 4 _ ?_ (cln_trans hcl0.out hcur.out); rw [hI2.out, if_pos]; clear hJ f110 f120 f115 hS uA lA hA0 hit hf hcl0 hcur hfin hI2; simp_all [bareA])
end Go.Proofs.YtbemnfbndjolpaaGreatDoor
