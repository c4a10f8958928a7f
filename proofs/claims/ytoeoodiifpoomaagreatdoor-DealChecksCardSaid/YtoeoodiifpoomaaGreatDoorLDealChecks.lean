/- The law DealChecks. (Printed by wip/tools/gen_ldealc.py.) -/
import Derived.Test.YtoeoodiifpoomaaGreatDoorWRKeys
import Derived.Test.YtoeoodiifpoomaaGreatDoorDeals
import Derived.Deep.RegionWith
import Derived.BigQuiet
import Derived.Deep.RegionHeld3
set_option linter.unusedSimpArgs false
set_option linter.unusedVariables false
set_option maxRecDepth 20000
namespace Go.Proofs.YtoeoodiifpoomaaGreatDoor
open Go.RowKit Moi
attribute [local go_sem] toList_str str_size less_ltB store_float
theorem heldKeepK {w W W' : World} {p0 : Addr} {v0 : Value} {A B : Option Addr} {n m : Nat} {l k : List (List UInt8)} (hq : Cln W W') (h : W.cell? p0 = some v0 ∧ Hid (Cln w W) ∧ Hid (RdStrs W A n l) ∧ Hid (RdStrs W B m k)) : W'.cell? p0 = some v0 ∧ Hid (Cln w W') ∧ Hid (RdStrs W' A n l) ∧ Hid (RdStrs W' B m k) := by
 have k := Kept.of_below (S := fun _ => False) hq
 exact ⟨k.cell h.1 id, Lib.hid (cln_trans h.2.1.out hq), Lib.hid (h.2.2.1.out.cln hq), Lib.hid (h.2.2.2.out.cln hq)⟩
set_option maxHeartbeats 8000000 in
theorem lDealChecks (a : List MAct) (A : Option Addr) (n c : Nat) (w : World) (hK : KindsAt w) (hr : RdActs w A n a) :
  Calls Tryz.prog 7 #[.agg #[.slice A n c]] w fun e w' => e = .returned (.bool true) ∧ Cln w w' := by
 have hn : Hid (a.length = n) := hr.len
 have hb0 := Blk.new w 48 #[.slice A n c]
 have hcl : Cln w (w.alloc (.cells #[.slice A n c] 48)) := by (repeat with_reducible first | exact cR _ | assumption | refine cA ?_ _ | refine cD ?_ | refine cN ?_ _ | refine cS ?_ (by first | omega | (simp <;> omega)) _)
 have cSp := speaks_deal _ (hK.cln hcl)
 go_enter Tryz.func7, Tryz.ntmps7
 go_wp2_with fail
 refine cSp.mono ?_; rintro e w1 ⟨rfl, hq⟩
 clear cSp
 have hA1 := Lib.hid (hb0.cln hq)
 have hcl1 := Lib.hid (cln_trans hcl hq)
 have hr1 := Lib.hid (hr.cln hcl1.out)
 have hK1 := Lib.hid (hK.cln hcl1.out)
 clear hb0 hcl hq hr hK
 have uA := hA1.out.cell; have lA := hA1.out.lt
 have hcur : Hid (Cln w1 w1) := Below.refl _ _
 go_wp2_with fail
 refine (bigD_any a A n c _ hr1.out).mono ?_; rintro e w2 ⟨rfl, hq⟩
 have hcur := Lib.hid (cln_trans hcur.out hq)
 clear hq uA lA; have uA := (hA1.out.cln hcur.out).cell; have lA := (hA1.out.cln hcur.out).lt
 rcases bigD_or a with hbig | hbig
 case inr =>
  rw [hbig]
  go_wp2_with fail
  go_ret
  exact ⟨rfl, cln_trans hcl1.out hcur.out⟩
 have hmod : Hid (∀ x ∈ a, x.make.list.length ≤ 140737488355328) := fun x hx => by have := bigNA_list ((bigD_le hbig).2 x hx); omega
 have hn1 : n ≤ 40 := by have := (bigD_le hbig).1; rw [hn.out] at this; omega
 rw [hbig]
 clear hbig
 go_wp2_with fail
 refine (dcheck_any a A n c hmod.out _ (hK1.out.cln hcur.out) (hr1.out.cln hcur.out)).mono ?_; rintro e w3 ⟨rfl, hq⟩
 have hcur := Lib.hid (cln_trans hcur.out hq)
 clear hq uA lA; have uA := (hA1.out.cln hcur.out).cell; have lA := (hA1.out.cln hcur.out).lt
 go_wp2_with fail
 refine (rdcheck_any a A n c hmod.out _ (hr1.out.cln hcur.out)).mono ?_; rintro e w4 ⟨rfl, hq⟩
 have hcur := Lib.hid (cln_trans hcur.out hq)
 clear hq uA lA; have uA := (hA1.out.cln hcur.out).cell; have lA := (hA1.out.cln hcur.out).lt
 generalize (checkDeal a).1 = e1
 generalize (checkDeal a).2 = e2
 have tE1 : (((e1 : Nat) : Int) != ((e1 : Nat) : Int)) = false := by simp
 have tE2 : (((e2 : Nat) : Int) != ((e2 : Nat) : Int)) = false := by simp
 have cK : ∀ W : World, Cln w1 W → Calls Tryz.prog 30 #[.agg #[.slice A n c]] W fun e w' => ∃ AK cK, e = .returned (.slice AK (keysOf a).length cK) ∧ Hid (RdStrs w' AK (keysOf a).length (keysOf a)) ∧ Cln W w' := fun W h => by
  refine (keys_any a A n c (by omega) W (hr1.out.cln h)).mono ?_
  rintro e w' ⟨A', m, c', rfl, hS, hq⟩
  obtain rfl : m = (keysOf a).length := hS.len.symm
  exact ⟨A', c', rfl, hS, hq⟩
 have cRK : ∀ W : World, Cln w1 W → Calls Tryz.prog 31 #[.agg #[.slice A n c]] W fun e w' => ∃ AR cR, e = .returned (.slice AR (keysOf a).length cR) ∧ Hid (RdStrs w' AR (keysOf a).length (keysOf a)) ∧ Cln W w' := fun W h => by
  refine (rkeys_any a A n c (by omega) W (hr1.out.cln h)).mono ?_
  rintro e w' ⟨A', m, c', rfl, hS, hq⟩
  obtain rfl : m = (keysOf a).length := hS.len.symm
  exact ⟨A', c', rfl, hS, hq⟩
 have hkl : (keysOf a).length ≤ n := by have := keysOf_len a; rw [hn.out] at this; exact this
 generalize keysOf a = K at cK cRK hkl
 have cO : ∀ W : World, Cln w1 W → Calls Tryz.prog 32 #[.agg #[.slice A n c]] W fun e w' => e = .returned (.bool (rosterB a)) ∧ Cln W w' := fun W h => roster_any a A n c (by omega) W (hr1.out.cln h)
 have cRO : ∀ W : World, Cln w1 W → Calls Tryz.prog 33 #[.agg #[.slice A n c]] W fun e w' => e = .returned (.bool (rosterB a)) ∧ Cln W w' := fun W h => rroster_any a A n c (by omega) W (hr1.out.cln h)
 generalize rosterB a = ro at cO cRO
 have tL : ((K.length : Int) != (K.length : Int)) = false := by simp
 have tR : (ro != ro) = false := by simp
 go_wp2_with fail
 replace hcur := Lib.hid (cln_trans hcur.out (Below.drew (Below.refl _ _)))
 have hid0 : Hid True := trivial
 go_region_with (first
  |(go_at_call 30; with_reducible refine (cK _ hcur.out).mono ?_; rintro e w' ⟨AK, cK2, rfl, hSK, hq⟩; have hcur := Lib.hid (cln_trans hcur.out hq); clear hq uA lA; have uA := (hA1.out.cln hcur.out).cell; have lA := (hA1.out.cln hcur.out).lt)
  |(go_at_call 31; with_reducible refine (cRK _ hcur.out).mono ?_; rintro e w' ⟨AR, cR2, rfl, hSR, hq⟩; have hcur := Lib.hid (cln_trans hcur.out hq); have hKx := (fun (h : RdStrs _ AK K.length K) => Lib.hid (h.cln hq)) hSK.out; clear hq uA lA; have uA := (hA1.out.cln hcur.out).cell; have lA := (hA1.out.cln hcur.out).lt)
  |(go_at_call 31; with_reducible refine (cRK _ hcur.out).mono ?_; rintro e w' ⟨AR, cR2, rfl, hSR, hq⟩; have hcur := Lib.hid (cln_trans hcur.out hq); clear hq uA lA; have uA := (hA1.out.cln hcur.out).cell; have lA := (hA1.out.cln hcur.out).lt))
 ·replace hcur := Lib.hid (cln_trans hcur.out (Below.drew (Below.refl _ _)))
  go_wp2_with fail
  have g0 := (hA1.out.cln hcur.out).cell 0
  have hD1 := Lib.hid (RdStrs.cln hKx.out (Below.drew (Below.refl _ _)))
  have hD2 := Lib.hid (RdStrs.cln hSR.out (Below.drew (Below.refl _ _)))
  have cO2 : ∀ W : World, (W.cell? ⟨w.heap.size, 0, none⟩ = some (.slice A n c) ∧ Hid (Cln w1 W) ∧ Hid (RdStrs W AK K.length K) ∧ Hid (RdStrs W AR K.length K)) → Calls Tryz.prog 32 #[.agg #[.slice A n c]] W fun e w' => e = .returned (.bool ro) ∧ Cln W w' := fun W h => cO W h.2.1.out
  have cRO2 : ∀ W : World, (W.cell? ⟨w.heap.size, 0, none⟩ = some (.slice A n c) ∧ Hid (Cln w1 W) ∧ Hid (RdStrs W AK K.length K) ∧ Hid (RdStrs W AR K.length K)) → Calls Tryz.prog 33 #[.agg #[.slice A n c]] W fun e w' => e = .returned (.bool ro) ∧ Cln W w' := fun W h => cRO W h.2.1.out
  clear uA lA hKx hSR cO cRO
  go_simp
  refine wp_region_held_drew (S := fun W => W.cell? ⟨w.heap.size, 0, none⟩ = some (.slice A n c) ∧ Hid (Cln w1 W) ∧ Hid (RdStrs W AK K.length K) ∧ Hid (RdStrs W AR K.length K)) (by kernel_rfl) ?hS0_0 (fun hHeld => ?_)
  case hS0_0 => (try dsimp only); exact ⟨g0, hcur, hD1, hD2⟩
  refine wpAnyH_take (i := 0) (oi := { dst := some 29, op := Op.move (Operand.tmp 3), type := 27, pos := "law.go:47", after := #[], guard := none }) (v := ?v0_0) rfl (by kernel_rfl) (by kernel_rfl) (by kernel_rfl) (fun _ _ _ h => h) (Or.inl ⟨by rfl, ?hy0_0⟩) (by assumption) ?rest0_0
  case hy0_0 => intro w hSw; (try dsimp only at hSw); go_simp <;> with_reducible rfl
  try simp only [Act.put, List.setIfInBounds_toArray, List.set_cons_zero, List.set_cons_succ]
  refine wpAnyH_take (i := 1) (oi := { dst := some 30, op := Op.move (Operand.tmp 5), type := 3, pos := "law.go:47", after := #[], guard := none }) (v := ?v1_0) rfl (by kernel_rfl) (by kernel_rfl) (by kernel_rfl) (fun _ _ _ h => h) (Or.inl ⟨by rfl, ?hy1_0⟩) (by assumption) ?rest1_0
  case hy1_0 => intro w hSw; (try dsimp only at hSw); go_simp <;> with_reducible rfl
  try simp only [Act.put, List.setIfInBounds_toArray, List.set_cons_zero, List.set_cons_succ]
  refine wpAnyH_take (i := 2) (oi := { dst := some 31, op := Op.binOp BinOp.neq 3 (Operand.tmp 29) (Operand.tmp 30) 3, type := 4, pos := "law.go:47", after := #[{ on := 0, ground := Ground.data }, { on := 1, ground := Ground.data }], guard := none }) (v := ?v2_0) rfl (by kernel_rfl) (by kernel_rfl) (by kernel_rfl) (fun _ _ _ h => h) (Or.inl ⟨by rfl, ?hy2_0⟩) (by assumption) ?rest2_0
  case hy2_0 => intro w hSw; (try dsimp only at hSw); go_simp <;> with_reducible rfl
  try simp only [Act.put, List.setIfInBounds_toArray, List.set_cons_zero, List.set_cons_succ]
  refine wpAnyH_take (i := 3) (oi := { dst := some 32, op := Op.move (Operand.tmp 31), type := 4, pos := "law.go:47", after := #[{ on := 2, ground := Ground.data }], guard := none }) (v := ?v3_0) rfl (by kernel_rfl) (by kernel_rfl) (by kernel_rfl) (fun _ _ _ h => h) (Or.inl ⟨by rfl, ?hy3_0⟩) (by assumption) ?rest3_0
  case hy3_0 => intro w hSw; (try dsimp only at hSw); go_simp <;> with_reducible rfl
  try simp only [Act.put, List.setIfInBounds_toArray, List.set_cons_zero, List.set_cons_succ]
  refine wpAnyH_take (i := 4) (oi := { dst := some 33, op := Op.move (Operand.tmp 4), type := 3, pos := "law.go:47", after := #[{ on := 3, ground := Ground.guard }], guard := some (3, false) }) (v := ?v4_0) rfl (by kernel_rfl) (by kernel_rfl) (by kernel_rfl) (fun _ _ _ h => h) (Or.inl ⟨by rfl, ?hy4_0⟩) (by assumption) ?rest4_0
  case hy4_0 => intro w hSw; (try dsimp only at hSw); go_simp <;> with_reducible rfl
  try simp only [Act.put, List.setIfInBounds_toArray, List.set_cons_zero, List.set_cons_succ]
  refine wpAnyH_take (i := 5) (oi := { dst := some 34, op := Op.move (Operand.tmp 6), type := 3, pos := "law.go:47", after := #[{ on := 3, ground := Ground.guard }], guard := some (3, false) }) (v := ?v5_0) rfl (by kernel_rfl) (by kernel_rfl) (by kernel_rfl) (fun _ _ _ h => h) (Or.inl ⟨by rfl, ?hy5_0⟩) (by assumption) ?rest5_0
  case hy5_0 => intro w hSw; (try dsimp only at hSw); go_simp <;> with_reducible rfl
  try simp only [Act.put, List.setIfInBounds_toArray, List.set_cons_zero, List.set_cons_succ]
  refine wpAnyH_take (i := 6) (oi := { dst := some 35, op := Op.binOp BinOp.neq 3 (Operand.tmp 33) (Operand.tmp 34) 3, type := 4, pos := "law.go:47", after := #[{ on := 4, ground := Ground.data }, { on := 5, ground := Ground.data }, { on := 3, ground := Ground.guard }], guard := some (3, false) }) (v := ?v6_0) rfl (by kernel_rfl) (by kernel_rfl) (by kernel_rfl) (fun _ _ _ h => h) (Or.inl ⟨by rfl, ?hy6_0⟩) (by assumption) ?rest6_0
  case hy6_0 => intro w hSw; (try dsimp only at hSw); go_simp <;> with_reducible rfl
  try simp only [Act.put, List.setIfInBounds_toArray, List.set_cons_zero, List.set_cons_succ]
  refine wpAnyH_take (i := 7) (oi := { dst := some 36, op := Op.pick (Operand.tmp 32) (Operand.const (Value.bool true)) (Operand.tmp 35), type := 4, pos := "law.go:47", after := #[{ on := 3, ground := Ground.data }, { on := 6, ground := Ground.data }], guard := none }) (v := ?v7_0) rfl (by kernel_rfl) (by kernel_rfl) (by kernel_rfl) (fun _ _ _ h => h) (Or.inl ⟨by rfl, ?hy7_0⟩) (by assumption) ?rest7_0
  case hy7_0 => intro w hSw; (try dsimp only at hSw); go_simp <;> with_reducible rfl
  try simp only [Act.put, List.setIfInBounds_toArray, List.set_cons_zero, List.set_cons_succ]
  refine wpAnyH_take (i := 8) (oi := { dst := some 37, op := Op.move (Operand.tmp 36), type := 4, pos := "law.go:47", after := #[{ on := 7, ground := Ground.data }, { on := 3, ground := Ground.chain }], guard := none }) (v := ?v8_0) rfl (by kernel_rfl) (by kernel_rfl) (by kernel_rfl) (fun _ _ _ h => h) (Or.inl ⟨by rfl, ?hy8_0⟩) (by assumption) ?rest8_0
  case hy8_0 => intro w hSw; (try dsimp only at hSw); go_simp <;> with_reducible rfl
  try simp only [Act.put, List.setIfInBounds_toArray, List.set_cons_zero, List.set_cons_succ]
  refine wpAnyH_take (i := 9) (oi := { dst := some 38, op := Op.move (Operand.tmp 7), type := 54, pos := "law.go:47", after := #[{ on := 8, ground := Ground.guard }], guard := some (8, false) }) (v := ?v9_0) rfl (by kernel_rfl) (by kernel_rfl) (by kernel_rfl) (fun _ _ _ h => h) (Or.inl ⟨by rfl, ?hy9_0⟩) (by assumption) ?rest9_0
  case hy9_0 => intro w hSw; (try dsimp only at hSw); go_simp <;> with_reducible rfl
  try simp only [Act.put, List.setIfInBounds_toArray, List.set_cons_zero, List.set_cons_succ]
  refine wpAnyH_take (i := 10) (oi := { dst := some 39, op := Op.call { callee := Callee.builtin Builtin.len, args := #[Operand.tmp 38], argTypes := #[54] }, type := 3, pos := "law.go:47", after := #[{ on := 9, ground := Ground.data }, { on := 8, ground := Ground.guard }], guard := some (8, false) }) (v := ?v10_0) rfl (by kernel_rfl) (by kernel_rfl) (by kernel_rfl) (fun _ _ _ h => h) (Or.inl ⟨by rfl, ?hy10_0⟩) (by assumption) ?rest10_0
  case hy10_0 => intro w hSw; (try dsimp only at hSw); go_simp <;> with_reducible rfl
  try simp only [Act.put, List.setIfInBounds_toArray, List.set_cons_zero, List.set_cons_succ]
  refine wpAnyH_take (i := 11) (oi := { dst := some 40, op := Op.move (Operand.tmp 8), type := 54, pos := "law.go:47", after := #[{ on := 8, ground := Ground.guard }], guard := some (8, false) }) (v := ?v11_0) rfl (by kernel_rfl) (by kernel_rfl) (by kernel_rfl) (fun _ _ _ h => h) (Or.inl ⟨by rfl, ?hy11_0⟩) (by assumption) ?rest11_0
  case hy11_0 => intro w hSw; (try dsimp only at hSw); go_simp <;> with_reducible rfl
  try simp only [Act.put, List.setIfInBounds_toArray, List.set_cons_zero, List.set_cons_succ]
  refine wpAnyH_take (i := 12) (oi := { dst := some 41, op := Op.call { callee := Callee.builtin Builtin.len, args := #[Operand.tmp 40], argTypes := #[54] }, type := 3, pos := "law.go:47", after := #[{ on := 11, ground := Ground.data }, { on := 8, ground := Ground.guard }], guard := some (8, false) }) (v := ?v12_0) rfl (by kernel_rfl) (by kernel_rfl) (by kernel_rfl) (fun _ _ _ h => h) (Or.inl ⟨by rfl, ?hy12_0⟩) (by assumption) ?rest12_0
  case hy12_0 => intro w hSw; (try dsimp only at hSw); go_simp <;> with_reducible rfl
  try simp only [Act.put, List.setIfInBounds_toArray, List.set_cons_zero, List.set_cons_succ]
  refine wpAnyH_take (i := 13) (oi := { dst := some 42, op := Op.binOp BinOp.neq 3 (Operand.tmp 39) (Operand.tmp 41) 3, type := 4, pos := "law.go:47", after := #[{ on := 10, ground := Ground.data }, { on := 12, ground := Ground.data }, { on := 8, ground := Ground.guard }], guard := some (8, false) }) (v := ?v13_0) rfl (by kernel_rfl) (by kernel_rfl) (by kernel_rfl) (fun _ _ _ h => h) (Or.inl ⟨by rfl, ?hy13_0⟩) (by assumption) ?rest13_0
  case hy13_0 => intro w hSw; (try dsimp only at hSw); go_simp <;> with_reducible rfl
  try simp only [Act.put, List.setIfInBounds_toArray, List.set_cons_zero, List.set_cons_succ]
  refine wpAnyH_take (i := 14) (oi := { dst := some 43, op := Op.pick (Operand.tmp 37) (Operand.const (Value.bool true)) (Operand.tmp 42), type := 4, pos := "law.go:47", after := #[{ on := 8, ground := Ground.data }, { on := 13, ground := Ground.data }], guard := none }) (v := ?v14_0) rfl (by kernel_rfl) (by kernel_rfl) (by kernel_rfl) (fun _ _ _ h => h) (Or.inl ⟨by rfl, ?hy14_0⟩) (by assumption) ?rest14_0
  case hy14_0 => intro w hSw; (try dsimp only at hSw); go_simp <;> with_reducible rfl
  try simp only [Act.put, List.setIfInBounds_toArray, List.set_cons_zero, List.set_cons_succ]
  refine wpAnyH_take (i := 15) (oi := { dst := some 44, op := Op.move (Operand.tmp 43), type := 4, pos := "law.go:47", after := #[{ on := 14, ground := Ground.data }, { on := 8, ground := Ground.chain }], guard := none }) (v := ?v15_0) rfl (by kernel_rfl) (by kernel_rfl) (by kernel_rfl) (fun _ _ _ h => h) (Or.inl ⟨by rfl, ?hy15_0⟩) (by assumption) ?rest15_0
  case hy15_0 => intro w hSw; (try dsimp only at hSw); go_simp <;> with_reducible rfl
  try simp only [Act.put, List.setIfInBounds_toArray, List.set_cons_zero, List.set_cons_succ]
  refine wpAnyH_take (i := 16) (oi := { dst := some 45, op := Op.load 48 (Operand.tmp 1), type := 48, pos := "law.go:47", after := #[{ on := 15, ground := Ground.guard }], guard := some (15, false) }) (v := ?v16_0) rfl (by kernel_rfl) (by kernel_rfl) (by kernel_rfl) (fun _ _ _ h => h) (Or.inl ⟨by rfl, ?hy16_0⟩) (by assumption) ?rest16_0
  case hy16_0 => intro w hSw; (try dsimp only at hSw); go_simp <;> with_reducible rfl
  try simp only [Act.put, List.setIfInBounds_toArray, List.set_cons_zero, List.set_cons_succ]
  refine wpAnyH_take (i := 18) (oi := { dst := some 47, op := Op.load 48 (Operand.tmp 1), type := 48, pos := "law.go:47", after := #[{ on := 15, ground := Ground.guard }], guard := some (15, false) }) (v := ?v18_0) rfl (by kernel_rfl) (by kernel_rfl) (by kernel_rfl) (fun _ _ _ h => h) (Or.inl ⟨by rfl, ?hy18_0⟩) (by assumption) ?rest18_0
  case hy18_0 => intro w hSw; (try dsimp only at hSw); go_simp <;> with_reducible rfl
  try simp only [Act.put, List.setIfInBounds_toArray, List.set_cons_zero, List.set_cons_succ]
  refine wpAnyH_ready (rs := [17]) (by kernel_rfl) (by simp) ?_
  refine AllReadyH.cons (o := { dst := some 46, op := Op.call { callee := Callee.value (Operand.func 32), args := #[Operand.tmp 45], argTypes := #[48] }, type := 4, pos := "law.go:47", after := #[{ on := 16, ground := Ground.data }, { on := 15, ground := Ground.chain }, { on := 15, ground := Ground.guard }], guard := some (15, false) }) rfl (fun KK hKK => ?_) AllReadyH.nil
  go_simp
  go_at_call 32; with_reducible refine (cO2 _ (by assumption)).mono ?_; rintro e w' ⟨rfl, hq⟩
  (try go_wp2_with fail)
  refine hKK.out _ _ ?_ (fun hHeld => ?_)
  ·exact heldKeepK hq (by assumption)
  clear hKK KK
  try simp only [Act.put, List.setIfInBounds_toArray, List.set_cons_zero, List.set_cons_succ]
  refine wpAnyH_ready (rs := [19]) (by kernel_rfl) (by simp) ?_
  refine AllReadyH.cons (o := { dst := some 48, op := Op.call { callee := Callee.value (Operand.func 33), args := #[Operand.tmp 47], argTypes := #[48] }, type := 4, pos := "law.go:47", after := #[{ on := 18, ground := Ground.data }, { on := 17, ground := Ground.chain }, { on := 15, ground := Ground.guard }], guard := some (15, false) }) rfl (fun KK hKK => ?_) AllReadyH.nil
  go_simp
  go_at_call 33; with_reducible refine (cRO2 _ (by assumption)).mono ?_; rintro e w' ⟨rfl, hq⟩
  (try go_wp2_with fail)
  refine hKK.out _ _ ?_ (fun hHeld => ?_)
  ·exact heldKeepK hq (by assumption)
  clear hKK KK
  try simp only [Act.put, List.setIfInBounds_toArray, List.set_cons_zero, List.set_cons_succ]
  refine wpAnyH_take (i := 20) (oi := { dst := some 49, op := Op.binOp BinOp.neq 4 (Operand.tmp 46) (Operand.tmp 48) 4, type := 4, pos := "law.go:47", after := #[{ on := 17, ground := Ground.data }, { on := 19, ground := Ground.data }, { on := 15, ground := Ground.guard }], guard := some (15, false) }) (v := ?v20_0) rfl (by kernel_rfl) (by kernel_rfl) (by kernel_rfl) (fun _ _ _ h => h) (Or.inl ⟨by rfl, ?hy20_0⟩) (by assumption) ?rest20_0
  case hy20_0 => intro w hSw; (try dsimp only at hSw); go_simp <;> with_reducible rfl
  try simp only [Act.put, List.setIfInBounds_toArray, List.set_cons_zero, List.set_cons_succ]
  refine wpAnyH_take (i := 21) (oi := { dst := some 50, op := Op.pick (Operand.tmp 44) (Operand.const (Value.bool true)) (Operand.tmp 49), type := 4, pos := "law.go:47", after := #[{ on := 15, ground := Ground.data }, { on := 20, ground := Ground.data }], guard := none }) (v := ?v21_0) rfl (by kernel_rfl) (by kernel_rfl) (by kernel_rfl) (fun _ _ _ h => h) (Or.inl ⟨by rfl, ?hy21_0⟩) (by assumption) ?rest21_0
  case hy21_0 => intro w hSw; (try dsimp only at hSw); go_simp <;> with_reducible rfl
  try simp only [Act.put, List.setIfInBounds_toArray, List.set_cons_zero, List.set_cons_succ]
  refine wpAnyH_done (by kernel_rfl) ?_ _
  have hS := hHeld
  have hcur := hS.2.1; have hKx := hS.2.2.1; have hSR := hS.2.2.2
  clear hS hHeld g0 hD1 hD2 cO2 cRO2
  go_wp2_with fail
  go_loopw [53] (fun v wr => ∃ i : Nat, i ≤ K.length ∧ v = .int .i64 (i : Nat) ∧ Hid (Cln w1 wr) ∧ Hid (RdStrs wr AK K.length K) ∧ Hid (RdStrs wr AR K.length K)) (fun v _ => (K.length - intOf v).toNat)
  case atStart => exact ⟨0, Nat.zero_le _, rfl, hcur, hKx, hSR⟩
  case round =>
   clear hKx hSR
   obtain ⟨i, hi, rfl, hcl, hKx, hSR⟩ := hrel
   by_cases hlt : i < K.length
   ·have t3 : decide ((i : Int) < (K.length : Int)) = true := decide_eq_true (by omega)
    obtain ⟨b1, o1, rfl, hb1, hc1⟩ := hKx.out.rows (by omega)
    obtain ⟨b2, o2, rfl, hb2, hc2⟩ := hSR.out.rows (by omega)
    have f1 := hc1 i hlt
    have f2 := hc2 i hlt
    clear hc1 hc2
    generalize hx : K.getD i [] = x at f1 f2
    have tx : (x != x) = false := by simp
    have ty : (x == x) = true := by simp
    clear hx
    go_wp2_with fail
    go_quiet (fail)
    all_goals
     go_wp2_with fail
     go_roundw
     case rel => exact ⟨i + 1, hlt, by go_num, Lib.hid (cln_trans hcl.out (by (repeat with_reducible first | exact cR _ | assumption | refine cA ?_ _ | refine cD ?_ | refine cN ?_ _ | refine cS ?_ (by first | omega | (simp <;> omega)) _))), Lib.hid (RdStrs.cln hKx.out (by (repeat with_reducible first | exact cR _ | assumption | refine cA ?_ _ | refine cD ?_ | refine cN ?_ _ | refine cS ?_ (by first | omega | (simp <;> omega)) _))), Lib.hid (RdStrs.cln hSR.out (by (repeat with_reducible first | exact cR _ | assumption | refine cA ?_ _ | refine cD ?_ | refine cN ?_ _ | refine cS ?_ (by first | omega | (simp <;> omega)) _)))⟩
     case measure => simp [intOf]; omega
   ·have hie : i = K.length := by omega
    have t3 : decide ((i : Int) < (K.length : Int)) = false := decide_eq_false (by omega)
    replace hie := Lib.hid hie
    go_wp2_with fail
    go_ret
    exact ⟨rfl, cln_trans hcl1.out hcl.out⟩
 ·replace hcur := Lib.hid (cln_trans hcur.out (Below.drew (Below.refl _ _)))
  go_wp2_with fail
  have g0 := (hA1.out.cln hcur.out).cell 0
  have hD1 := Lib.hid (RdStrs.cln hKx.out (Below.drew (Below.refl _ _)))
  have hD2 := Lib.hid (RdStrs.cln hSR.out (Below.drew (Below.refl _ _)))
  have cO2 : ∀ W : World, (W.cell? ⟨w.heap.size, 0, none⟩ = some (.slice A n c) ∧ Hid (Cln w1 W) ∧ Hid (RdStrs W AK K.length K) ∧ Hid (RdStrs W AR K.length K)) → Calls Tryz.prog 32 #[.agg #[.slice A n c]] W fun e w' => e = .returned (.bool ro) ∧ Cln W w' := fun W h => cO W h.2.1.out
  have cRO2 : ∀ W : World, (W.cell? ⟨w.heap.size, 0, none⟩ = some (.slice A n c) ∧ Hid (Cln w1 W) ∧ Hid (RdStrs W AK K.length K) ∧ Hid (RdStrs W AR K.length K)) → Calls Tryz.prog 33 #[.agg #[.slice A n c]] W fun e w' => e = .returned (.bool ro) ∧ Cln W w' := fun W h => cRO W h.2.1.out
  clear uA lA hKx hSR cO cRO
  go_simp
  refine wp_region_held_drew (S := fun W => W.cell? ⟨w.heap.size, 0, none⟩ = some (.slice A n c) ∧ Hid (Cln w1 W) ∧ Hid (RdStrs W AK K.length K) ∧ Hid (RdStrs W AR K.length K)) (by kernel_rfl) ?hS0_1 (fun hHeld => ?_)
  case hS0_1 => (try dsimp only); exact ⟨g0, hcur, hD1, hD2⟩
  refine wpAnyH_take (i := 0) (oi := { dst := some 29, op := Op.move (Operand.tmp 3), type := 27, pos := "law.go:47", after := #[], guard := none }) (v := ?v0_1) rfl (by kernel_rfl) (by kernel_rfl) (by kernel_rfl) (fun _ _ _ h => h) (Or.inl ⟨by rfl, ?hy0_1⟩) (by assumption) ?rest0_1
  case hy0_1 => intro w hSw; (try dsimp only at hSw); go_simp <;> with_reducible rfl
  try simp only [Act.put, List.setIfInBounds_toArray, List.set_cons_zero, List.set_cons_succ]
  refine wpAnyH_take (i := 1) (oi := { dst := some 30, op := Op.move (Operand.tmp 5), type := 3, pos := "law.go:47", after := #[], guard := none }) (v := ?v1_1) rfl (by kernel_rfl) (by kernel_rfl) (by kernel_rfl) (fun _ _ _ h => h) (Or.inl ⟨by rfl, ?hy1_1⟩) (by assumption) ?rest1_1
  case hy1_1 => intro w hSw; (try dsimp only at hSw); go_simp <;> with_reducible rfl
  try simp only [Act.put, List.setIfInBounds_toArray, List.set_cons_zero, List.set_cons_succ]
  refine wpAnyH_take (i := 2) (oi := { dst := some 31, op := Op.binOp BinOp.neq 3 (Operand.tmp 29) (Operand.tmp 30) 3, type := 4, pos := "law.go:47", after := #[{ on := 0, ground := Ground.data }, { on := 1, ground := Ground.data }], guard := none }) (v := ?v2_1) rfl (by kernel_rfl) (by kernel_rfl) (by kernel_rfl) (fun _ _ _ h => h) (Or.inl ⟨by rfl, ?hy2_1⟩) (by assumption) ?rest2_1
  case hy2_1 => intro w hSw; (try dsimp only at hSw); go_simp <;> with_reducible rfl
  try simp only [Act.put, List.setIfInBounds_toArray, List.set_cons_zero, List.set_cons_succ]
  refine wpAnyH_take (i := 3) (oi := { dst := some 32, op := Op.move (Operand.tmp 31), type := 4, pos := "law.go:47", after := #[{ on := 2, ground := Ground.data }], guard := none }) (v := ?v3_1) rfl (by kernel_rfl) (by kernel_rfl) (by kernel_rfl) (fun _ _ _ h => h) (Or.inl ⟨by rfl, ?hy3_1⟩) (by assumption) ?rest3_1
  case hy3_1 => intro w hSw; (try dsimp only at hSw); go_simp <;> with_reducible rfl
  try simp only [Act.put, List.setIfInBounds_toArray, List.set_cons_zero, List.set_cons_succ]
  refine wpAnyH_take (i := 4) (oi := { dst := some 33, op := Op.move (Operand.tmp 4), type := 3, pos := "law.go:47", after := #[{ on := 3, ground := Ground.guard }], guard := some (3, false) }) (v := ?v4_1) rfl (by kernel_rfl) (by kernel_rfl) (by kernel_rfl) (fun _ _ _ h => h) (Or.inl ⟨by rfl, ?hy4_1⟩) (by assumption) ?rest4_1
  case hy4_1 => intro w hSw; (try dsimp only at hSw); go_simp <;> with_reducible rfl
  try simp only [Act.put, List.setIfInBounds_toArray, List.set_cons_zero, List.set_cons_succ]
  refine wpAnyH_take (i := 5) (oi := { dst := some 34, op := Op.move (Operand.tmp 6), type := 3, pos := "law.go:47", after := #[{ on := 3, ground := Ground.guard }], guard := some (3, false) }) (v := ?v5_1) rfl (by kernel_rfl) (by kernel_rfl) (by kernel_rfl) (fun _ _ _ h => h) (Or.inl ⟨by rfl, ?hy5_1⟩) (by assumption) ?rest5_1
  case hy5_1 => intro w hSw; (try dsimp only at hSw); go_simp <;> with_reducible rfl
  try simp only [Act.put, List.setIfInBounds_toArray, List.set_cons_zero, List.set_cons_succ]
  refine wpAnyH_take (i := 6) (oi := { dst := some 35, op := Op.binOp BinOp.neq 3 (Operand.tmp 33) (Operand.tmp 34) 3, type := 4, pos := "law.go:47", after := #[{ on := 4, ground := Ground.data }, { on := 5, ground := Ground.data }, { on := 3, ground := Ground.guard }], guard := some (3, false) }) (v := ?v6_1) rfl (by kernel_rfl) (by kernel_rfl) (by kernel_rfl) (fun _ _ _ h => h) (Or.inl ⟨by rfl, ?hy6_1⟩) (by assumption) ?rest6_1
  case hy6_1 => intro w hSw; (try dsimp only at hSw); go_simp <;> with_reducible rfl
  try simp only [Act.put, List.setIfInBounds_toArray, List.set_cons_zero, List.set_cons_succ]
  refine wpAnyH_take (i := 7) (oi := { dst := some 36, op := Op.pick (Operand.tmp 32) (Operand.const (Value.bool true)) (Operand.tmp 35), type := 4, pos := "law.go:47", after := #[{ on := 3, ground := Ground.data }, { on := 6, ground := Ground.data }], guard := none }) (v := ?v7_1) rfl (by kernel_rfl) (by kernel_rfl) (by kernel_rfl) (fun _ _ _ h => h) (Or.inl ⟨by rfl, ?hy7_1⟩) (by assumption) ?rest7_1
  case hy7_1 => intro w hSw; (try dsimp only at hSw); go_simp <;> with_reducible rfl
  try simp only [Act.put, List.setIfInBounds_toArray, List.set_cons_zero, List.set_cons_succ]
  refine wpAnyH_take (i := 8) (oi := { dst := some 37, op := Op.move (Operand.tmp 36), type := 4, pos := "law.go:47", after := #[{ on := 7, ground := Ground.data }, { on := 3, ground := Ground.chain }], guard := none }) (v := ?v8_1) rfl (by kernel_rfl) (by kernel_rfl) (by kernel_rfl) (fun _ _ _ h => h) (Or.inl ⟨by rfl, ?hy8_1⟩) (by assumption) ?rest8_1
  case hy8_1 => intro w hSw; (try dsimp only at hSw); go_simp <;> with_reducible rfl
  try simp only [Act.put, List.setIfInBounds_toArray, List.set_cons_zero, List.set_cons_succ]
  refine wpAnyH_take (i := 9) (oi := { dst := some 38, op := Op.move (Operand.tmp 7), type := 54, pos := "law.go:47", after := #[{ on := 8, ground := Ground.guard }], guard := some (8, false) }) (v := ?v9_1) rfl (by kernel_rfl) (by kernel_rfl) (by kernel_rfl) (fun _ _ _ h => h) (Or.inl ⟨by rfl, ?hy9_1⟩) (by assumption) ?rest9_1
  case hy9_1 => intro w hSw; (try dsimp only at hSw); go_simp <;> with_reducible rfl
  try simp only [Act.put, List.setIfInBounds_toArray, List.set_cons_zero, List.set_cons_succ]
  refine wpAnyH_take (i := 10) (oi := { dst := some 39, op := Op.call { callee := Callee.builtin Builtin.len, args := #[Operand.tmp 38], argTypes := #[54] }, type := 3, pos := "law.go:47", after := #[{ on := 9, ground := Ground.data }, { on := 8, ground := Ground.guard }], guard := some (8, false) }) (v := ?v10_1) rfl (by kernel_rfl) (by kernel_rfl) (by kernel_rfl) (fun _ _ _ h => h) (Or.inl ⟨by rfl, ?hy10_1⟩) (by assumption) ?rest10_1
  case hy10_1 => intro w hSw; (try dsimp only at hSw); go_simp <;> with_reducible rfl
  try simp only [Act.put, List.setIfInBounds_toArray, List.set_cons_zero, List.set_cons_succ]
  refine wpAnyH_take (i := 11) (oi := { dst := some 40, op := Op.move (Operand.tmp 8), type := 54, pos := "law.go:47", after := #[{ on := 8, ground := Ground.guard }], guard := some (8, false) }) (v := ?v11_1) rfl (by kernel_rfl) (by kernel_rfl) (by kernel_rfl) (fun _ _ _ h => h) (Or.inl ⟨by rfl, ?hy11_1⟩) (by assumption) ?rest11_1
  case hy11_1 => intro w hSw; (try dsimp only at hSw); go_simp <;> with_reducible rfl
  try simp only [Act.put, List.setIfInBounds_toArray, List.set_cons_zero, List.set_cons_succ]
  refine wpAnyH_take (i := 12) (oi := { dst := some 41, op := Op.call { callee := Callee.builtin Builtin.len, args := #[Operand.tmp 40], argTypes := #[54] }, type := 3, pos := "law.go:47", after := #[{ on := 11, ground := Ground.data }, { on := 8, ground := Ground.guard }], guard := some (8, false) }) (v := ?v12_1) rfl (by kernel_rfl) (by kernel_rfl) (by kernel_rfl) (fun _ _ _ h => h) (Or.inl ⟨by rfl, ?hy12_1⟩) (by assumption) ?rest12_1
  case hy12_1 => intro w hSw; (try dsimp only at hSw); go_simp <;> with_reducible rfl
  try simp only [Act.put, List.setIfInBounds_toArray, List.set_cons_zero, List.set_cons_succ]
  refine wpAnyH_take (i := 13) (oi := { dst := some 42, op := Op.binOp BinOp.neq 3 (Operand.tmp 39) (Operand.tmp 41) 3, type := 4, pos := "law.go:47", after := #[{ on := 10, ground := Ground.data }, { on := 12, ground := Ground.data }, { on := 8, ground := Ground.guard }], guard := some (8, false) }) (v := ?v13_1) rfl (by kernel_rfl) (by kernel_rfl) (by kernel_rfl) (fun _ _ _ h => h) (Or.inl ⟨by rfl, ?hy13_1⟩) (by assumption) ?rest13_1
  case hy13_1 => intro w hSw; (try dsimp only at hSw); go_simp <;> with_reducible rfl
  try simp only [Act.put, List.setIfInBounds_toArray, List.set_cons_zero, List.set_cons_succ]
  refine wpAnyH_take (i := 14) (oi := { dst := some 43, op := Op.pick (Operand.tmp 37) (Operand.const (Value.bool true)) (Operand.tmp 42), type := 4, pos := "law.go:47", after := #[{ on := 8, ground := Ground.data }, { on := 13, ground := Ground.data }], guard := none }) (v := ?v14_1) rfl (by kernel_rfl) (by kernel_rfl) (by kernel_rfl) (fun _ _ _ h => h) (Or.inl ⟨by rfl, ?hy14_1⟩) (by assumption) ?rest14_1
  case hy14_1 => intro w hSw; (try dsimp only at hSw); go_simp <;> with_reducible rfl
  try simp only [Act.put, List.setIfInBounds_toArray, List.set_cons_zero, List.set_cons_succ]
  refine wpAnyH_take (i := 15) (oi := { dst := some 44, op := Op.move (Operand.tmp 43), type := 4, pos := "law.go:47", after := #[{ on := 14, ground := Ground.data }, { on := 8, ground := Ground.chain }], guard := none }) (v := ?v15_1) rfl (by kernel_rfl) (by kernel_rfl) (by kernel_rfl) (fun _ _ _ h => h) (Or.inl ⟨by rfl, ?hy15_1⟩) (by assumption) ?rest15_1
  case hy15_1 => intro w hSw; (try dsimp only at hSw); go_simp <;> with_reducible rfl
  try simp only [Act.put, List.setIfInBounds_toArray, List.set_cons_zero, List.set_cons_succ]
  refine wpAnyH_take (i := 16) (oi := { dst := some 45, op := Op.load 48 (Operand.tmp 1), type := 48, pos := "law.go:47", after := #[{ on := 15, ground := Ground.guard }], guard := some (15, false) }) (v := ?v16_1) rfl (by kernel_rfl) (by kernel_rfl) (by kernel_rfl) (fun _ _ _ h => h) (Or.inl ⟨by rfl, ?hy16_1⟩) (by assumption) ?rest16_1
  case hy16_1 => intro w hSw; (try dsimp only at hSw); go_simp <;> with_reducible rfl
  try simp only [Act.put, List.setIfInBounds_toArray, List.set_cons_zero, List.set_cons_succ]
  refine wpAnyH_take (i := 18) (oi := { dst := some 47, op := Op.load 48 (Operand.tmp 1), type := 48, pos := "law.go:47", after := #[{ on := 15, ground := Ground.guard }], guard := some (15, false) }) (v := ?v18_1) rfl (by kernel_rfl) (by kernel_rfl) (by kernel_rfl) (fun _ _ _ h => h) (Or.inl ⟨by rfl, ?hy18_1⟩) (by assumption) ?rest18_1
  case hy18_1 => intro w hSw; (try dsimp only at hSw); go_simp <;> with_reducible rfl
  try simp only [Act.put, List.setIfInBounds_toArray, List.set_cons_zero, List.set_cons_succ]
  refine wpAnyH_ready (rs := [17]) (by kernel_rfl) (by simp) ?_
  refine AllReadyH.cons (o := { dst := some 46, op := Op.call { callee := Callee.value (Operand.func 32), args := #[Operand.tmp 45], argTypes := #[48] }, type := 4, pos := "law.go:47", after := #[{ on := 16, ground := Ground.data }, { on := 15, ground := Ground.chain }, { on := 15, ground := Ground.guard }], guard := some (15, false) }) rfl (fun KK hKK => ?_) AllReadyH.nil
  go_simp
  go_at_call 32; with_reducible refine (cO2 _ (by assumption)).mono ?_; rintro e w' ⟨rfl, hq⟩
  (try go_wp2_with fail)
  refine hKK.out _ _ ?_ (fun hHeld => ?_)
  ·exact heldKeepK hq (by assumption)
  clear hKK KK
  try simp only [Act.put, List.setIfInBounds_toArray, List.set_cons_zero, List.set_cons_succ]
  refine wpAnyH_ready (rs := [19]) (by kernel_rfl) (by simp) ?_
  refine AllReadyH.cons (o := { dst := some 48, op := Op.call { callee := Callee.value (Operand.func 33), args := #[Operand.tmp 47], argTypes := #[48] }, type := 4, pos := "law.go:47", after := #[{ on := 18, ground := Ground.data }, { on := 17, ground := Ground.chain }, { on := 15, ground := Ground.guard }], guard := some (15, false) }) rfl (fun KK hKK => ?_) AllReadyH.nil
  go_simp
  go_at_call 33; with_reducible refine (cRO2 _ (by assumption)).mono ?_; rintro e w' ⟨rfl, hq⟩
  (try go_wp2_with fail)
  refine hKK.out _ _ ?_ (fun hHeld => ?_)
  ·exact heldKeepK hq (by assumption)
  clear hKK KK
  try simp only [Act.put, List.setIfInBounds_toArray, List.set_cons_zero, List.set_cons_succ]
  refine wpAnyH_take (i := 20) (oi := { dst := some 49, op := Op.binOp BinOp.neq 4 (Operand.tmp 46) (Operand.tmp 48) 4, type := 4, pos := "law.go:47", after := #[{ on := 17, ground := Ground.data }, { on := 19, ground := Ground.data }, { on := 15, ground := Ground.guard }], guard := some (15, false) }) (v := ?v20_1) rfl (by kernel_rfl) (by kernel_rfl) (by kernel_rfl) (fun _ _ _ h => h) (Or.inl ⟨by rfl, ?hy20_1⟩) (by assumption) ?rest20_1
  case hy20_1 => intro w hSw; (try dsimp only at hSw); go_simp <;> with_reducible rfl
  try simp only [Act.put, List.setIfInBounds_toArray, List.set_cons_zero, List.set_cons_succ]
  refine wpAnyH_take (i := 21) (oi := { dst := some 50, op := Op.pick (Operand.tmp 44) (Operand.const (Value.bool true)) (Operand.tmp 49), type := 4, pos := "law.go:47", after := #[{ on := 15, ground := Ground.data }, { on := 20, ground := Ground.data }], guard := none }) (v := ?v21_1) rfl (by kernel_rfl) (by kernel_rfl) (by kernel_rfl) (fun _ _ _ h => h) (Or.inl ⟨by rfl, ?hy21_1⟩) (by assumption) ?rest21_1
  case hy21_1 => intro w hSw; (try dsimp only at hSw); go_simp <;> with_reducible rfl
  try simp only [Act.put, List.setIfInBounds_toArray, List.set_cons_zero, List.set_cons_succ]
  refine wpAnyH_done (by kernel_rfl) ?_ _
  have hS := hHeld
  have hcur := hS.2.1; have hKx := hS.2.2.1; have hSR := hS.2.2.2
  clear hS hHeld g0 hD1 hD2 cO2 cRO2
  go_wp2_with fail
  go_loopw [53] (fun v wr => ∃ i : Nat, i ≤ K.length ∧ v = .int .i64 (i : Nat) ∧ Hid (Cln w1 wr) ∧ Hid (RdStrs wr AK K.length K) ∧ Hid (RdStrs wr AR K.length K)) (fun v _ => (K.length - intOf v).toNat)
  case atStart => exact ⟨0, Nat.zero_le _, rfl, hcur, hKx, hSR⟩
  case round =>
   clear hKx hSR
   obtain ⟨i, hi, rfl, hcl, hKx, hSR⟩ := hrel
   by_cases hlt : i < K.length
   ·have t3 : decide ((i : Int) < (K.length : Int)) = true := decide_eq_true (by omega)
    obtain ⟨b1, o1, rfl, hb1, hc1⟩ := hKx.out.rows (by omega)
    obtain ⟨b2, o2, rfl, hb2, hc2⟩ := hSR.out.rows (by omega)
    have f1 := hc1 i hlt
    have f2 := hc2 i hlt
    clear hc1 hc2
    generalize hx : K.getD i [] = x at f1 f2
    have tx : (x != x) = false := by simp
    have ty : (x == x) = true := by simp
    clear hx
    go_wp2_with fail
    go_quiet (fail)
    all_goals
     go_wp2_with fail
     go_roundw
     case rel => exact ⟨i + 1, hlt, by go_num, Lib.hid (cln_trans hcl.out (by (repeat with_reducible first | exact cR _ | assumption | refine cA ?_ _ | refine cD ?_ | refine cN ?_ _ | refine cS ?_ (by first | omega | (simp <;> omega)) _))), Lib.hid (RdStrs.cln hKx.out (by (repeat with_reducible first | exact cR _ | assumption | refine cA ?_ _ | refine cD ?_ | refine cN ?_ _ | refine cS ?_ (by first | omega | (simp <;> omega)) _))), Lib.hid (RdStrs.cln hSR.out (by (repeat with_reducible first | exact cR _ | assumption | refine cA ?_ _ | refine cD ?_ | refine cN ?_ _ | refine cS ?_ (by first | omega | (simp <;> omega)) _)))⟩
     case measure => simp [intOf]; omega
   ·have hie : i = K.length := by omega
    have t3 : decide ((i : Int) < (K.length : Int)) = false := decide_eq_false (by omega)
    replace hie := Lib.hid hie
    go_wp2_with fail
    go_ret
    exact ⟨rfl, cln_trans hcl1.out hcl.out⟩
 ·replace hcur := Lib.hid (cln_trans hcur.out (Below.drew (Below.refl _ _)))
  go_wp2_with fail
  have g0 := (hA1.out.cln hcur.out).cell 0
  have hD1 := Lib.hid (RdStrs.cln hKx.out (Below.drew (Below.refl _ _)))
  have hD2 := Lib.hid (RdStrs.cln hSR.out (Below.drew (Below.refl _ _)))
  have cO2 : ∀ W : World, (W.cell? ⟨w.heap.size, 0, none⟩ = some (.slice A n c) ∧ Hid (Cln w1 W) ∧ Hid (RdStrs W AK K.length K) ∧ Hid (RdStrs W AR K.length K)) → Calls Tryz.prog 32 #[.agg #[.slice A n c]] W fun e w' => e = .returned (.bool ro) ∧ Cln W w' := fun W h => cO W h.2.1.out
  have cRO2 : ∀ W : World, (W.cell? ⟨w.heap.size, 0, none⟩ = some (.slice A n c) ∧ Hid (Cln w1 W) ∧ Hid (RdStrs W AK K.length K) ∧ Hid (RdStrs W AR K.length K)) → Calls Tryz.prog 33 #[.agg #[.slice A n c]] W fun e w' => e = .returned (.bool ro) ∧ Cln W w' := fun W h => cRO W h.2.1.out
  clear uA lA hKx hSR cO cRO
  go_simp
  refine wp_region_held_drew (S := fun W => W.cell? ⟨w.heap.size, 0, none⟩ = some (.slice A n c) ∧ Hid (Cln w1 W) ∧ Hid (RdStrs W AK K.length K) ∧ Hid (RdStrs W AR K.length K)) (by kernel_rfl) ?hS0_2 (fun hHeld => ?_)
  case hS0_2 => (try dsimp only); exact ⟨g0, hcur, hD1, hD2⟩
  refine wpAnyH_take (i := 0) (oi := { dst := some 29, op := Op.move (Operand.tmp 3), type := 27, pos := "law.go:47", after := #[], guard := none }) (v := ?v0_2) rfl (by kernel_rfl) (by kernel_rfl) (by kernel_rfl) (fun _ _ _ h => h) (Or.inl ⟨by rfl, ?hy0_2⟩) (by assumption) ?rest0_2
  case hy0_2 => intro w hSw; (try dsimp only at hSw); go_simp <;> with_reducible rfl
  try simp only [Act.put, List.setIfInBounds_toArray, List.set_cons_zero, List.set_cons_succ]
  refine wpAnyH_take (i := 1) (oi := { dst := some 30, op := Op.move (Operand.tmp 5), type := 3, pos := "law.go:47", after := #[], guard := none }) (v := ?v1_2) rfl (by kernel_rfl) (by kernel_rfl) (by kernel_rfl) (fun _ _ _ h => h) (Or.inl ⟨by rfl, ?hy1_2⟩) (by assumption) ?rest1_2
  case hy1_2 => intro w hSw; (try dsimp only at hSw); go_simp <;> with_reducible rfl
  try simp only [Act.put, List.setIfInBounds_toArray, List.set_cons_zero, List.set_cons_succ]
  refine wpAnyH_take (i := 2) (oi := { dst := some 31, op := Op.binOp BinOp.neq 3 (Operand.tmp 29) (Operand.tmp 30) 3, type := 4, pos := "law.go:47", after := #[{ on := 0, ground := Ground.data }, { on := 1, ground := Ground.data }], guard := none }) (v := ?v2_2) rfl (by kernel_rfl) (by kernel_rfl) (by kernel_rfl) (fun _ _ _ h => h) (Or.inl ⟨by rfl, ?hy2_2⟩) (by assumption) ?rest2_2
  case hy2_2 => intro w hSw; (try dsimp only at hSw); go_simp <;> with_reducible rfl
  try simp only [Act.put, List.setIfInBounds_toArray, List.set_cons_zero, List.set_cons_succ]
  refine wpAnyH_take (i := 3) (oi := { dst := some 32, op := Op.move (Operand.tmp 31), type := 4, pos := "law.go:47", after := #[{ on := 2, ground := Ground.data }], guard := none }) (v := ?v3_2) rfl (by kernel_rfl) (by kernel_rfl) (by kernel_rfl) (fun _ _ _ h => h) (Or.inl ⟨by rfl, ?hy3_2⟩) (by assumption) ?rest3_2
  case hy3_2 => intro w hSw; (try dsimp only at hSw); go_simp <;> with_reducible rfl
  try simp only [Act.put, List.setIfInBounds_toArray, List.set_cons_zero, List.set_cons_succ]
  refine wpAnyH_take (i := 4) (oi := { dst := some 33, op := Op.move (Operand.tmp 4), type := 3, pos := "law.go:47", after := #[{ on := 3, ground := Ground.guard }], guard := some (3, false) }) (v := ?v4_2) rfl (by kernel_rfl) (by kernel_rfl) (by kernel_rfl) (fun _ _ _ h => h) (Or.inl ⟨by rfl, ?hy4_2⟩) (by assumption) ?rest4_2
  case hy4_2 => intro w hSw; (try dsimp only at hSw); go_simp <;> with_reducible rfl
  try simp only [Act.put, List.setIfInBounds_toArray, List.set_cons_zero, List.set_cons_succ]
  refine wpAnyH_take (i := 5) (oi := { dst := some 34, op := Op.move (Operand.tmp 6), type := 3, pos := "law.go:47", after := #[{ on := 3, ground := Ground.guard }], guard := some (3, false) }) (v := ?v5_2) rfl (by kernel_rfl) (by kernel_rfl) (by kernel_rfl) (fun _ _ _ h => h) (Or.inl ⟨by rfl, ?hy5_2⟩) (by assumption) ?rest5_2
  case hy5_2 => intro w hSw; (try dsimp only at hSw); go_simp <;> with_reducible rfl
  try simp only [Act.put, List.setIfInBounds_toArray, List.set_cons_zero, List.set_cons_succ]
  refine wpAnyH_take (i := 6) (oi := { dst := some 35, op := Op.binOp BinOp.neq 3 (Operand.tmp 33) (Operand.tmp 34) 3, type := 4, pos := "law.go:47", after := #[{ on := 4, ground := Ground.data }, { on := 5, ground := Ground.data }, { on := 3, ground := Ground.guard }], guard := some (3, false) }) (v := ?v6_2) rfl (by kernel_rfl) (by kernel_rfl) (by kernel_rfl) (fun _ _ _ h => h) (Or.inl ⟨by rfl, ?hy6_2⟩) (by assumption) ?rest6_2
  case hy6_2 => intro w hSw; (try dsimp only at hSw); go_simp <;> with_reducible rfl
  try simp only [Act.put, List.setIfInBounds_toArray, List.set_cons_zero, List.set_cons_succ]
  refine wpAnyH_take (i := 7) (oi := { dst := some 36, op := Op.pick (Operand.tmp 32) (Operand.const (Value.bool true)) (Operand.tmp 35), type := 4, pos := "law.go:47", after := #[{ on := 3, ground := Ground.data }, { on := 6, ground := Ground.data }], guard := none }) (v := ?v7_2) rfl (by kernel_rfl) (by kernel_rfl) (by kernel_rfl) (fun _ _ _ h => h) (Or.inl ⟨by rfl, ?hy7_2⟩) (by assumption) ?rest7_2
  case hy7_2 => intro w hSw; (try dsimp only at hSw); go_simp <;> with_reducible rfl
  try simp only [Act.put, List.setIfInBounds_toArray, List.set_cons_zero, List.set_cons_succ]
  refine wpAnyH_take (i := 8) (oi := { dst := some 37, op := Op.move (Operand.tmp 36), type := 4, pos := "law.go:47", after := #[{ on := 7, ground := Ground.data }, { on := 3, ground := Ground.chain }], guard := none }) (v := ?v8_2) rfl (by kernel_rfl) (by kernel_rfl) (by kernel_rfl) (fun _ _ _ h => h) (Or.inl ⟨by rfl, ?hy8_2⟩) (by assumption) ?rest8_2
  case hy8_2 => intro w hSw; (try dsimp only at hSw); go_simp <;> with_reducible rfl
  try simp only [Act.put, List.setIfInBounds_toArray, List.set_cons_zero, List.set_cons_succ]
  refine wpAnyH_take (i := 9) (oi := { dst := some 38, op := Op.move (Operand.tmp 7), type := 54, pos := "law.go:47", after := #[{ on := 8, ground := Ground.guard }], guard := some (8, false) }) (v := ?v9_2) rfl (by kernel_rfl) (by kernel_rfl) (by kernel_rfl) (fun _ _ _ h => h) (Or.inl ⟨by rfl, ?hy9_2⟩) (by assumption) ?rest9_2
  case hy9_2 => intro w hSw; (try dsimp only at hSw); go_simp <;> with_reducible rfl
  try simp only [Act.put, List.setIfInBounds_toArray, List.set_cons_zero, List.set_cons_succ]
  refine wpAnyH_take (i := 10) (oi := { dst := some 39, op := Op.call { callee := Callee.builtin Builtin.len, args := #[Operand.tmp 38], argTypes := #[54] }, type := 3, pos := "law.go:47", after := #[{ on := 9, ground := Ground.data }, { on := 8, ground := Ground.guard }], guard := some (8, false) }) (v := ?v10_2) rfl (by kernel_rfl) (by kernel_rfl) (by kernel_rfl) (fun _ _ _ h => h) (Or.inl ⟨by rfl, ?hy10_2⟩) (by assumption) ?rest10_2
  case hy10_2 => intro w hSw; (try dsimp only at hSw); go_simp <;> with_reducible rfl
  try simp only [Act.put, List.setIfInBounds_toArray, List.set_cons_zero, List.set_cons_succ]
  refine wpAnyH_take (i := 11) (oi := { dst := some 40, op := Op.move (Operand.tmp 8), type := 54, pos := "law.go:47", after := #[{ on := 8, ground := Ground.guard }], guard := some (8, false) }) (v := ?v11_2) rfl (by kernel_rfl) (by kernel_rfl) (by kernel_rfl) (fun _ _ _ h => h) (Or.inl ⟨by rfl, ?hy11_2⟩) (by assumption) ?rest11_2
  case hy11_2 => intro w hSw; (try dsimp only at hSw); go_simp <;> with_reducible rfl
  try simp only [Act.put, List.setIfInBounds_toArray, List.set_cons_zero, List.set_cons_succ]
  refine wpAnyH_take (i := 12) (oi := { dst := some 41, op := Op.call { callee := Callee.builtin Builtin.len, args := #[Operand.tmp 40], argTypes := #[54] }, type := 3, pos := "law.go:47", after := #[{ on := 11, ground := Ground.data }, { on := 8, ground := Ground.guard }], guard := some (8, false) }) (v := ?v12_2) rfl (by kernel_rfl) (by kernel_rfl) (by kernel_rfl) (fun _ _ _ h => h) (Or.inl ⟨by rfl, ?hy12_2⟩) (by assumption) ?rest12_2
  case hy12_2 => intro w hSw; (try dsimp only at hSw); go_simp <;> with_reducible rfl
  try simp only [Act.put, List.setIfInBounds_toArray, List.set_cons_zero, List.set_cons_succ]
  refine wpAnyH_take (i := 13) (oi := { dst := some 42, op := Op.binOp BinOp.neq 3 (Operand.tmp 39) (Operand.tmp 41) 3, type := 4, pos := "law.go:47", after := #[{ on := 10, ground := Ground.data }, { on := 12, ground := Ground.data }, { on := 8, ground := Ground.guard }], guard := some (8, false) }) (v := ?v13_2) rfl (by kernel_rfl) (by kernel_rfl) (by kernel_rfl) (fun _ _ _ h => h) (Or.inl ⟨by rfl, ?hy13_2⟩) (by assumption) ?rest13_2
  case hy13_2 => intro w hSw; (try dsimp only at hSw); go_simp <;> with_reducible rfl
  try simp only [Act.put, List.setIfInBounds_toArray, List.set_cons_zero, List.set_cons_succ]
  refine wpAnyH_take (i := 14) (oi := { dst := some 43, op := Op.pick (Operand.tmp 37) (Operand.const (Value.bool true)) (Operand.tmp 42), type := 4, pos := "law.go:47", after := #[{ on := 8, ground := Ground.data }, { on := 13, ground := Ground.data }], guard := none }) (v := ?v14_2) rfl (by kernel_rfl) (by kernel_rfl) (by kernel_rfl) (fun _ _ _ h => h) (Or.inl ⟨by rfl, ?hy14_2⟩) (by assumption) ?rest14_2
  case hy14_2 => intro w hSw; (try dsimp only at hSw); go_simp <;> with_reducible rfl
  try simp only [Act.put, List.setIfInBounds_toArray, List.set_cons_zero, List.set_cons_succ]
  refine wpAnyH_take (i := 15) (oi := { dst := some 44, op := Op.move (Operand.tmp 43), type := 4, pos := "law.go:47", after := #[{ on := 14, ground := Ground.data }, { on := 8, ground := Ground.chain }], guard := none }) (v := ?v15_2) rfl (by kernel_rfl) (by kernel_rfl) (by kernel_rfl) (fun _ _ _ h => h) (Or.inl ⟨by rfl, ?hy15_2⟩) (by assumption) ?rest15_2
  case hy15_2 => intro w hSw; (try dsimp only at hSw); go_simp <;> with_reducible rfl
  try simp only [Act.put, List.setIfInBounds_toArray, List.set_cons_zero, List.set_cons_succ]
  refine wpAnyH_take (i := 16) (oi := { dst := some 45, op := Op.load 48 (Operand.tmp 1), type := 48, pos := "law.go:47", after := #[{ on := 15, ground := Ground.guard }], guard := some (15, false) }) (v := ?v16_2) rfl (by kernel_rfl) (by kernel_rfl) (by kernel_rfl) (fun _ _ _ h => h) (Or.inl ⟨by rfl, ?hy16_2⟩) (by assumption) ?rest16_2
  case hy16_2 => intro w hSw; (try dsimp only at hSw); go_simp <;> with_reducible rfl
  try simp only [Act.put, List.setIfInBounds_toArray, List.set_cons_zero, List.set_cons_succ]
  refine wpAnyH_take (i := 18) (oi := { dst := some 47, op := Op.load 48 (Operand.tmp 1), type := 48, pos := "law.go:47", after := #[{ on := 15, ground := Ground.guard }], guard := some (15, false) }) (v := ?v18_2) rfl (by kernel_rfl) (by kernel_rfl) (by kernel_rfl) (fun _ _ _ h => h) (Or.inl ⟨by rfl, ?hy18_2⟩) (by assumption) ?rest18_2
  case hy18_2 => intro w hSw; (try dsimp only at hSw); go_simp <;> with_reducible rfl
  try simp only [Act.put, List.setIfInBounds_toArray, List.set_cons_zero, List.set_cons_succ]
  refine wpAnyH_ready (rs := [17]) (by kernel_rfl) (by simp) ?_
  refine AllReadyH.cons (o := { dst := some 46, op := Op.call { callee := Callee.value (Operand.func 32), args := #[Operand.tmp 45], argTypes := #[48] }, type := 4, pos := "law.go:47", after := #[{ on := 16, ground := Ground.data }, { on := 15, ground := Ground.chain }, { on := 15, ground := Ground.guard }], guard := some (15, false) }) rfl (fun KK hKK => ?_) AllReadyH.nil
  go_simp
  go_at_call 32; with_reducible refine (cO2 _ (by assumption)).mono ?_; rintro e w' ⟨rfl, hq⟩
  (try go_wp2_with fail)
  refine hKK.out _ _ ?_ (fun hHeld => ?_)
  ·exact heldKeepK hq (by assumption)
  clear hKK KK
  try simp only [Act.put, List.setIfInBounds_toArray, List.set_cons_zero, List.set_cons_succ]
  refine wpAnyH_ready (rs := [19]) (by kernel_rfl) (by simp) ?_
  refine AllReadyH.cons (o := { dst := some 48, op := Op.call { callee := Callee.value (Operand.func 33), args := #[Operand.tmp 47], argTypes := #[48] }, type := 4, pos := "law.go:47", after := #[{ on := 18, ground := Ground.data }, { on := 17, ground := Ground.chain }, { on := 15, ground := Ground.guard }], guard := some (15, false) }) rfl (fun KK hKK => ?_) AllReadyH.nil
  go_simp
  go_at_call 33; with_reducible refine (cRO2 _ (by assumption)).mono ?_; rintro e w' ⟨rfl, hq⟩
  (try go_wp2_with fail)
  refine hKK.out _ _ ?_ (fun hHeld => ?_)
  ·exact heldKeepK hq (by assumption)
  clear hKK KK
  try simp only [Act.put, List.setIfInBounds_toArray, List.set_cons_zero, List.set_cons_succ]
  refine wpAnyH_take (i := 20) (oi := { dst := some 49, op := Op.binOp BinOp.neq 4 (Operand.tmp 46) (Operand.tmp 48) 4, type := 4, pos := "law.go:47", after := #[{ on := 17, ground := Ground.data }, { on := 19, ground := Ground.data }, { on := 15, ground := Ground.guard }], guard := some (15, false) }) (v := ?v20_2) rfl (by kernel_rfl) (by kernel_rfl) (by kernel_rfl) (fun _ _ _ h => h) (Or.inl ⟨by rfl, ?hy20_2⟩) (by assumption) ?rest20_2
  case hy20_2 => intro w hSw; (try dsimp only at hSw); go_simp <;> with_reducible rfl
  try simp only [Act.put, List.setIfInBounds_toArray, List.set_cons_zero, List.set_cons_succ]
  refine wpAnyH_take (i := 21) (oi := { dst := some 50, op := Op.pick (Operand.tmp 44) (Operand.const (Value.bool true)) (Operand.tmp 49), type := 4, pos := "law.go:47", after := #[{ on := 15, ground := Ground.data }, { on := 20, ground := Ground.data }], guard := none }) (v := ?v21_2) rfl (by kernel_rfl) (by kernel_rfl) (by kernel_rfl) (fun _ _ _ h => h) (Or.inl ⟨by rfl, ?hy21_2⟩) (by assumption) ?rest21_2
  case hy21_2 => intro w hSw; (try dsimp only at hSw); go_simp <;> with_reducible rfl
  try simp only [Act.put, List.setIfInBounds_toArray, List.set_cons_zero, List.set_cons_succ]
  refine wpAnyH_done (by kernel_rfl) ?_ _
  have hS := hHeld
  have hcur := hS.2.1; have hKx := hS.2.2.1; have hSR := hS.2.2.2
  clear hS hHeld g0 hD1 hD2 cO2 cRO2
  go_wp2_with fail
  go_loopw [53] (fun v wr => ∃ i : Nat, i ≤ K.length ∧ v = .int .i64 (i : Nat) ∧ Hid (Cln w1 wr) ∧ Hid (RdStrs wr AK K.length K) ∧ Hid (RdStrs wr AR K.length K)) (fun v _ => (K.length - intOf v).toNat)
  case atStart => exact ⟨0, Nat.zero_le _, rfl, hcur, hKx, hSR⟩
  case round =>
   clear hKx hSR
   obtain ⟨i, hi, rfl, hcl, hKx, hSR⟩ := hrel
   by_cases hlt : i < K.length
   ·have t3 : decide ((i : Int) < (K.length : Int)) = true := decide_eq_true (by omega)
    obtain ⟨b1, o1, rfl, hb1, hc1⟩ := hKx.out.rows (by omega)
    obtain ⟨b2, o2, rfl, hb2, hc2⟩ := hSR.out.rows (by omega)
    have f1 := hc1 i hlt
    have f2 := hc2 i hlt
    clear hc1 hc2
    generalize hx : K.getD i [] = x at f1 f2
    have tx : (x != x) = false := by simp
    have ty : (x == x) = true := by simp
    clear hx
    go_wp2_with fail
    go_quiet (fail)
    all_goals
     go_wp2_with fail
     go_roundw
     case rel => exact ⟨i + 1, hlt, by go_num, Lib.hid (cln_trans hcl.out (by (repeat with_reducible first | exact cR _ | assumption | refine cA ?_ _ | refine cD ?_ | refine cN ?_ _ | refine cS ?_ (by first | omega | (simp <;> omega)) _))), Lib.hid (RdStrs.cln hKx.out (by (repeat with_reducible first | exact cR _ | assumption | refine cA ?_ _ | refine cD ?_ | refine cN ?_ _ | refine cS ?_ (by first | omega | (simp <;> omega)) _))), Lib.hid (RdStrs.cln hSR.out (by (repeat with_reducible first | exact cR _ | assumption | refine cA ?_ _ | refine cD ?_ | refine cN ?_ _ | refine cS ?_ (by first | omega | (simp <;> omega)) _)))⟩
     case measure => simp [intOf]; omega
   ·have hie : i = K.length := by omega
    have t3 : decide ((i : Int) < (K.length : Int)) = false := decide_eq_false (by omega)
    replace hie := Lib.hid hie
    go_wp2_with fail
    go_ret
    exact ⟨rfl, cln_trans hcl1.out hcl.out⟩
end Go.Proofs.YtoeoodiifpoomaaGreatDoor
