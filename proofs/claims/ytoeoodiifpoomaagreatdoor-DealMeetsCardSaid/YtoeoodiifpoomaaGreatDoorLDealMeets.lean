/- The law DealMeets. (Printed by wip/tools/gen_ldealm.py.) -/
import Derived.Test.YtoeoodiifpoomaaGreatDoorWDealRM
import Derived.Test.YtoeoodiifpoomaaGreatDoorDeals
import Derived.Deep.RegionWith
import Derived.Deep.RegionHeld3
set_option linter.unusedSimpArgs false
set_option linter.unusedVariables false
set_option maxRecDepth 20000
namespace Go.Proofs.YtoeoodiifpoomaaGreatDoor
open Go.RowKit Moi
attribute [local go_sem] toList_str str_size less_ltB store_float
theorem kindsB_comm (k l : Int) : kindsB k l = kindsB l k := by
 unfold kindsB
 by_cases h1 : k < 3 ∨ 21 < k ∨ l < 3 ∨ 21 < l
 ·have h1' : l < 3 ∨ 21 < l ∨ k < 3 ∨ 21 < k := by omega
  rw [if_pos h1, if_pos h1']
 have h1' : ¬ (l < 3 ∨ 21 < l ∨ k < 3 ∨ 21 < k) := by omega
 rw [if_neg h1, if_neg h1', Bool.and_comm (readsB k)]
 cases hr : readsB l && readsB k with
 | true => rfl
 | false =>
 by_cases h2 : k = 3 ∨ l = 3
 ·have h2' : l = 3 ∨ k = 3 := by omega
  rw [if_pos h2, if_pos h2']
 have h2' : ¬ (l = 3 ∨ k = 3) := by omega
 rw [if_neg h2, if_neg h2']
 by_cases h3 : k = 4 ∨ l = 4
 ·have h3' : l = 4 ∨ k = 4 := by omega
  rw [if_pos h3, if_pos h3']
 have h3' : ¬ (l = 4 ∨ k = 4) := by omega
 rw [if_neg h3, if_neg h3']
 by_cases h4 : onOf k = onOf l
 ·have h4' : ¬ onOf k ≠ onOf l := not_not_intro h4
  have h4'' : ¬ onOf l ≠ onOf k := not_not_intro h4.symm
  rw [if_neg h4', if_neg h4'']
  by_cases h5 : k = l
  ·subst h5; rfl
  ·have e1 : (k == l) = false := by rw [beq_eq_false_iff_ne]; exact h5
   have e2 : (l == k) = false := by rw [beq_eq_false_iff_ne]; exact fun h => h5 h.symm
   rw [e1, e2]; rfl
 ·have h4'' : onOf l ≠ onOf k := fun h => h4 h.symm
  rw [if_pos h4, if_pos h4'']
theorem commuteB_comm (a b : MAct) : commuteB a b = commuteB b a := by
 unfold commuteB
 rw [kindsB_comm a.kind, bne_comm]
theorem rowsB_iff (l m : List MAct) : rowsB l m = true ↔ ∀ a ∈ l, ∀ b ∈ m, commuteB a b = true := by
 unfold rowsB; simp only [List.all_eq_true]
theorem rowsB_comm (l m : List MAct) : rowsB l m = rowsB m l := by
 rw [Bool.eq_iff_iff, rowsB_iff, rowsB_iff]
 exact ⟨fun h a ha b hb => by rw [commuteB_comm]; exact h b hb a ha, fun h a ha b hb => by rw [commuteB_comm]; exact h b hb a ha⟩
theorem conflictB_comm (l m : List MAct) : conflictB l m = conflictB m l := by
 unfold conflictB; rw [rowsB_comm, Bool.and_comm]
theorem meetsA_comm (but : List (List UInt8)) (a b : MAct) : meetsA but a b = meetsA but b a := by
 unfold meetsA
 by_cases h : a.key = b.key
 ·rw [h, Bool.and_comm (readsB a.kind)]
 ·rw [show (a.key == b.key) = false from by rw [beq_eq_false_iff_ne]; exact h, show (b.key == a.key) = false from by rw [beq_eq_false_iff_ne]; exact fun e => h e.symm]; rfl
theorem anyB_iff (but : List (List UInt8)) (l m : List MAct) : (l.any fun a => m.any fun b => meetsA but a b) = true ↔ ∃ a ∈ l, ∃ b ∈ m, meetsA but a b = true := by
 simp only [List.any_eq_true]
theorem meetB_comm (l m : List MAct) (but : List (List UInt8)) : meetB l m but = meetB m l but := by
 unfold meetB
 rw [Bool.and_comm (rosterB l)]
 congr 1
 rw [Bool.eq_iff_iff, anyB_iff, anyB_iff]
 exact ⟨fun ⟨a, ha, b, hb, h⟩ => ⟨b, hb, a, ha, by rw [meetsA_comm]; exact h⟩, fun ⟨a, ha, b, hb, h⟩ => ⟨b, hb, a, ha, by rw [meetsA_comm]; exact h⟩⟩
theorem reads_in {k : Int} (h : readsB k = true) : 3 ≤ k ∧ k ≤ 21 := by
 unfold readsB at h
 simp only [Bool.or_eq_true, beq_iff_eq] at h
 omega
theorem meets_of {l m : List MAct} (h : conflictB l m = true) : meetB l m [] = true := by
 unfold conflictB at h
 unfold meetB
 cases hr : rosterB l && rosterB m with
 | true => simp
 | false =>
  rw [hr, Bool.or_false, Bool.not_eq_true'] at h
  rw [Bool.or_false, anyB_iff]
  have hn : ¬ ∀ a ∈ l, ∀ b ∈ m, commuteB a b = true := fun hh => by rw [(rowsB_iff l m).2 hh] at h; cases h
  have : ∃ a ∈ l, ∃ b ∈ m, commuteB a b = false := Classical.byContradiction fun hh => hn fun a ha b hb => by
   cases hc : commuteB a b with
   | true => rfl
   | false => exact absurd ⟨a, ha, b, hb, hc⟩ hh
  obtain ⟨a, ha, b, hb, hc⟩ := this
  refine ⟨a, ha, b, hb, ?_⟩
  unfold commuteB at hc
  rw [Bool.or_eq_false_iff] at hc
  unfold meetsA
  have hk : (a.key == b.key) = true := by have := hc.1; rw [bne, Bool.not_eq_false'] at this; exact this
  have hrr : (readsB a.kind && readsB b.kind) = false := by
   cases hx : readsB a.kind && readsB b.kind with
   | false => rfl
   | true =>
    rw [Bool.and_eq_true] at hx
    have h1 := reads_in hx.1; have h2 := reads_in hx.2
    have := hc.2
    unfold kindsB at this
    rw [if_neg (by omega), if_pos (by rw [hx.1, hx.2]; rfl)] at this
    cases this
  rw [hk, hrr]; rfl
theorem heldKeep2 {w W W' : World} {p0 p1 : Addr} {v0 v1 : Value} (hq : Cln W W') (h : W.cell? p0 = some v0 ∧ W.cell? p1 = some v1 ∧ Hid (Cln w W)) : W'.cell? p0 = some v0 ∧ W'.cell? p1 = some v1 ∧ Hid (Cln w W') := by
 have k := Kept.of_below (S := fun _ => False) hq
 exact ⟨k.cell h.1 id, k.cell h.2.1 id, Lib.hid (cln_trans h.2.2.out hq)⟩
set_option maxHeartbeats 8000000 in
theorem lDealMeets (a b : List MAct) (but : List (List UInt8)) (A B C : Option Addr) (n c k d q e0 : Nat) (w : World) (hK : KindsAt w) (hr : RdActs w A n a) (hs : RdActs w B k b) (hS : RdStrs w C q but) :
  Calls Tryz.prog 8 #[.agg #[.slice A n c], .agg #[.slice B k d], .slice C q e0] w fun e w' => e = .returned (.bool true) ∧ Cln w w' := by
 have hn : Hid (a.length = n) := hr.len
 have hm : Hid (b.length = k) := hs.len
 have hb0 := (Blk.new w 48 #[.slice A n c]).alloc (.cells #[.slice B k d] 48)
 have hb1 := Blk.new (w.alloc (.cells #[.slice A n c] 48)) 48 #[.slice B k d]
 rw [World.size_alloc] at hb1
 have hcl : Cln w ((w.alloc (.cells #[.slice A n c] 48)).alloc (.cells #[.slice B k d] 48)) := by (repeat with_reducible first | exact cR _ | assumption | refine cA ?_ _ | refine cD ?_ | refine cN ?_ _ | refine cS ?_ (by first | omega | (simp <;> omega)) _)
 have cSp := speaks_deal _ (hK.cln hcl)
 go_enter Tryz.func8, Tryz.ntmps8
 go_wp2_with fail
 refine cSp.mono ?_; rintro e w1 ⟨rfl, hq⟩
 clear cSp
 have hA1 := Lib.hid (hb0.cln hq); have hB1 := Lib.hid (hb1.cln hq)
 have hcl1 := Lib.hid (cln_trans hcl hq)
 have hr1 := Lib.hid (hr.cln hcl1.out); have hs1 := Lib.hid (hs.cln hcl1.out)
 have hS1 := Lib.hid (hS.cln hcl1.out)
 have hK1 := Lib.hid (hK.cln hcl1.out)
 clear hb0 hb1 hcl hq hr hs hK hS
 have cGa : ∀ W : World, (W.cell? ⟨w.heap.size, 0, none⟩ = some (.slice A n c) ∧ W.cell? ⟨w.heap.size + 1, 0, none⟩ = some (.slice B k d) ∧ Hid (Cln w1 W)) → Calls Tryz.prog 27 #[.agg #[.slice A n c]] W fun e w' => e = .returned (.int .i64 (bigND a)) ∧ Cln W w' := fun W h => bigD_any a A n c W (hr1.out.cln h.2.2.out)
 have cGb : ∀ W : World, (W.cell? ⟨w.heap.size, 0, none⟩ = some (.slice A n c) ∧ W.cell? ⟨w.heap.size + 1, 0, none⟩ = some (.slice B k d) ∧ Hid (Cln w1 W)) → Calls Tryz.prog 27 #[.agg #[.slice B k d]] W fun e w' => e = .returned (.int .i64 (bigND b)) ∧ Cln W w' := fun W h => bigD_any b B k d W (hs1.out.cln h.2.2.out)
 go_wp2_with fail
 rcases bigD_or a with ha0 | ha0
 case inr =>
  rcases bigD_or b with hb0 | hb0
  ·rw [ha0] at cGa; rw [hb0] at cGb
   clear ha0 hb0
   have g0 := hA1.out.cell 0; have k0 := hB1.out.cell 0
   have hcurD : Hid (Cln w1 w1.drew) := Below.drew (Below.refl _ _)
   refine wp_region_held_drew (S := fun W => W.cell? ⟨w.heap.size, 0, none⟩ = some (.slice A n c) ∧ W.cell? ⟨w.heap.size + 1, 0, none⟩ = some (.slice B k d) ∧ Hid (Cln w1 W)) (by kernel_rfl) ?hS0 (fun hHeld => ?_)
   case hS0 => (try dsimp only); exact ⟨g0, k0, hcurD⟩
   refine wpAnyH_take (i := 0) (oi := { dst := some 11, op := Op.load 48 (Operand.tmp 3), type := 48, pos := "law.go:63", after := #[], guard := none }) (v := ?v2) rfl (by kernel_rfl) (by kernel_rfl) (by kernel_rfl) (fun _ _ _ h => h) (Or.inl ⟨by rfl, ?hy2⟩) (by assumption) ?rest2
   case hy2 => intro w hSw; (try dsimp only at hSw); go_simp <;> with_reducible rfl
   try simp only [Act.put, List.setIfInBounds_toArray, List.set_cons_zero, List.set_cons_succ]
   refine wpAnyH_take (i := 2) (oi := { dst := some 13, op := Op.load 48 (Operand.tmp 4), type := 48, pos := "law.go:63", after := #[], guard := none }) (v := ?v3) rfl (by kernel_rfl) (by kernel_rfl) (by kernel_rfl) (fun _ _ _ h => h) (Or.inl ⟨by rfl, ?hy3⟩) (by assumption) ?rest3
   case hy3 => intro w hSw; (try dsimp only at hSw); go_simp <;> with_reducible rfl
   try simp only [Act.put, List.setIfInBounds_toArray, List.set_cons_zero, List.set_cons_succ]
   refine wpAnyH_ready (rs := [1]) (by kernel_rfl) (by simp) ?_
   refine AllReadyH.cons (o := { dst := some 12, op := Op.call { callee := Callee.value (Operand.func 27), args := #[Operand.tmp 11], argTypes := #[48] }, type := 3, pos := "law.go:63", after := #[{ on := 0, ground := Ground.data }], guard := none }) rfl (fun K hK => ?_) AllReadyH.nil
   go_simp
   go_at_call 27; with_reducible refine (cGa _ (by assumption)).mono ?_; rintro e w' ⟨rfl, hq⟩
   (try go_wp2_with fail)
   refine hK.out _ _ ?_ (fun hHeld => ?_)
   ·exact heldKeep2 hq (by assumption)
   clear hK K
   try simp only [Act.put, List.setIfInBounds_toArray, List.set_cons_zero, List.set_cons_succ]
   refine wpAnyH_ready (rs := [3]) (by kernel_rfl) (by simp) ?_
   refine AllReadyH.cons (o := { dst := some 14, op := Op.call { callee := Callee.value (Operand.func 27), args := #[Operand.tmp 13], argTypes := #[48] }, type := 3, pos := "law.go:63", after := #[{ on := 2, ground := Ground.data }, { on := 1, ground := Ground.chain }], guard := none }) rfl (fun K hK => ?_) AllReadyH.nil
   go_simp
   go_at_call 27; with_reducible refine (cGb _ (by assumption)).mono ?_; rintro e w' ⟨rfl, hq⟩
   (try go_wp2_with fail)
   refine hK.out _ _ ?_ (fun hHeld => ?_)
   ·exact heldKeep2 hq (by assumption)
   clear hK K
   try simp only [Act.put, List.setIfInBounds_toArray, List.set_cons_zero, List.set_cons_succ]
   refine wpAnyH_take (i := 4) (oi := { dst := some 15, op := Op.binOp BinOp.add 3 (Operand.tmp 12) (Operand.tmp 14) 3, type := 3, pos := "law.go:63", after := #[{ on := 1, ground := Ground.data }, { on := 3, ground := Ground.data }], guard := none }) (v := ?v4) rfl (by kernel_rfl) (by kernel_rfl) (by kernel_rfl) (fun _ _ _ h => h) (Or.inl ⟨by rfl, ?hy4⟩) (by assumption) ?rest4
   case hy4 => intro w hSw; (try dsimp only at hSw); go_simp <;> with_reducible rfl
   try simp only [Act.put, List.setIfInBounds_toArray, List.set_cons_zero, List.set_cons_succ]
   refine wpAnyH_take (i := 5) (oi := { dst := some 16, op := Op.binOp BinOp.gtr 3 (Operand.tmp 15) (Operand.const (Value.int IntKind.i64 0)) 3, type := 4, pos := "law.go:63", after := #[{ on := 4, ground := Ground.data }], guard := none }) (v := ?v5) rfl (by kernel_rfl) (by kernel_rfl) (by kernel_rfl) (fun _ _ _ h => h) (Or.inl ⟨by rfl, ?hy5⟩) (by assumption) ?rest5
   case hy5 => intro w hSw; (try dsimp only at hSw); go_simp <;> with_reducible rfl
   try simp only [Act.put, List.setIfInBounds_toArray, List.set_cons_zero, List.set_cons_succ]
   refine wpAnyH_take (i := 6) (oi := { dst := some 17, op := Op.move (Operand.tmp 16), type := 4, pos := "law.go:63", after := #[{ on := 5, ground := Ground.data }, { on := 3, ground := Ground.chain }], guard := none }) (v := ?v6) rfl (by kernel_rfl) (by kernel_rfl) (by kernel_rfl) (fun _ _ _ h => h) (Or.inl ⟨by rfl, ?hy6⟩) (by assumption) ?rest6
   case hy6 => intro w hSw; (try dsimp only at hSw); go_simp <;> with_reducible rfl
   try simp only [Act.put, List.setIfInBounds_toArray, List.set_cons_zero, List.set_cons_succ]
   refine wpAnyH_take (i := 7) (oi := { dst := some 18, op := Op.move (Operand.tmp 2), type := 54, pos := "law.go:63", after := #[{ on := 6, ground := Ground.guard }], guard := some (6, false) }) (v := undef) rfl (by kernel_rfl) (by kernel_rfl) (by kernel_rfl) (fun _ _ _ h => h) (Or.inr ⟨by rfl, rfl⟩) (by assumption) ?_
   try simp only [Act.put, List.setIfInBounds_toArray, List.set_cons_zero, List.set_cons_succ]
   refine wpAnyH_take (i := 8) (oi := { dst := some 19, op := Op.call { callee := Callee.builtin Builtin.len, args := #[Operand.tmp 18], argTypes := #[54] }, type := 3, pos := "law.go:63", after := #[{ on := 7, ground := Ground.data }, { on := 6, ground := Ground.guard }], guard := some (6, false) }) (v := undef) rfl (by kernel_rfl) (by kernel_rfl) (by kernel_rfl) (fun _ _ _ h => h) (Or.inr ⟨by rfl, rfl⟩) (by assumption) ?_
   try simp only [Act.put, List.setIfInBounds_toArray, List.set_cons_zero, List.set_cons_succ]
   refine wpAnyH_take (i := 9) (oi := { dst := some 20, op := Op.binOp BinOp.gtr 3 (Operand.tmp 19) (Operand.const (Value.int IntKind.i64 40)) 3, type := 4, pos := "law.go:63", after := #[{ on := 8, ground := Ground.data }, { on := 6, ground := Ground.guard }], guard := some (6, false) }) (v := undef) rfl (by kernel_rfl) (by kernel_rfl) (by kernel_rfl) (fun _ _ _ h => h) (Or.inr ⟨by rfl, rfl⟩) (by assumption) ?_
   try simp only [Act.put, List.setIfInBounds_toArray, List.set_cons_zero, List.set_cons_succ]
   refine wpAnyH_take (i := 10) (oi := { dst := some 21, op := Op.pick (Operand.tmp 17) (Operand.const (Value.bool true)) (Operand.tmp 20), type := 4, pos := "law.go:63", after := #[{ on := 6, ground := Ground.data }, { on := 9, ground := Ground.data }], guard := none }) (v := ?v7) rfl (by kernel_rfl) (by kernel_rfl) (by kernel_rfl) (fun _ _ _ h => h) (Or.inl ⟨by rfl, ?hy7⟩) (by assumption) ?rest7
   case hy7 => intro w hSw; (try dsimp only at hSw); go_simp <;> with_reducible rfl
   try simp only [Act.put, List.setIfInBounds_toArray, List.set_cons_zero, List.set_cons_succ]
   refine wpAnyH_done (by kernel_rfl) ?_ _
   have hcur := Lib.hid hHeld.2.2.out
   clear hHeld g0 k0 hcurD
   go_wp2_with fail
   go_ret
   exact ⟨rfl, cln_trans hcl1.out hcur.out⟩
  ·rw [ha0] at cGa; rw [hb0] at cGb
   clear ha0 hb0
   have g0 := hA1.out.cell 0; have k0 := hB1.out.cell 0
   have hcurD : Hid (Cln w1 w1.drew) := Below.drew (Below.refl _ _)
   refine wp_region_held_drew (S := fun W => W.cell? ⟨w.heap.size, 0, none⟩ = some (.slice A n c) ∧ W.cell? ⟨w.heap.size + 1, 0, none⟩ = some (.slice B k d) ∧ Hid (Cln w1 W)) (by kernel_rfl) ?hS7 (fun hHeld => ?_)
   case hS7 => (try dsimp only); exact ⟨g0, k0, hcurD⟩
   refine wpAnyH_take (i := 0) (oi := { dst := some 11, op := Op.load 48 (Operand.tmp 3), type := 48, pos := "law.go:63", after := #[], guard := none }) (v := ?v9) rfl (by kernel_rfl) (by kernel_rfl) (by kernel_rfl) (fun _ _ _ h => h) (Or.inl ⟨by rfl, ?hy9⟩) (by assumption) ?rest9
   case hy9 => intro w hSw; (try dsimp only at hSw); go_simp <;> with_reducible rfl
   try simp only [Act.put, List.setIfInBounds_toArray, List.set_cons_zero, List.set_cons_succ]
   refine wpAnyH_take (i := 2) (oi := { dst := some 13, op := Op.load 48 (Operand.tmp 4), type := 48, pos := "law.go:63", after := #[], guard := none }) (v := ?v10) rfl (by kernel_rfl) (by kernel_rfl) (by kernel_rfl) (fun _ _ _ h => h) (Or.inl ⟨by rfl, ?hy10⟩) (by assumption) ?rest10
   case hy10 => intro w hSw; (try dsimp only at hSw); go_simp <;> with_reducible rfl
   try simp only [Act.put, List.setIfInBounds_toArray, List.set_cons_zero, List.set_cons_succ]
   refine wpAnyH_ready (rs := [1]) (by kernel_rfl) (by simp) ?_
   refine AllReadyH.cons (o := { dst := some 12, op := Op.call { callee := Callee.value (Operand.func 27), args := #[Operand.tmp 11], argTypes := #[48] }, type := 3, pos := "law.go:63", after := #[{ on := 0, ground := Ground.data }], guard := none }) rfl (fun K hK => ?_) AllReadyH.nil
   go_simp
   go_at_call 27; with_reducible refine (cGa _ (by assumption)).mono ?_; rintro e w' ⟨rfl, hq⟩
   (try go_wp2_with fail)
   refine hK.out _ _ ?_ (fun hHeld => ?_)
   ·exact heldKeep2 hq (by assumption)
   clear hK K
   try simp only [Act.put, List.setIfInBounds_toArray, List.set_cons_zero, List.set_cons_succ]
   refine wpAnyH_ready (rs := [3]) (by kernel_rfl) (by simp) ?_
   refine AllReadyH.cons (o := { dst := some 14, op := Op.call { callee := Callee.value (Operand.func 27), args := #[Operand.tmp 13], argTypes := #[48] }, type := 3, pos := "law.go:63", after := #[{ on := 2, ground := Ground.data }, { on := 1, ground := Ground.chain }], guard := none }) rfl (fun K hK => ?_) AllReadyH.nil
   go_simp
   go_at_call 27; with_reducible refine (cGb _ (by assumption)).mono ?_; rintro e w' ⟨rfl, hq⟩
   (try go_wp2_with fail)
   refine hK.out _ _ ?_ (fun hHeld => ?_)
   ·exact heldKeep2 hq (by assumption)
   clear hK K
   try simp only [Act.put, List.setIfInBounds_toArray, List.set_cons_zero, List.set_cons_succ]
   refine wpAnyH_take (i := 4) (oi := { dst := some 15, op := Op.binOp BinOp.add 3 (Operand.tmp 12) (Operand.tmp 14) 3, type := 3, pos := "law.go:63", after := #[{ on := 1, ground := Ground.data }, { on := 3, ground := Ground.data }], guard := none }) (v := ?v11) rfl (by kernel_rfl) (by kernel_rfl) (by kernel_rfl) (fun _ _ _ h => h) (Or.inl ⟨by rfl, ?hy11⟩) (by assumption) ?rest11
   case hy11 => intro w hSw; (try dsimp only at hSw); go_simp <;> with_reducible rfl
   try simp only [Act.put, List.setIfInBounds_toArray, List.set_cons_zero, List.set_cons_succ]
   refine wpAnyH_take (i := 5) (oi := { dst := some 16, op := Op.binOp BinOp.gtr 3 (Operand.tmp 15) (Operand.const (Value.int IntKind.i64 0)) 3, type := 4, pos := "law.go:63", after := #[{ on := 4, ground := Ground.data }], guard := none }) (v := ?v12) rfl (by kernel_rfl) (by kernel_rfl) (by kernel_rfl) (fun _ _ _ h => h) (Or.inl ⟨by rfl, ?hy12⟩) (by assumption) ?rest12
   case hy12 => intro w hSw; (try dsimp only at hSw); go_simp <;> with_reducible rfl
   try simp only [Act.put, List.setIfInBounds_toArray, List.set_cons_zero, List.set_cons_succ]
   refine wpAnyH_take (i := 6) (oi := { dst := some 17, op := Op.move (Operand.tmp 16), type := 4, pos := "law.go:63", after := #[{ on := 5, ground := Ground.data }, { on := 3, ground := Ground.chain }], guard := none }) (v := ?v13) rfl (by kernel_rfl) (by kernel_rfl) (by kernel_rfl) (fun _ _ _ h => h) (Or.inl ⟨by rfl, ?hy13⟩) (by assumption) ?rest13
   case hy13 => intro w hSw; (try dsimp only at hSw); go_simp <;> with_reducible rfl
   try simp only [Act.put, List.setIfInBounds_toArray, List.set_cons_zero, List.set_cons_succ]
   refine wpAnyH_take (i := 7) (oi := { dst := some 18, op := Op.move (Operand.tmp 2), type := 54, pos := "law.go:63", after := #[{ on := 6, ground := Ground.guard }], guard := some (6, false) }) (v := undef) rfl (by kernel_rfl) (by kernel_rfl) (by kernel_rfl) (fun _ _ _ h => h) (Or.inr ⟨by rfl, rfl⟩) (by assumption) ?_
   try simp only [Act.put, List.setIfInBounds_toArray, List.set_cons_zero, List.set_cons_succ]
   refine wpAnyH_take (i := 8) (oi := { dst := some 19, op := Op.call { callee := Callee.builtin Builtin.len, args := #[Operand.tmp 18], argTypes := #[54] }, type := 3, pos := "law.go:63", after := #[{ on := 7, ground := Ground.data }, { on := 6, ground := Ground.guard }], guard := some (6, false) }) (v := undef) rfl (by kernel_rfl) (by kernel_rfl) (by kernel_rfl) (fun _ _ _ h => h) (Or.inr ⟨by rfl, rfl⟩) (by assumption) ?_
   try simp only [Act.put, List.setIfInBounds_toArray, List.set_cons_zero, List.set_cons_succ]
   refine wpAnyH_take (i := 9) (oi := { dst := some 20, op := Op.binOp BinOp.gtr 3 (Operand.tmp 19) (Operand.const (Value.int IntKind.i64 40)) 3, type := 4, pos := "law.go:63", after := #[{ on := 8, ground := Ground.data }, { on := 6, ground := Ground.guard }], guard := some (6, false) }) (v := undef) rfl (by kernel_rfl) (by kernel_rfl) (by kernel_rfl) (fun _ _ _ h => h) (Or.inr ⟨by rfl, rfl⟩) (by assumption) ?_
   try simp only [Act.put, List.setIfInBounds_toArray, List.set_cons_zero, List.set_cons_succ]
   refine wpAnyH_take (i := 10) (oi := { dst := some 21, op := Op.pick (Operand.tmp 17) (Operand.const (Value.bool true)) (Operand.tmp 20), type := 4, pos := "law.go:63", after := #[{ on := 6, ground := Ground.data }, { on := 9, ground := Ground.data }], guard := none }) (v := ?v14) rfl (by kernel_rfl) (by kernel_rfl) (by kernel_rfl) (fun _ _ _ h => h) (Or.inl ⟨by rfl, ?hy14⟩) (by assumption) ?rest14
   case hy14 => intro w hSw; (try dsimp only at hSw); go_simp <;> with_reducible rfl
   try simp only [Act.put, List.setIfInBounds_toArray, List.set_cons_zero, List.set_cons_succ]
   refine wpAnyH_done (by kernel_rfl) ?_ _
   have hcur := Lib.hid hHeld.2.2.out
   clear hHeld g0 k0 hcurD
   go_wp2_with fail
   go_ret
   exact ⟨rfl, cln_trans hcl1.out hcur.out⟩
 rcases bigD_or b with hb0 | hb0
 case inr =>
  rw [ha0] at cGa; rw [hb0] at cGb
  clear ha0 hb0
  have g0 := hA1.out.cell 0; have k0 := hB1.out.cell 0
  have hcurD : Hid (Cln w1 w1.drew) := Below.drew (Below.refl _ _)
  refine wp_region_held_drew (S := fun W => W.cell? ⟨w.heap.size, 0, none⟩ = some (.slice A n c) ∧ W.cell? ⟨w.heap.size + 1, 0, none⟩ = some (.slice B k d) ∧ Hid (Cln w1 W)) (by kernel_rfl) ?hS14 (fun hHeld => ?_)
  case hS14 => (try dsimp only); exact ⟨g0, k0, hcurD⟩
  refine wpAnyH_take (i := 0) (oi := { dst := some 11, op := Op.load 48 (Operand.tmp 3), type := 48, pos := "law.go:63", after := #[], guard := none }) (v := ?v16) rfl (by kernel_rfl) (by kernel_rfl) (by kernel_rfl) (fun _ _ _ h => h) (Or.inl ⟨by rfl, ?hy16⟩) (by assumption) ?rest16
  case hy16 => intro w hSw; (try dsimp only at hSw); go_simp <;> with_reducible rfl
  try simp only [Act.put, List.setIfInBounds_toArray, List.set_cons_zero, List.set_cons_succ]
  refine wpAnyH_take (i := 2) (oi := { dst := some 13, op := Op.load 48 (Operand.tmp 4), type := 48, pos := "law.go:63", after := #[], guard := none }) (v := ?v17) rfl (by kernel_rfl) (by kernel_rfl) (by kernel_rfl) (fun _ _ _ h => h) (Or.inl ⟨by rfl, ?hy17⟩) (by assumption) ?rest17
  case hy17 => intro w hSw; (try dsimp only at hSw); go_simp <;> with_reducible rfl
  try simp only [Act.put, List.setIfInBounds_toArray, List.set_cons_zero, List.set_cons_succ]
  refine wpAnyH_ready (rs := [1]) (by kernel_rfl) (by simp) ?_
  refine AllReadyH.cons (o := { dst := some 12, op := Op.call { callee := Callee.value (Operand.func 27), args := #[Operand.tmp 11], argTypes := #[48] }, type := 3, pos := "law.go:63", after := #[{ on := 0, ground := Ground.data }], guard := none }) rfl (fun K hK => ?_) AllReadyH.nil
  go_simp
  go_at_call 27; with_reducible refine (cGa _ (by assumption)).mono ?_; rintro e w' ⟨rfl, hq⟩
  (try go_wp2_with fail)
  refine hK.out _ _ ?_ (fun hHeld => ?_)
  ·exact heldKeep2 hq (by assumption)
  clear hK K
  try simp only [Act.put, List.setIfInBounds_toArray, List.set_cons_zero, List.set_cons_succ]
  refine wpAnyH_ready (rs := [3]) (by kernel_rfl) (by simp) ?_
  refine AllReadyH.cons (o := { dst := some 14, op := Op.call { callee := Callee.value (Operand.func 27), args := #[Operand.tmp 13], argTypes := #[48] }, type := 3, pos := "law.go:63", after := #[{ on := 2, ground := Ground.data }, { on := 1, ground := Ground.chain }], guard := none }) rfl (fun K hK => ?_) AllReadyH.nil
  go_simp
  go_at_call 27; with_reducible refine (cGb _ (by assumption)).mono ?_; rintro e w' ⟨rfl, hq⟩
  (try go_wp2_with fail)
  refine hK.out _ _ ?_ (fun hHeld => ?_)
  ·exact heldKeep2 hq (by assumption)
  clear hK K
  try simp only [Act.put, List.setIfInBounds_toArray, List.set_cons_zero, List.set_cons_succ]
  refine wpAnyH_take (i := 4) (oi := { dst := some 15, op := Op.binOp BinOp.add 3 (Operand.tmp 12) (Operand.tmp 14) 3, type := 3, pos := "law.go:63", after := #[{ on := 1, ground := Ground.data }, { on := 3, ground := Ground.data }], guard := none }) (v := ?v18) rfl (by kernel_rfl) (by kernel_rfl) (by kernel_rfl) (fun _ _ _ h => h) (Or.inl ⟨by rfl, ?hy18⟩) (by assumption) ?rest18
  case hy18 => intro w hSw; (try dsimp only at hSw); go_simp <;> with_reducible rfl
  try simp only [Act.put, List.setIfInBounds_toArray, List.set_cons_zero, List.set_cons_succ]
  refine wpAnyH_take (i := 5) (oi := { dst := some 16, op := Op.binOp BinOp.gtr 3 (Operand.tmp 15) (Operand.const (Value.int IntKind.i64 0)) 3, type := 4, pos := "law.go:63", after := #[{ on := 4, ground := Ground.data }], guard := none }) (v := ?v19) rfl (by kernel_rfl) (by kernel_rfl) (by kernel_rfl) (fun _ _ _ h => h) (Or.inl ⟨by rfl, ?hy19⟩) (by assumption) ?rest19
  case hy19 => intro w hSw; (try dsimp only at hSw); go_simp <;> with_reducible rfl
  try simp only [Act.put, List.setIfInBounds_toArray, List.set_cons_zero, List.set_cons_succ]
  refine wpAnyH_take (i := 6) (oi := { dst := some 17, op := Op.move (Operand.tmp 16), type := 4, pos := "law.go:63", after := #[{ on := 5, ground := Ground.data }, { on := 3, ground := Ground.chain }], guard := none }) (v := ?v20) rfl (by kernel_rfl) (by kernel_rfl) (by kernel_rfl) (fun _ _ _ h => h) (Or.inl ⟨by rfl, ?hy20⟩) (by assumption) ?rest20
  case hy20 => intro w hSw; (try dsimp only at hSw); go_simp <;> with_reducible rfl
  try simp only [Act.put, List.setIfInBounds_toArray, List.set_cons_zero, List.set_cons_succ]
  refine wpAnyH_take (i := 7) (oi := { dst := some 18, op := Op.move (Operand.tmp 2), type := 54, pos := "law.go:63", after := #[{ on := 6, ground := Ground.guard }], guard := some (6, false) }) (v := undef) rfl (by kernel_rfl) (by kernel_rfl) (by kernel_rfl) (fun _ _ _ h => h) (Or.inr ⟨by rfl, rfl⟩) (by assumption) ?_
  try simp only [Act.put, List.setIfInBounds_toArray, List.set_cons_zero, List.set_cons_succ]
  refine wpAnyH_take (i := 8) (oi := { dst := some 19, op := Op.call { callee := Callee.builtin Builtin.len, args := #[Operand.tmp 18], argTypes := #[54] }, type := 3, pos := "law.go:63", after := #[{ on := 7, ground := Ground.data }, { on := 6, ground := Ground.guard }], guard := some (6, false) }) (v := undef) rfl (by kernel_rfl) (by kernel_rfl) (by kernel_rfl) (fun _ _ _ h => h) (Or.inr ⟨by rfl, rfl⟩) (by assumption) ?_
  try simp only [Act.put, List.setIfInBounds_toArray, List.set_cons_zero, List.set_cons_succ]
  refine wpAnyH_take (i := 9) (oi := { dst := some 20, op := Op.binOp BinOp.gtr 3 (Operand.tmp 19) (Operand.const (Value.int IntKind.i64 40)) 3, type := 4, pos := "law.go:63", after := #[{ on := 8, ground := Ground.data }, { on := 6, ground := Ground.guard }], guard := some (6, false) }) (v := undef) rfl (by kernel_rfl) (by kernel_rfl) (by kernel_rfl) (fun _ _ _ h => h) (Or.inr ⟨by rfl, rfl⟩) (by assumption) ?_
  try simp only [Act.put, List.setIfInBounds_toArray, List.set_cons_zero, List.set_cons_succ]
  refine wpAnyH_take (i := 10) (oi := { dst := some 21, op := Op.pick (Operand.tmp 17) (Operand.const (Value.bool true)) (Operand.tmp 20), type := 4, pos := "law.go:63", after := #[{ on := 6, ground := Ground.data }, { on := 9, ground := Ground.data }], guard := none }) (v := ?v21) rfl (by kernel_rfl) (by kernel_rfl) (by kernel_rfl) (fun _ _ _ h => h) (Or.inl ⟨by rfl, ?hy21⟩) (by assumption) ?rest21
  case hy21 => intro w hSw; (try dsimp only at hSw); go_simp <;> with_reducible rfl
  try simp only [Act.put, List.setIfInBounds_toArray, List.set_cons_zero, List.set_cons_succ]
  refine wpAnyH_done (by kernel_rfl) ?_ _
  have hcur := Lib.hid hHeld.2.2.out
  clear hHeld g0 k0 hcurD
  go_wp2_with fail
  go_ret
  exact ⟨rfl, cln_trans hcl1.out hcur.out⟩
 have hn1 : n ≤ 140737488355328 := by have := (bigD_le ha0).1; rw [hn.out] at this; omega
 have hk1 : k ≤ 140737488355328 := by have := (bigD_le hb0).1; rw [hm.out] at this; omega
 by_cases hq40 : q ≤ 40
 case neg =>
  have tq : decide (40 < (q : Int)) = true := decide_eq_true (by omega)
  rw [ha0] at cGa; rw [hb0] at cGb
  clear ha0 hb0
  have g0 := hA1.out.cell 0; have k0 := hB1.out.cell 0
  have hcurD : Hid (Cln w1 w1.drew) := Below.drew (Below.refl _ _)
  refine wp_region_held_drew (S := fun W => W.cell? ⟨w.heap.size, 0, none⟩ = some (.slice A n c) ∧ W.cell? ⟨w.heap.size + 1, 0, none⟩ = some (.slice B k d) ∧ Hid (Cln w1 W)) (by kernel_rfl) ?hS21 (fun hHeld => ?_)
  case hS21 => (try dsimp only); exact ⟨g0, k0, hcurD⟩
  refine wpAnyH_take (i := 0) (oi := { dst := some 11, op := Op.load 48 (Operand.tmp 3), type := 48, pos := "law.go:63", after := #[], guard := none }) (v := ?v23) rfl (by kernel_rfl) (by kernel_rfl) (by kernel_rfl) (fun _ _ _ h => h) (Or.inl ⟨by rfl, ?hy23⟩) (by assumption) ?rest23
  case hy23 => intro w hSw; (try dsimp only at hSw); go_simp <;> with_reducible rfl
  try simp only [Act.put, List.setIfInBounds_toArray, List.set_cons_zero, List.set_cons_succ]
  refine wpAnyH_take (i := 2) (oi := { dst := some 13, op := Op.load 48 (Operand.tmp 4), type := 48, pos := "law.go:63", after := #[], guard := none }) (v := ?v24) rfl (by kernel_rfl) (by kernel_rfl) (by kernel_rfl) (fun _ _ _ h => h) (Or.inl ⟨by rfl, ?hy24⟩) (by assumption) ?rest24
  case hy24 => intro w hSw; (try dsimp only at hSw); go_simp <;> with_reducible rfl
  try simp only [Act.put, List.setIfInBounds_toArray, List.set_cons_zero, List.set_cons_succ]
  refine wpAnyH_ready (rs := [1]) (by kernel_rfl) (by simp) ?_
  refine AllReadyH.cons (o := { dst := some 12, op := Op.call { callee := Callee.value (Operand.func 27), args := #[Operand.tmp 11], argTypes := #[48] }, type := 3, pos := "law.go:63", after := #[{ on := 0, ground := Ground.data }], guard := none }) rfl (fun K hK => ?_) AllReadyH.nil
  go_simp
  go_at_call 27; with_reducible refine (cGa _ (by assumption)).mono ?_; rintro e w' ⟨rfl, hq⟩
  (try go_wp2_with fail)
  refine hK.out _ _ ?_ (fun hHeld => ?_)
  ·exact heldKeep2 hq (by assumption)
  clear hK K
  try simp only [Act.put, List.setIfInBounds_toArray, List.set_cons_zero, List.set_cons_succ]
  refine wpAnyH_ready (rs := [3]) (by kernel_rfl) (by simp) ?_
  refine AllReadyH.cons (o := { dst := some 14, op := Op.call { callee := Callee.value (Operand.func 27), args := #[Operand.tmp 13], argTypes := #[48] }, type := 3, pos := "law.go:63", after := #[{ on := 2, ground := Ground.data }, { on := 1, ground := Ground.chain }], guard := none }) rfl (fun K hK => ?_) AllReadyH.nil
  go_simp
  go_at_call 27; with_reducible refine (cGb _ (by assumption)).mono ?_; rintro e w' ⟨rfl, hq⟩
  (try go_wp2_with fail)
  refine hK.out _ _ ?_ (fun hHeld => ?_)
  ·exact heldKeep2 hq (by assumption)
  clear hK K
  try simp only [Act.put, List.setIfInBounds_toArray, List.set_cons_zero, List.set_cons_succ]
  refine wpAnyH_take (i := 4) (oi := { dst := some 15, op := Op.binOp BinOp.add 3 (Operand.tmp 12) (Operand.tmp 14) 3, type := 3, pos := "law.go:63", after := #[{ on := 1, ground := Ground.data }, { on := 3, ground := Ground.data }], guard := none }) (v := ?v25) rfl (by kernel_rfl) (by kernel_rfl) (by kernel_rfl) (fun _ _ _ h => h) (Or.inl ⟨by rfl, ?hy25⟩) (by assumption) ?rest25
  case hy25 => intro w hSw; (try dsimp only at hSw); go_simp <;> with_reducible rfl
  try simp only [Act.put, List.setIfInBounds_toArray, List.set_cons_zero, List.set_cons_succ]
  refine wpAnyH_take (i := 5) (oi := { dst := some 16, op := Op.binOp BinOp.gtr 3 (Operand.tmp 15) (Operand.const (Value.int IntKind.i64 0)) 3, type := 4, pos := "law.go:63", after := #[{ on := 4, ground := Ground.data }], guard := none }) (v := ?v26) rfl (by kernel_rfl) (by kernel_rfl) (by kernel_rfl) (fun _ _ _ h => h) (Or.inl ⟨by rfl, ?hy26⟩) (by assumption) ?rest26
  case hy26 => intro w hSw; (try dsimp only at hSw); go_simp <;> with_reducible rfl
  try simp only [Act.put, List.setIfInBounds_toArray, List.set_cons_zero, List.set_cons_succ]
  refine wpAnyH_take (i := 6) (oi := { dst := some 17, op := Op.move (Operand.tmp 16), type := 4, pos := "law.go:63", after := #[{ on := 5, ground := Ground.data }, { on := 3, ground := Ground.chain }], guard := none }) (v := ?v27) rfl (by kernel_rfl) (by kernel_rfl) (by kernel_rfl) (fun _ _ _ h => h) (Or.inl ⟨by rfl, ?hy27⟩) (by assumption) ?rest27
  case hy27 => intro w hSw; (try dsimp only at hSw); go_simp <;> with_reducible rfl
  try simp only [Act.put, List.setIfInBounds_toArray, List.set_cons_zero, List.set_cons_succ]
  refine wpAnyH_take (i := 7) (oi := { dst := some 18, op := Op.move (Operand.tmp 2), type := 54, pos := "law.go:63", after := #[{ on := 6, ground := Ground.guard }], guard := some (6, false) }) (v := ?v28) rfl (by kernel_rfl) (by kernel_rfl) (by kernel_rfl) (fun _ _ _ h => h) (Or.inl ⟨by rfl, ?hy28⟩) (by assumption) ?rest28
  case hy28 => intro w hSw; (try dsimp only at hSw); go_simp <;> with_reducible rfl
  try simp only [Act.put, List.setIfInBounds_toArray, List.set_cons_zero, List.set_cons_succ]
  refine wpAnyH_take (i := 8) (oi := { dst := some 19, op := Op.call { callee := Callee.builtin Builtin.len, args := #[Operand.tmp 18], argTypes := #[54] }, type := 3, pos := "law.go:63", after := #[{ on := 7, ground := Ground.data }, { on := 6, ground := Ground.guard }], guard := some (6, false) }) (v := ?v29) rfl (by kernel_rfl) (by kernel_rfl) (by kernel_rfl) (fun _ _ _ h => h) (Or.inl ⟨by rfl, ?hy29⟩) (by assumption) ?rest29
  case hy29 => intro w hSw; (try dsimp only at hSw); go_simp <;> with_reducible rfl
  try simp only [Act.put, List.setIfInBounds_toArray, List.set_cons_zero, List.set_cons_succ]
  refine wpAnyH_take (i := 9) (oi := { dst := some 20, op := Op.binOp BinOp.gtr 3 (Operand.tmp 19) (Operand.const (Value.int IntKind.i64 40)) 3, type := 4, pos := "law.go:63", after := #[{ on := 8, ground := Ground.data }, { on := 6, ground := Ground.guard }], guard := some (6, false) }) (v := ?v30) rfl (by kernel_rfl) (by kernel_rfl) (by kernel_rfl) (fun _ _ _ h => h) (Or.inl ⟨by rfl, ?hy30⟩) (by assumption) ?rest30
  case hy30 => intro w hSw; (try dsimp only at hSw); go_simp <;> with_reducible rfl
  try simp only [Act.put, List.setIfInBounds_toArray, List.set_cons_zero, List.set_cons_succ]
  refine wpAnyH_take (i := 10) (oi := { dst := some 21, op := Op.pick (Operand.tmp 17) (Operand.const (Value.bool true)) (Operand.tmp 20), type := 4, pos := "law.go:63", after := #[{ on := 6, ground := Ground.data }, { on := 9, ground := Ground.data }], guard := none }) (v := ?v31) rfl (by kernel_rfl) (by kernel_rfl) (by kernel_rfl) (fun _ _ _ h => h) (Or.inl ⟨by rfl, ?hy31⟩) (by assumption) ?rest31
  case hy31 => intro w hSw; (try dsimp only at hSw); go_simp <;> with_reducible rfl
  try simp only [Act.put, List.setIfInBounds_toArray, List.set_cons_zero, List.set_cons_succ]
  refine wpAnyH_done (by kernel_rfl) ?_ _
  have hcur := Lib.hid hHeld.2.2.out
  clear hHeld g0 k0 hcurD
  go_wp2_with fail
  go_ret
  exact ⟨rfl, cln_trans hcl1.out hcur.out⟩
 have tq : decide (40 < (q : Int)) = false := decide_eq_false (by omega)
 have hq47 : q ≤ 140737488355328 := by omega
 rw [ha0] at cGa; rw [hb0] at cGb
 clear ha0 hb0
 have g0 := hA1.out.cell 0; have k0 := hB1.out.cell 0
 have hcurD : Hid (Cln w1 w1.drew) := Below.drew (Below.refl _ _)
 refine wp_region_held_drew (S := fun W => W.cell? ⟨w.heap.size, 0, none⟩ = some (.slice A n c) ∧ W.cell? ⟨w.heap.size + 1, 0, none⟩ = some (.slice B k d) ∧ Hid (Cln w1 W)) (by kernel_rfl) ?hS31 (fun hHeld => ?_)
 case hS31 => (try dsimp only); exact ⟨g0, k0, hcurD⟩
 refine wpAnyH_take (i := 0) (oi := { dst := some 11, op := Op.load 48 (Operand.tmp 3), type := 48, pos := "law.go:63", after := #[], guard := none }) (v := ?v33) rfl (by kernel_rfl) (by kernel_rfl) (by kernel_rfl) (fun _ _ _ h => h) (Or.inl ⟨by rfl, ?hy33⟩) (by assumption) ?rest33
 case hy33 => intro w hSw; (try dsimp only at hSw); go_simp <;> with_reducible rfl
 try simp only [Act.put, List.setIfInBounds_toArray, List.set_cons_zero, List.set_cons_succ]
 refine wpAnyH_take (i := 2) (oi := { dst := some 13, op := Op.load 48 (Operand.tmp 4), type := 48, pos := "law.go:63", after := #[], guard := none }) (v := ?v34) rfl (by kernel_rfl) (by kernel_rfl) (by kernel_rfl) (fun _ _ _ h => h) (Or.inl ⟨by rfl, ?hy34⟩) (by assumption) ?rest34
 case hy34 => intro w hSw; (try dsimp only at hSw); go_simp <;> with_reducible rfl
 try simp only [Act.put, List.setIfInBounds_toArray, List.set_cons_zero, List.set_cons_succ]
 refine wpAnyH_ready (rs := [1]) (by kernel_rfl) (by simp) ?_
 refine AllReadyH.cons (o := { dst := some 12, op := Op.call { callee := Callee.value (Operand.func 27), args := #[Operand.tmp 11], argTypes := #[48] }, type := 3, pos := "law.go:63", after := #[{ on := 0, ground := Ground.data }], guard := none }) rfl (fun K hK => ?_) AllReadyH.nil
 go_simp
 go_at_call 27; with_reducible refine (cGa _ (by assumption)).mono ?_; rintro e w' ⟨rfl, hq⟩
 (try go_wp2_with fail)
 refine hK.out _ _ ?_ (fun hHeld => ?_)
 ·exact heldKeep2 hq (by assumption)
 clear hK K
 try simp only [Act.put, List.setIfInBounds_toArray, List.set_cons_zero, List.set_cons_succ]
 refine wpAnyH_ready (rs := [3]) (by kernel_rfl) (by simp) ?_
 refine AllReadyH.cons (o := { dst := some 14, op := Op.call { callee := Callee.value (Operand.func 27), args := #[Operand.tmp 13], argTypes := #[48] }, type := 3, pos := "law.go:63", after := #[{ on := 2, ground := Ground.data }, { on := 1, ground := Ground.chain }], guard := none }) rfl (fun K hK => ?_) AllReadyH.nil
 go_simp
 go_at_call 27; with_reducible refine (cGb _ (by assumption)).mono ?_; rintro e w' ⟨rfl, hq⟩
 (try go_wp2_with fail)
 refine hK.out _ _ ?_ (fun hHeld => ?_)
 ·exact heldKeep2 hq (by assumption)
 clear hK K
 try simp only [Act.put, List.setIfInBounds_toArray, List.set_cons_zero, List.set_cons_succ]
 refine wpAnyH_take (i := 4) (oi := { dst := some 15, op := Op.binOp BinOp.add 3 (Operand.tmp 12) (Operand.tmp 14) 3, type := 3, pos := "law.go:63", after := #[{ on := 1, ground := Ground.data }, { on := 3, ground := Ground.data }], guard := none }) (v := ?v35) rfl (by kernel_rfl) (by kernel_rfl) (by kernel_rfl) (fun _ _ _ h => h) (Or.inl ⟨by rfl, ?hy35⟩) (by assumption) ?rest35
 case hy35 => intro w hSw; (try dsimp only at hSw); go_simp <;> with_reducible rfl
 try simp only [Act.put, List.setIfInBounds_toArray, List.set_cons_zero, List.set_cons_succ]
 refine wpAnyH_take (i := 5) (oi := { dst := some 16, op := Op.binOp BinOp.gtr 3 (Operand.tmp 15) (Operand.const (Value.int IntKind.i64 0)) 3, type := 4, pos := "law.go:63", after := #[{ on := 4, ground := Ground.data }], guard := none }) (v := ?v36) rfl (by kernel_rfl) (by kernel_rfl) (by kernel_rfl) (fun _ _ _ h => h) (Or.inl ⟨by rfl, ?hy36⟩) (by assumption) ?rest36
 case hy36 => intro w hSw; (try dsimp only at hSw); go_simp <;> with_reducible rfl
 try simp only [Act.put, List.setIfInBounds_toArray, List.set_cons_zero, List.set_cons_succ]
 refine wpAnyH_take (i := 6) (oi := { dst := some 17, op := Op.move (Operand.tmp 16), type := 4, pos := "law.go:63", after := #[{ on := 5, ground := Ground.data }, { on := 3, ground := Ground.chain }], guard := none }) (v := ?v37) rfl (by kernel_rfl) (by kernel_rfl) (by kernel_rfl) (fun _ _ _ h => h) (Or.inl ⟨by rfl, ?hy37⟩) (by assumption) ?rest37
 case hy37 => intro w hSw; (try dsimp only at hSw); go_simp <;> with_reducible rfl
 try simp only [Act.put, List.setIfInBounds_toArray, List.set_cons_zero, List.set_cons_succ]
 refine wpAnyH_take (i := 7) (oi := { dst := some 18, op := Op.move (Operand.tmp 2), type := 54, pos := "law.go:63", after := #[{ on := 6, ground := Ground.guard }], guard := some (6, false) }) (v := ?v38) rfl (by kernel_rfl) (by kernel_rfl) (by kernel_rfl) (fun _ _ _ h => h) (Or.inl ⟨by rfl, ?hy38⟩) (by assumption) ?rest38
 case hy38 => intro w hSw; (try dsimp only at hSw); go_simp <;> with_reducible rfl
 try simp only [Act.put, List.setIfInBounds_toArray, List.set_cons_zero, List.set_cons_succ]
 refine wpAnyH_take (i := 8) (oi := { dst := some 19, op := Op.call { callee := Callee.builtin Builtin.len, args := #[Operand.tmp 18], argTypes := #[54] }, type := 3, pos := "law.go:63", after := #[{ on := 7, ground := Ground.data }, { on := 6, ground := Ground.guard }], guard := some (6, false) }) (v := ?v39) rfl (by kernel_rfl) (by kernel_rfl) (by kernel_rfl) (fun _ _ _ h => h) (Or.inl ⟨by rfl, ?hy39⟩) (by assumption) ?rest39
 case hy39 => intro w hSw; (try dsimp only at hSw); go_simp <;> with_reducible rfl
 try simp only [Act.put, List.setIfInBounds_toArray, List.set_cons_zero, List.set_cons_succ]
 refine wpAnyH_take (i := 9) (oi := { dst := some 20, op := Op.binOp BinOp.gtr 3 (Operand.tmp 19) (Operand.const (Value.int IntKind.i64 40)) 3, type := 4, pos := "law.go:63", after := #[{ on := 8, ground := Ground.data }, { on := 6, ground := Ground.guard }], guard := some (6, false) }) (v := ?v40) rfl (by kernel_rfl) (by kernel_rfl) (by kernel_rfl) (fun _ _ _ h => h) (Or.inl ⟨by rfl, ?hy40⟩) (by assumption) ?rest40
 case hy40 => intro w hSw; (try dsimp only at hSw); go_simp <;> with_reducible rfl
 try simp only [Act.put, List.setIfInBounds_toArray, List.set_cons_zero, List.set_cons_succ]
 refine wpAnyH_take (i := 10) (oi := { dst := some 21, op := Op.pick (Operand.tmp 17) (Operand.const (Value.bool true)) (Operand.tmp 20), type := 4, pos := "law.go:63", after := #[{ on := 6, ground := Ground.data }, { on := 9, ground := Ground.data }], guard := none }) (v := ?v41) rfl (by kernel_rfl) (by kernel_rfl) (by kernel_rfl) (fun _ _ _ h => h) (Or.inl ⟨by rfl, ?hy41⟩) (by assumption) ?rest41
 case hy41 => intro w hSw; (try dsimp only at hSw); go_simp <;> with_reducible rfl
 try simp only [Act.put, List.setIfInBounds_toArray, List.set_cons_zero, List.set_cons_succ]
 refine wpAnyH_done (by kernel_rfl) ?_ _
 have hcur := Lib.hid hHeld.2.2.out
 clear hHeld g0 k0 hcurD
 have uA := (hA1.out.cln hcur.out).cell; have uB := (hB1.out.cln hcur.out).cell; have lA := (hA1.out.cln hcur.out).lt; have lB := (hB1.out.cln hcur.out).lt
 clear cGa cGb
 have cC : ∀ W : World, Cln w1 W → Calls Tryz.prog 34 #[.agg #[.slice A n c], .agg #[.slice B k d]] W fun e w' => e = .returned (.bool (conflictB a b)) ∧ Cln W w' := fun W h => conflict_any a b A B n c k d hn1 hk1 W (hK1.out.cln h) (hr1.out.cln h) (hs1.out.cln h)
 have cC2 : ∀ W : World, Cln w1 W → Calls Tryz.prog 34 #[.agg #[.slice B k d], .agg #[.slice A n c]] W fun e w' => e = .returned (.bool (conflictB a b)) ∧ Cln W w' := fun W h => by
  rw [conflictB_comm a b]; exact conflict_any b a B A k d n c hk1 hn1 W (hK1.out.cln h) (hs1.out.cln h) (hr1.out.cln h)
 have cRC : ∀ W : World, Cln w1 W → Calls Tryz.prog 36 #[.agg #[.slice A n c], .agg #[.slice B k d]] W fun e w' => e = .returned (.bool (conflictB a b)) ∧ Cln W w' := fun W h => rconflict_any a b A B n c k d hn1 hk1 W (hr1.out.cln h) (hs1.out.cln h)
 have cM : ∀ W : World, Cln w1 W → Calls Tryz.prog 35 #[.agg #[.slice A n c], .agg #[.slice B k d], .slice C q e0] W fun e w' => e = .returned (.bool (meetB a b but)) ∧ Cln W w' := fun W h => meet_any a b but A B C n c k d q e0 hn1 hk1 hq47 W (hr1.out.cln h) (hs1.out.cln h) (hS1.out.cln h)
 have cM2 : ∀ W : World, Cln w1 W → Calls Tryz.prog 35 #[.agg #[.slice B k d], .agg #[.slice A n c], .slice C q e0] W fun e w' => e = .returned (.bool (meetB a b but)) ∧ Cln W w' := fun W h => by
  rw [meetB_comm a b]; exact meet_any b a but B A C k d n c q e0 hk1 hn1 hq47 W (hs1.out.cln h) (hr1.out.cln h) (hS1.out.cln h)
 have cRM : ∀ W : World, Cln w1 W → Calls Tryz.prog 37 #[.agg #[.slice A n c], .agg #[.slice B k d], .slice C q e0] W fun e w' => e = .returned (.bool (meetB a b but)) ∧ Cln W w' := fun W h => rmeet_any a b but A B C n c k d q e0 hn1 hk1 hq47 W (hr1.out.cln h) (hs1.out.cln h) (hS1.out.cln h)
 have cM0 : ∀ W : World, Cln w1 W → Calls Tryz.prog 35 #[.agg #[.slice A n c], .agg #[.slice B k d], .slice none 0 0] W fun e w' => e = .returned (.bool (meetB a b [])) ∧ Cln W w' := fun W h => meet_any a b [] A B none n c k d 0 0 hn1 hk1 (by omega) W (hr1.out.cln h) (hs1.out.cln h) (rd_str0 W)
 have hof : conflictB a b = true → meetB a b [] = true := meets_of
 generalize conflictB a b = cf at cC cC2 cRC hof
 generalize meetB a b but = mt at cM cM2 cRM
 generalize meetB a b [] = m0 at cM0 hof
 go_wp2_with fail
 have g0 := (hA1.out.cln hcur.out).cell 0; have k0 := (hB1.out.cln hcur.out).cell 0
 have hcurD := Lib.hid (cln_trans hcur.out (Below.drew (Below.refl _ _)))
 clear hcur uA uB lA lB
 have cC5 : ∀ W : World, (W.cell? ⟨w.heap.size, 0, none⟩ = some (.slice A n c) ∧ W.cell? ⟨w.heap.size + 1, 0, none⟩ = some (.slice B k d) ∧ Hid (Cln w1 W)) → Calls Tryz.prog 34 #[.agg #[.slice A n c], .agg #[.slice B k d]] W fun e w' => e = .returned (.bool cf) ∧ Cln W w' := fun W h => cC W h.2.2.out
 have cM5 : ∀ W : World, (W.cell? ⟨w.heap.size, 0, none⟩ = some (.slice A n c) ∧ W.cell? ⟨w.heap.size + 1, 0, none⟩ = some (.slice B k d) ∧ Hid (Cln w1 W)) → Calls Tryz.prog 35 #[.agg #[.slice A n c], .agg #[.slice B k d], .slice C q e0] W fun e w' => e = .returned (.bool mt) ∧ Cln W w' := fun W h => cM W h.2.2.out
 go_region_held3 (fun W => W.cell? ⟨w.heap.size, 0, none⟩ = some (.slice A n c) ∧ W.cell? ⟨w.heap.size + 1, 0, none⟩ = some (.slice B k d) ∧ Hid (Cln w1 W))
  (first | exact heldKeep2 hq (by assumption) | exact ⟨g0, k0, hcurD⟩)
  (first
   |(go_at_call 34; with_reducible refine (cC5 _ (by assumption)).mono ?_; rintro e w' ⟨rfl, hq⟩)
   |(go_at_call 35; with_reducible refine (cM5 _ (by assumption)).mono ?_; rintro e w' ⟨rfl, hq⟩))
 rename_i hS
 have hcur := hS.2.2
 clear hS g0 k0 hcurD cC5 cM5
 have uA := (hA1.out.cln hcur.out).cell; have uB := (hB1.out.cln hcur.out).cell; have lA := (hA1.out.cln hcur.out).lt; have lB := (hB1.out.cln hcur.out).lt
 all_goals
  cases cf
  ·clear hof
   cases mt
   all_goals
    go_wp2_with (first | (go_at_call 36; (first | with_reducible refine (cRC _ hcur.out).mono ?_); rintro e w' ⟨rfl, hq⟩; have hcur := Lib.hid (cln_trans hcur.out hq); clear hq uA uB lA lB; have uA := (hA1.out.cln hcur.out).cell; have uB := (hB1.out.cln hcur.out).cell; have lA := (hA1.out.cln hcur.out).lt; have lB := (hB1.out.cln hcur.out).lt) | (go_at_call 37; (first | with_reducible refine (cRM _ hcur.out).mono ?_); rintro e w' ⟨rfl, hq⟩; have hcur := Lib.hid (cln_trans hcur.out hq); clear hq uA uB lA lB; have uA := (hA1.out.cln hcur.out).cell; have uB := (hB1.out.cln hcur.out).cell; have lA := (hA1.out.cln hcur.out).lt; have lB := (hB1.out.cln hcur.out).lt) | (go_at_call 34; (first | with_reducible refine (cC2 _ hcur.out).mono ?_); rintro e w' ⟨rfl, hq⟩; have hcur := Lib.hid (cln_trans hcur.out hq); clear hq uA uB lA lB; have uA := (hA1.out.cln hcur.out).cell; have uB := (hB1.out.cln hcur.out).cell; have lA := (hA1.out.cln hcur.out).lt; have lB := (hB1.out.cln hcur.out).lt) | (go_at_call 35; (first | with_reducible refine (cM2 _ hcur.out).mono ?_); rintro e w' ⟨rfl, hq⟩; have hcur := Lib.hid (cln_trans hcur.out hq); clear hq uA uB lA lB; have uA := (hA1.out.cln hcur.out).cell; have uB := (hB1.out.cln hcur.out).cell; have lA := (hA1.out.cln hcur.out).lt; have lB := (hB1.out.cln hcur.out).lt))
    go_ret
    exact ⟨rfl, cln_trans hcl1.out hcur.out⟩
  ·obtain rfl := hof rfl
   clear hof
   cases mt
   all_goals
    go_wp2_with (first | (go_at_call 36; (first | with_reducible refine (cRC _ hcur.out).mono ?_); rintro e w' ⟨rfl, hq⟩; have hcur := Lib.hid (cln_trans hcur.out hq); clear hq uA uB lA lB; have uA := (hA1.out.cln hcur.out).cell; have uB := (hB1.out.cln hcur.out).cell; have lA := (hA1.out.cln hcur.out).lt; have lB := (hB1.out.cln hcur.out).lt) | (go_at_call 37; (first | with_reducible refine (cRM _ hcur.out).mono ?_); rintro e w' ⟨rfl, hq⟩; have hcur := Lib.hid (cln_trans hcur.out hq); clear hq uA uB lA lB; have uA := (hA1.out.cln hcur.out).cell; have uB := (hB1.out.cln hcur.out).cell; have lA := (hA1.out.cln hcur.out).lt; have lB := (hB1.out.cln hcur.out).lt) | (go_at_call 34; (first | with_reducible refine (cC2 _ hcur.out).mono ?_); rintro e w' ⟨rfl, hq⟩; have hcur := Lib.hid (cln_trans hcur.out hq); clear hq uA uB lA lB; have uA := (hA1.out.cln hcur.out).cell; have uB := (hB1.out.cln hcur.out).cell; have lA := (hA1.out.cln hcur.out).lt; have lB := (hB1.out.cln hcur.out).lt) | (go_at_call 35; (first | with_reducible refine (cM2 _ hcur.out).mono ?_ | with_reducible refine (cM0 _ hcur.out).mono ?_); rintro e w' ⟨rfl, hq⟩; have hcur := Lib.hid (cln_trans hcur.out hq); clear hq uA uB lA lB; have uA := (hA1.out.cln hcur.out).cell; have uB := (hB1.out.cln hcur.out).cell; have lA := (hA1.out.cln hcur.out).lt; have lB := (hB1.out.cln hcur.out).lt))
    go_ret
    exact ⟨rfl, cln_trans hcl1.out hcur.out⟩
end Go.Proofs.YtoeoodiifpoomaaGreatDoor
