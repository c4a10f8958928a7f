/- The law LotCuts. (Printed by wip/tools/gen_llotcuts.py.) -/
import Derived.Test.YtoeoodiifpoomaaGreatDoorLSps
import Derived.Deep.RegionHeld3
set_option linter.unusedSimpArgs false
set_option linter.unusedVariables false
set_option maxRecDepth 20000
namespace Go.Proofs.YtoeoodiifpoomaaGreatDoor
open Go.RowKit Moi
attribute [local go_sem] toList_str str_size less_ltB store_float
theorem heldKeep4c {w W W' : World} {p0 p1 p2 p3 : Addr} {v0 v1 v2 v3 : Value} (hq : Cln W W')
    (h : W.cell? p0 = some v0 ∧ W.cell? p1 = some v1 ∧ W.cell? p2 = some v2 ∧ W.cell? p3 = some v3 ∧ Hid (Cln w W)) :
    W'.cell? p0 = some v0 ∧ W'.cell? p1 = some v1 ∧ W'.cell? p2 = some v2 ∧ W'.cell? p3 = some v3 ∧ Hid (Cln w W') := by
  have k := Kept.of_below (S := fun _ => False) hq
  obtain ⟨h0, h1, h2, h3, h6⟩ := h
  exact ⟨k.cell h0 id, k.cell h1 id, k.cell h2 id, k.cell h3 id, Lib.hid (cln_trans h6.out hq)⟩
theorem dealAt_dropN (l : List (List MAct)) (m i : Nat) (h : m ≤ i) : dealAt (l.drop m) (i - m) = dealAt l i := by
  simp only [dealAt, List.getD, List.getElem?_drop]
  rw [show m + (i - m) = i by omega]
set_option maxHeartbeats 8000000 in
theorem lLotCuts (num : Int) (l : List (List MAct)) (A : Option Addr) (n c : Nat) (w : World) (hK : KindsAt w) (hr : RdDeals w A n l) (hnc : n ≤ c) (hAc : A = none → c = 0) :
    Calls Tryz.prog 6 #[.int .i64 num, .slice A n c] w fun e w' => e = .returned (.bool true) ∧ Cln w w' := by
  have hlen := Lib.hid hr.len
  have cSp := speaks_lot _ hK
  replace hAc := Lib.hid hAc
  go_enter Tryz.func6, Tryz.ntmps6
  go_wp2_with fail
  refine cSp.mono ?_; rintro e w1 ⟨rfl, hq⟩
  clear cSp
  have hr1 := Lib.hid (hr.cln hq); have hK1 := Lib.hid (hK.cln hq); have hcl1 := Lib.hid hq
  clear hq hr hK
  go_wp2_with fail
  refine (bigL_any l A n c w1 hr1.out).mono ?_; rintro e w2 ⟨rfl, hq⟩
  have hcl2 := Lib.hid (cln_trans hcl1.out hq); have hr2 := Lib.hid (hr1.out.cln hq); have hK2 := Lib.hid (hK1.out.cln hq)
  clear hq hcl1 hr1 hK1
  rcases bigL_or l with hb | hb
  case inr =>
    rw [hb]
    go_wp2_with fail
    go_ret
    exact ⟨rfl, hcl2.out⟩
  rw [hb]
  have hmod := Lib.hid (bigL_mod hb)
  have hsz := bigL_le hb
  have hacts : Hid (∀ d ∈ l, d.length ≤ 1048576 ∧ ∀ a ∈ d, a.make.list.length ≤ 1048576) := fun d hd => by
    have h1 := bigD_le (hsz.2 d hd)
    exact ⟨by omega, fun a ha => by have := bigNA_list (h1.2 a ha); omega⟩
  have hn40 : n ≤ 40 := by have := hlen.out; have := hsz.1; omega
  clear hb hsz
  go_wp2_with fail
  refine (cut_any num l A n c hnc hAc.out (by omega) hmod.out hacts.out w2 hK2.out hr2.out).mono ?_
  rintro e w3 ⟨A1, A2, n1, c1, n2, c2, rfl, e1, e2, h11, h22, ra1, ra2, hq⟩
  have hcl3 := Lib.hid (cln_trans hcl2.out hq); have hr3 := Lib.hid (hr2.out.cln hq); have hK3 := Lib.hid (hK2.out.cln hq)
  have hml := many_le num l
  rw [hlen.out] at hml
  have cM : ∀ W, Cln w3 W → Calls Tryz.prog 24 #[.int .i64 num, .slice A n c] W fun e w' => e = .returned (.int .i64 (many num l : Nat)) ∧ Cln W w' := fun W h => rmany_any num l A n c hnc (by omega) hmod.out W (hK3.out.cln h) (hr3.out.cln h)
  generalize many num l = m at e1 e2 hml cM
  have e1' := e1.symm
  subst e1'
  have hnn : Hid (n = m + n2) := by unfold Hid; omega
  clear e1 e2 hq hr2 hK2 hcl2 hacts
  have t1 : (num != num) = false := by simp
  have t2 : ((m : Int) != (m : Int)) = false := by simp
  have t3 : ((n2 : Int) != (n : Int) - (m : Int)) = false := by have := hnn.out; rw [bne_eq_false_iff_eq]; omega
  have hbA := Blk.new w3 24 #[.int .i64 num, .slice A1 m c1]
  have hA4 : Hid (Cln w3 (w3.alloc (.cells #[.int .i64 num, .slice A1 m c1] 24))) := by unfold Hid; (repeat (first | (with_reducible exact Below.refl _ _) | (with_reducible assumption) | (with_reducible refine Below.setCell ?_ (by first | omega | (simp; done) | (simp; omega)) _) | (with_reducible refine Below.alloc ?_ (by first | omega | (simp; done) | (simp; omega)) _) | (with_reducible refine Below.drew ?_) | (with_reducible refine below_drewN ?_ _)))
  go_wp2_with fail
  refine (cM _ hA4.out).mono ?_; rintro e w5 ⟨rfl, hq5⟩
  have hb5 := Lib.hid (hbA.cln hq5)
  have hA5 := Lib.hid (cln_trans hA4.out hq5)
  have hcl5 := Lib.hid (cln_trans hcl3.out hA5.out); have hr5 := Lib.hid (hr3.out.cln hA5.out)
  have hra := Lib.hid (ra1.cln hA5.out); have hrb := Lib.hid (ra2.cln hA5.out)
  clear hbA hA4 hq5 cM hcl3 hr3 hK3 ra1 ra2 hA5
  have q0 := hb5.out.cell 0; have q1 := hb5.out.cell 1; have ql := hb5.out.lt
  go_wp2_with fail
  clear q0 q1 ql
  go_loopw [46] (fun v wr => ∃ i : Nat, i ≤ n ∧ v = .int .i64 (i : Nat) ∧ Hid (Cln w5 wr)) (fun v _ => (n - intOf v).toNat)
  case atStart => exact ⟨0, Nat.zero_le _, rfl, Below.refl _ _⟩
  case round =>
    obtain ⟨i, hi, rfl, hcl⟩ := hrel
    have hb6 := Lib.hid (hb5.out.cln hcl.out)
    by_cases hlt : i < n
    · have t4 : decide ((i : Int) < (n : Int)) = true := decide_eq_true (by omega)
      obtain ⟨b, o, rfl, hbl, hcell⟩ := hr5.out.rows (by omega)
      obtain ⟨Ai, ni, ci, hc0⟩ := hcell i hlt
      clear hcell
      have hc := hc0.cln hcl.out
      have hx := Lib.hid (dealAt_mem l i (by rw [hlen.out]; exact hlt))
      have hit := Lib.hid hc.it
      have f0 := hc.c0
      have hblt : b < wr.heap.size := by have := hcl.out.size; omega
      clear hc0 hc
      by_cases him : i < m
      · have t5 : decide ((i : Int) < (m : Int)) = true := decide_eq_true (by omega)
        have t6 : decide ((m : Int) ≤ (i : Int)) = false := decide_eq_false (by omega)
        have t7 : decide (m ≤ i) = false := decide_eq_false (by omega)
        have t8 : decide (i < m) = true := decide_eq_true (by omega)
        obtain ⟨b1, o1, rfl, hbl1, hcell1⟩ := hra.out.rows (by omega)
        obtain ⟨Aj, nj, cj, hc1⟩ := hcell1 i (by omega)
        clear hcell1
        rw [dealAt_take l m i him] at hc1
        have hd1 := hc1.cln (cln_trans hcl.out (show Cln wr (wr.alloc (.cells #[.slice Ai ni ci] 48)) from by (repeat (first | (with_reducible exact Below.refl _ _) | (with_reducible assumption) | (with_reducible refine Below.setCell ?_ (by first | omega | (simp; done) | (simp; omega)) _) | (with_reducible refine Below.alloc ?_ (by first | omega | (simp; done) | (simp; omega)) _) | (with_reducible refine Below.drew ?_) | (with_reducible refine below_drewN ?_ _)))))
        have f1 := hd1.c0
        have hblt1 : b1 < wr.heap.size := by have := hcl.out.size; omega
        have g0 := (hb6.out.alloc (.cells #[.slice Ai ni ci] 48)).cell 0; have g1 := (hb6.out.alloc (.cells #[.slice Ai ni ci] 48)).cell 1
        have k0 := (Blk.new wr 48 #[.slice Ai ni ci]).cell 0
        have hnj : Hid (nj ≤ 140737488355328) := by have h1 := hmod.out.deals _ hx.out; have h2 := hd1.it.len; unfold Hid; omega
        have hwa : Hid (Cln wr (wr.alloc (.cells #[.slice Ai ni ci] 48))) := by unfold Hid; (repeat (first | (with_reducible exact Below.refl _ _) | (with_reducible assumption) | (with_reducible refine Below.setCell ?_ (by first | omega | (simp; done) | (simp; omega)) _) | (with_reducible refine Below.alloc ?_ (by first | omega | (simp; done) | (simp; omega)) _) | (with_reducible refine Below.drew ?_) | (with_reducible refine below_drewN ?_ _)))
        have hj : Hid (RdActs wr Aj nj (dealAt l i)) := (hc1.cln hcl.out).it
        clear hd1 hc1
        have hcall : ∀ W : World, (W.cell? ⟨w3.heap.size, 0, none⟩ = some (.int .i64 num) ∧ W.cell? ⟨w3.heap.size, 1, none⟩ = some (.slice (some ⟨b1, o1, none⟩) m c1) ∧ W.cell? ⟨wr.heap.size, 0, none⟩ = some (.slice Ai ni ci) ∧ W.cell? ⟨b1, o1 + i, none⟩ = some (.slice Aj nj cj) ∧ Hid (Cln wr W)) → Calls Tryz.prog 25 #[.agg #[.slice Aj nj cj], .agg #[.slice Ai ni ci]] W fun e w' => e = .returned (.bool true) ∧ Cln W w' := fun W h => by
          have h5 := h.2.2.2.2.out
          have hW : RdActs W Aj nj (dealAt l i) := hj.out.cln h5
          have := rdsame_any (dealAt l i) (dealAt l i) Aj Ai nj cj ni ci (hmod.out.items _ hx.out) (hmod.out.items _ hx.out) hnj.out W hW (hit.out.cln h5)
          rw [sameActs_refl] at this
          exact this
        go_wp2_with fail
        refine wp_region_held_drew (S := fun W => W.cell? ⟨w3.heap.size, 0, none⟩ = some (.int .i64 num) ∧ W.cell? ⟨w3.heap.size, 1, none⟩ = some (.slice (some ⟨b1, o1, none⟩) m c1) ∧ W.cell? ⟨wr.heap.size, 0, none⟩ = some (.slice Ai ni ci) ∧ W.cell? ⟨b1, o1 + i, none⟩ = some (.slice Aj nj cj) ∧ Hid (Cln wr W)) (by kernel_rfl) ?hS (fun hHeld => ?_)
        case hS => (try dsimp only); exact ⟨g0, g1, k0, f1, Lib.hid (cln_trans hwa.out (Below.drew (Below.refl _ _)))⟩
        refine wpAnyH_take (i := 0) (oi := { dst := some 51, op := Op.move (Operand.tmp 8), type := 3, pos := "law.go:84", after := #[], guard := none }) (v := ?v0) rfl (by kernel_rfl) (by kernel_rfl) (by kernel_rfl) (fun _ _ _ h => h) (Or.inl ⟨by rfl, ?hy0⟩) (by assumption) ?rest0
        case hy0 => intro w hSw; (try dsimp only at hSw); go_simp <;> with_reducible rfl
        try simp only [Act.put, List.setIfInBounds_toArray, List.set_cons_zero, List.set_cons_succ]
        refine wpAnyH_take (i := 1) (oi := { dst := some 52, op := Op.move (Operand.tmp 7), type := 3, pos := "law.go:84", after := #[], guard := none }) (v := ?v1) rfl (by kernel_rfl) (by kernel_rfl) (by kernel_rfl) (fun _ _ _ h => h) (Or.inl ⟨by rfl, ?hy1⟩) (by assumption) ?rest1
        case hy1 => intro w hSw; (try dsimp only at hSw); go_simp <;> with_reducible rfl
        try simp only [Act.put, List.setIfInBounds_toArray, List.set_cons_zero, List.set_cons_succ]
        refine wpAnyH_take (i := 2) (oi := { dst := some 53, op := Op.binOp BinOp.lss 3 (Operand.tmp 51) (Operand.tmp 52) 3, type := 4, pos := "law.go:84", after := #[{ on := 0, ground := Ground.data }, { on := 1, ground := Ground.data }], guard := none }) (v := ?v2) rfl (by kernel_rfl) (by kernel_rfl) (by kernel_rfl) (fun _ _ _ h => h) (Or.inl ⟨by rfl, ?hy2⟩) (by assumption) ?rest2
        case hy2 => intro w hSw; (try dsimp only at hSw); go_simp <;> with_reducible rfl
        try simp only [Act.put, List.setIfInBounds_toArray, List.set_cons_zero, List.set_cons_succ]
        refine wpAnyH_take (i := 3) (oi := { dst := some 54, op := Op.move (Operand.tmp 53), type := 4, pos := "law.go:84", after := #[{ on := 2, ground := Ground.data }], guard := none }) (v := ?v3) rfl (by kernel_rfl) (by kernel_rfl) (by kernel_rfl) (fun _ _ _ h => h) (Or.inl ⟨by rfl, ?hy3⟩) (by assumption) ?rest3
        case hy3 => intro w hSw; (try dsimp only at hSw); go_simp <;> with_reducible rfl
        try simp only [Act.put, List.setIfInBounds_toArray, List.set_cons_zero, List.set_cons_succ]
        refine wpAnyH_take (i := 4) (oi := { dst := some 55, op := Op.fieldAddr 24 (Operand.tmp 5) 1, type := 0, pos := "law.go:84", after := #[{ on := 3, ground := Ground.guard }], guard := some (3, true) }) (v := ?v4) rfl (by kernel_rfl) (by kernel_rfl) (by kernel_rfl) (fun _ _ _ h => h) (Or.inl ⟨by rfl, ?hy4⟩) (by assumption) ?rest4
        case hy4 => intro w hSw; (try dsimp only at hSw); go_simp <;> with_reducible rfl
        try simp only [Act.put, List.setIfInBounds_toArray, List.set_cons_zero, List.set_cons_succ]
        refine wpAnyH_take (i := 5) (oi := { dst := some 56, op := Op.load 22 (Operand.tmp 55), type := 22, pos := "law.go:84", after := #[{ on := 4, ground := Ground.data }, { on := 3, ground := Ground.guard }], guard := some (3, true) }) (v := ?v5) rfl (by kernel_rfl) (by kernel_rfl) (by kernel_rfl) (fun _ _ _ h => h) (Or.inl ⟨by rfl, ?hy5⟩) (by assumption) ?rest5
        case hy5 => intro w hSw; (try dsimp only at hSw); go_simp <;> with_reducible rfl
        try simp only [Act.put, List.setIfInBounds_toArray, List.set_cons_zero, List.set_cons_succ]
        refine wpAnyH_take (i := 6) (oi := { dst := some 57, op := Op.move (Operand.tmp 8), type := 3, pos := "law.go:84", after := #[{ on := 3, ground := Ground.guard }], guard := some (3, true) }) (v := ?v6) rfl (by kernel_rfl) (by kernel_rfl) (by kernel_rfl) (fun _ _ _ h => h) (Or.inl ⟨by rfl, ?hy6⟩) (by assumption) ?rest6
        case hy6 => intro w hSw; (try dsimp only at hSw); go_simp <;> with_reducible rfl
        try simp only [Act.put, List.setIfInBounds_toArray, List.set_cons_zero, List.set_cons_succ]
        refine wpAnyH_take (i := 7) (oi := { dst := some 58, op := Op.indexAddr 22 (Operand.tmp 56) (Operand.tmp 57), type := 0, pos := "law.go:84", after := #[{ on := 5, ground := Ground.data }, { on := 6, ground := Ground.data }, { on := 3, ground := Ground.guard }], guard := some (3, true) }) (v := ?v7) rfl (by kernel_rfl) (by kernel_rfl) (by kernel_rfl) (fun _ _ _ h => h) (Or.inl ⟨by rfl, ?hy7⟩) (by assumption) ?rest7
        case hy7 => intro w hSw; (try dsimp only at hSw); go_simp <;> with_reducible rfl
        try simp only [Act.put, List.setIfInBounds_toArray, List.set_cons_zero, List.set_cons_succ]
        refine wpAnyH_take (i := 8) (oi := { dst := some 59, op := Op.load 48 (Operand.tmp 58), type := 48, pos := "law.go:84", after := #[{ on := 7, ground := Ground.data }, { on := 3, ground := Ground.guard }], guard := some (3, true) }) (v := ?v8) rfl (by kernel_rfl) (by kernel_rfl) (by kernel_rfl) (fun _ _ _ h => h) (Or.inl ⟨by rfl, ?hy8⟩) (by assumption) ?rest8
        case hy8 => intro w hSw; (try dsimp only at hSw); go_simp <;> with_reducible rfl
        try simp only [Act.put, List.setIfInBounds_toArray, List.set_cons_zero, List.set_cons_succ]
        refine wpAnyH_take (i := 9) (oi := { dst := some 60, op := Op.load 48 (Operand.tmp 9), type := 48, pos := "law.go:84", after := #[{ on := 3, ground := Ground.guard }], guard := some (3, true) }) (v := ?v9) rfl (by kernel_rfl) (by kernel_rfl) (by kernel_rfl) (fun _ _ _ h => h) (Or.inl ⟨by rfl, ?hy9⟩) (by assumption) ?rest9
        case hy9 => intro w hSw; (try dsimp only at hSw); go_simp <;> with_reducible rfl
        try simp only [Act.put, List.setIfInBounds_toArray, List.set_cons_zero, List.set_cons_succ]
        refine wpAnyH_ready (rs := [10]) (by kernel_rfl) (by simp) ?_
        refine AllReadyH.cons (o := { dst := some 61, op := Op.call { callee := Callee.value (Operand.func 25), args := #[Operand.tmp 59, Operand.tmp 60], argTypes := #[48, 48] }, type := 4, pos := "law.go:84", after := #[{ on := 8, ground := Ground.data }, { on := 9, ground := Ground.data }, { on := 3, ground := Ground.chain }, { on := 3, ground := Ground.guard }], guard := some (3, true) }) rfl (fun K hK => ?_) AllReadyH.nil
        go_simp
        go_at_call 25; with_reducible refine (hcall _ (by assumption)).mono ?_; rintro e w' ⟨rfl, hq⟩
        (try go_wp2_with fail)
        refine hK.out _ _ ?_ (fun hHeld => ?_)
        · exact heldKeep4c hq (by assumption)
        clear hK K
        try simp only [Act.put, List.setIfInBounds_toArray, List.set_cons_zero, List.set_cons_succ]
        refine wpAnyH_take (i := 11) (oi := { dst := some 62, op := Op.unOp UnOp.not 4 (Operand.tmp 61), type := 4, pos := "law.go:84", after := #[{ on := 10, ground := Ground.data }, { on := 3, ground := Ground.guard }], guard := some (3, true) }) (v := ?v11) rfl (by kernel_rfl) (by kernel_rfl) (by kernel_rfl) (fun _ _ _ h => h) (Or.inl ⟨by rfl, ?hy11⟩) (by assumption) ?rest11
        case hy11 => intro w hSw; (try dsimp only at hSw); go_simp <;> with_reducible rfl
        try simp only [Act.put, List.setIfInBounds_toArray, List.set_cons_zero, List.set_cons_succ]
        refine wpAnyH_take (i := 12) (oi := { dst := some 63, op := Op.pick (Operand.tmp 54) (Operand.tmp 62) (Operand.const (Value.bool false)), type := 4, pos := "law.go:84", after := #[{ on := 3, ground := Ground.data }, { on := 11, ground := Ground.data }], guard := none }) (v := ?v12) rfl (by kernel_rfl) (by kernel_rfl) (by kernel_rfl) (fun _ _ _ h => h) (Or.inl ⟨by rfl, ?hy12⟩) (by assumption) ?rest12
        case hy12 => intro w hSw; (try dsimp only at hSw); go_simp <;> with_reducible rfl
        try simp only [Act.put, List.setIfInBounds_toArray, List.set_cons_zero, List.set_cons_succ]
        refine wpAnyH_take (i := 13) (oi := { dst := some 64, op := Op.move (Operand.tmp 63), type := 4, pos := "law.go:84", after := #[{ on := 12, ground := Ground.data }, { on := 10, ground := Ground.chain }], guard := none }) (v := ?v13) rfl (by kernel_rfl) (by kernel_rfl) (by kernel_rfl) (fun _ _ _ h => h) (Or.inl ⟨by rfl, ?hy13⟩) (by assumption) ?rest13
        case hy13 => intro w hSw; (try dsimp only at hSw); go_simp <;> with_reducible rfl
        try simp only [Act.put, List.setIfInBounds_toArray, List.set_cons_zero, List.set_cons_succ]
        refine wpAnyH_take (i := 14) (oi := { dst := some 65, op := Op.move (Operand.tmp 8), type := 3, pos := "law.go:84", after := #[{ on := 13, ground := Ground.guard }], guard := some (13, false) }) (v := ?v14) rfl (by kernel_rfl) (by kernel_rfl) (by kernel_rfl) (fun _ _ _ h => h) (Or.inl ⟨by rfl, ?hy14⟩) (by assumption) ?rest14
        case hy14 => intro w hSw; (try dsimp only at hSw); go_simp <;> with_reducible rfl
        try simp only [Act.put, List.setIfInBounds_toArray, List.set_cons_zero, List.set_cons_succ]
        refine wpAnyH_take (i := 15) (oi := { dst := some 66, op := Op.move (Operand.tmp 7), type := 3, pos := "law.go:84", after := #[{ on := 13, ground := Ground.guard }], guard := some (13, false) }) (v := ?v15) rfl (by kernel_rfl) (by kernel_rfl) (by kernel_rfl) (fun _ _ _ h => h) (Or.inl ⟨by rfl, ?hy15⟩) (by assumption) ?rest15
        case hy15 => intro w hSw; (try dsimp only at hSw); go_simp <;> with_reducible rfl
        try simp only [Act.put, List.setIfInBounds_toArray, List.set_cons_zero, List.set_cons_succ]
        refine wpAnyH_take (i := 16) (oi := { dst := some 67, op := Op.binOp BinOp.geq 3 (Operand.tmp 65) (Operand.tmp 66) 3, type := 4, pos := "law.go:84", after := #[{ on := 14, ground := Ground.data }, { on := 15, ground := Ground.data }, { on := 13, ground := Ground.guard }], guard := some (13, false) }) (v := ?v16) rfl (by kernel_rfl) (by kernel_rfl) (by kernel_rfl) (fun _ _ _ h => h) (Or.inl ⟨by rfl, ?hy16⟩) (by assumption) ?rest16
        case hy16 => intro w hSw; (try dsimp only at hSw); go_simp <;> with_reducible rfl
        try simp only [Act.put, List.setIfInBounds_toArray, List.set_cons_zero, List.set_cons_succ]
        refine wpAnyH_take (i := 17) (oi := { dst := some 68, op := Op.move (Operand.tmp 67), type := 4, pos := "law.go:84", after := #[{ on := 16, ground := Ground.data }, { on := 13, ground := Ground.chain }, { on := 13, ground := Ground.guard }], guard := some (13, false) }) (v := ?v17) rfl (by kernel_rfl) (by kernel_rfl) (by kernel_rfl) (fun _ _ _ h => h) (Or.inl ⟨by rfl, ?hy17⟩) (by assumption) ?rest17
        case hy17 => intro w hSw; (try dsimp only at hSw); go_simp <;> with_reducible rfl
        try simp only [Act.put, List.setIfInBounds_toArray, List.set_cons_zero, List.set_cons_succ]
        refine wpAnyH_take (i := 18) (oi := { dst := some 69, op := Op.move (Operand.tmp 6), type := 22, pos := "law.go:84", after := #[{ on := 17, ground := Ground.guard }], guard := some (17, true) }) (v := undef) rfl (by kernel_rfl) (by kernel_rfl) (by kernel_rfl) (fun _ _ _ h => h) (Or.inr ⟨by rfl, rfl⟩) (by assumption) ?_
        try simp only [Act.put, List.setIfInBounds_toArray, List.set_cons_zero, List.set_cons_succ]
        refine wpAnyH_take (i := 19) (oi := { dst := some 70, op := Op.move (Operand.tmp 8), type := 3, pos := "law.go:84", after := #[{ on := 17, ground := Ground.guard }], guard := some (17, true) }) (v := undef) rfl (by kernel_rfl) (by kernel_rfl) (by kernel_rfl) (fun _ _ _ h => h) (Or.inr ⟨by rfl, rfl⟩) (by assumption) ?_
        try simp only [Act.put, List.setIfInBounds_toArray, List.set_cons_zero, List.set_cons_succ]
        refine wpAnyH_take (i := 20) (oi := { dst := some 71, op := Op.move (Operand.tmp 7), type := 3, pos := "law.go:84", after := #[{ on := 17, ground := Ground.guard }], guard := some (17, true) }) (v := undef) rfl (by kernel_rfl) (by kernel_rfl) (by kernel_rfl) (fun _ _ _ h => h) (Or.inr ⟨by rfl, rfl⟩) (by assumption) ?_
        try simp only [Act.put, List.setIfInBounds_toArray, List.set_cons_zero, List.set_cons_succ]
        refine wpAnyH_take (i := 21) (oi := { dst := some 72, op := Op.binOp BinOp.sub 3 (Operand.tmp 70) (Operand.tmp 71) 3, type := 3, pos := "law.go:84", after := #[{ on := 19, ground := Ground.data }, { on := 20, ground := Ground.data }, { on := 17, ground := Ground.guard }], guard := some (17, true) }) (v := undef) rfl (by kernel_rfl) (by kernel_rfl) (by kernel_rfl) (fun _ _ _ h => h) (Or.inr ⟨by rfl, rfl⟩) (by assumption) ?_
        try simp only [Act.put, List.setIfInBounds_toArray, List.set_cons_zero, List.set_cons_succ]
        refine wpAnyH_take (i := 22) (oi := { dst := some 73, op := Op.indexAddr 22 (Operand.tmp 69) (Operand.tmp 72), type := 0, pos := "law.go:84", after := #[{ on := 18, ground := Ground.data }, { on := 21, ground := Ground.data }, { on := 17, ground := Ground.guard }], guard := some (17, true) }) (v := undef) rfl (by kernel_rfl) (by kernel_rfl) (by kernel_rfl) (fun _ _ _ h => h) (Or.inr ⟨by rfl, rfl⟩) (by assumption) ?_
        try simp only [Act.put, List.setIfInBounds_toArray, List.set_cons_zero, List.set_cons_succ]
        refine wpAnyH_take (i := 23) (oi := { dst := some 74, op := Op.load 48 (Operand.tmp 73), type := 48, pos := "law.go:84", after := #[{ on := 22, ground := Ground.data }, { on := 17, ground := Ground.guard }], guard := some (17, true) }) (v := undef) rfl (by kernel_rfl) (by kernel_rfl) (by kernel_rfl) (fun _ _ _ h => h) (Or.inr ⟨by rfl, rfl⟩) (by assumption) ?_
        try simp only [Act.put, List.setIfInBounds_toArray, List.set_cons_zero, List.set_cons_succ]
        refine wpAnyH_take (i := 24) (oi := { dst := some 75, op := Op.load 48 (Operand.tmp 9), type := 48, pos := "law.go:84", after := #[{ on := 17, ground := Ground.guard }], guard := some (17, true) }) (v := undef) rfl (by kernel_rfl) (by kernel_rfl) (by kernel_rfl) (fun _ _ _ h => h) (Or.inr ⟨by rfl, rfl⟩) (by assumption) ?_
        try simp only [Act.put, List.setIfInBounds_toArray, List.set_cons_zero, List.set_cons_succ]
        refine wpAnyH_take (i := 25) (oi := { dst := some 76, op := Op.call { callee := Callee.value (Operand.func 25), args := #[Operand.tmp 74, Operand.tmp 75], argTypes := #[48, 48] }, type := 4, pos := "law.go:84", after := #[{ on := 23, ground := Ground.data }, { on := 24, ground := Ground.data }, { on := 17, ground := Ground.chain }, { on := 17, ground := Ground.guard }], guard := some (17, true) }) (v := undef) rfl (by kernel_rfl) (by kernel_rfl) (by kernel_rfl) (fun _ _ _ h => h) (Or.inr ⟨by rfl, rfl⟩) (by assumption) ?_
        try simp only [Act.put, List.setIfInBounds_toArray, List.set_cons_zero, List.set_cons_succ]
        refine wpAnyH_take (i := 26) (oi := { dst := some 77, op := Op.unOp UnOp.not 4 (Operand.tmp 76), type := 4, pos := "law.go:84", after := #[{ on := 25, ground := Ground.data }, { on := 17, ground := Ground.guard }], guard := some (17, true) }) (v := undef) rfl (by kernel_rfl) (by kernel_rfl) (by kernel_rfl) (fun _ _ _ h => h) (Or.inr ⟨by rfl, rfl⟩) (by assumption) ?_
        try simp only [Act.put, List.setIfInBounds_toArray, List.set_cons_zero, List.set_cons_succ]
        refine wpAnyH_take (i := 27) (oi := { dst := some 78, op := Op.pick (Operand.tmp 68) (Operand.tmp 77) (Operand.const (Value.bool false)), type := 4, pos := "law.go:84", after := #[{ on := 17, ground := Ground.data }, { on := 26, ground := Ground.data }, { on := 13, ground := Ground.guard }], guard := some (13, false) }) (v := ?v27) rfl (by kernel_rfl) (by kernel_rfl) (by kernel_rfl) (fun _ _ _ h => h) (Or.inl ⟨by rfl, ?hy27⟩) (by assumption) ?rest27
        case hy27 => intro w hSw; (try dsimp only at hSw); go_simp <;> with_reducible rfl
        try simp only [Act.put, List.setIfInBounds_toArray, List.set_cons_zero, List.set_cons_succ]
        refine wpAnyH_take (i := 28) (oi := { dst := some 79, op := Op.pick (Operand.tmp 64) (Operand.const (Value.bool true)) (Operand.tmp 78), type := 4, pos := "law.go:84", after := #[{ on := 13, ground := Ground.data }, { on := 27, ground := Ground.data }], guard := none }) (v := ?v28) rfl (by kernel_rfl) (by kernel_rfl) (by kernel_rfl) (fun _ _ _ h => h) (Or.inl ⟨by rfl, ?hy28⟩) (by assumption) ?rest28
        case hy28 => intro w hSw; (try dsimp only at hSw); go_simp <;> with_reducible rfl
        try simp only [Act.put, List.setIfInBounds_toArray, List.set_cons_zero, List.set_cons_succ]
        refine wpAnyH_done (by kernel_rfl) ?_ _
        have hcl2 := Lib.hid (cln_trans hcl.out hHeld.2.2.2.2.out)
        clear hHeld g0 g1 k0 f1 hcall
        go_wp2_with fail
        go_roundw
        case rel => exact ⟨i + 1, hlt, by go_num, hcl2⟩
        case measure => simp [intOf]; omega
      · have t5 : decide ((i : Int) < (m : Int)) = false := decide_eq_false (by omega)
        have t6 : decide ((m : Int) ≤ (i : Int)) = true := decide_eq_true (by omega)
        have t7 : decide (m ≤ i) = true := decide_eq_true (by omega)
        have t8 : decide (i < m) = false := decide_eq_false (by omega)
        have hnn' := hnn.out
        obtain ⟨j, hj0⟩ : ∃ j : Nat, Hid (j = i - m) := ⟨_, rfl⟩
        have hj1 : j < n2 := by have := hj0.out; omega
        have hj2 : (i : Int) - (m : Int) = (j : Int) := by have := hj0.out; omega
        have hj4 : j ≤ 40 := by omega
        have hn2 : n2 ≤ 40 := by omega
        have hjw : IntKind.i64.wrap (j : Int) = (j : Int) := by rw [IntKind.wrap]; simp [IntKind.bits, IntKind.signed, IntKind.min, IntKind.max]; omega
        replace hnn' := Lib.hid hnn'
        obtain ⟨b1, o1, rfl, hbl1, hcell1⟩ := hrb.out.rows (by omega)
        obtain ⟨Aj, nj, cj, hc1⟩ := hcell1 j (by omega)
        clear hcell1
        rw [show dealAt (l.drop m) j = dealAt l i by rw [hj0.out]; exact dealAt_dropN l m i (by omega)] at hc1
        have hd1 := hc1.cln (cln_trans hcl.out (show Cln wr (wr.alloc (.cells #[.slice Ai ni ci] 48)) from by (repeat (first | (with_reducible exact Below.refl _ _) | (with_reducible assumption) | (with_reducible refine Below.setCell ?_ (by first | omega | (simp; done) | (simp; omega)) _) | (with_reducible refine Below.alloc ?_ (by first | omega | (simp; done) | (simp; omega)) _) | (with_reducible refine Below.drew ?_) | (with_reducible refine below_drewN ?_ _)))))
        have f1 := hd1.c0
        have hblt1 : b1 < wr.heap.size := by have := hcl.out.size; omega
        have g0 := (hb6.out.alloc (.cells #[.slice Ai ni ci] 48)).cell 0; have g1 := (hb6.out.alloc (.cells #[.slice Ai ni ci] 48)).cell 1
        have k0 := (Blk.new wr 48 #[.slice Ai ni ci]).cell 0
        have hnj : Hid (nj ≤ 140737488355328) := by have h1 := hmod.out.deals _ hx.out; have h2 := hd1.it.len; unfold Hid; omega
        have hwa : Hid (Cln wr (wr.alloc (.cells #[.slice Ai ni ci] 48))) := by unfold Hid; (repeat (first | (with_reducible exact Below.refl _ _) | (with_reducible assumption) | (with_reducible refine Below.setCell ?_ (by first | omega | (simp; done) | (simp; omega)) _) | (with_reducible refine Below.alloc ?_ (by first | omega | (simp; done) | (simp; omega)) _) | (with_reducible refine Below.drew ?_) | (with_reducible refine below_drewN ?_ _)))
        have hj : Hid (RdActs wr Aj nj (dealAt l i)) := (hc1.cln hcl.out).it
        clear hd1 hc1
        have hcall : ∀ W : World, (W.cell? ⟨w3.heap.size, 0, none⟩ = some (.int .i64 num) ∧ W.cell? ⟨w3.heap.size, 1, none⟩ = some (.slice A1 m c1) ∧ W.cell? ⟨wr.heap.size, 0, none⟩ = some (.slice Ai ni ci) ∧ W.cell? ⟨b1, o1 + j, none⟩ = some (.slice Aj nj cj) ∧ Hid (Cln wr W)) → Calls Tryz.prog 25 #[.agg #[.slice Aj nj cj], .agg #[.slice Ai ni ci]] W fun e w' => e = .returned (.bool true) ∧ Cln W w' := fun W h => by
          have h5 := h.2.2.2.2.out
          have hW : RdActs W Aj nj (dealAt l i) := hj.out.cln h5
          have := rdsame_any (dealAt l i) (dealAt l i) Aj Ai nj cj ni ci (hmod.out.items _ hx.out) (hmod.out.items _ hx.out) hnj.out W hW (hit.out.cln h5)
          rw [sameActs_refl] at this
          exact this
        go_wp2_with fail
        refine wp_region_held_drew (S := fun W => W.cell? ⟨w3.heap.size, 0, none⟩ = some (.int .i64 num) ∧ W.cell? ⟨w3.heap.size, 1, none⟩ = some (.slice A1 m c1) ∧ W.cell? ⟨wr.heap.size, 0, none⟩ = some (.slice Ai ni ci) ∧ W.cell? ⟨b1, o1 + j, none⟩ = some (.slice Aj nj cj) ∧ Hid (Cln wr W)) (by kernel_rfl) ?hSb (fun hHeld => ?_)
        case hSb => (try dsimp only); exact ⟨g0, g1, k0, f1, Lib.hid (cln_trans hwa.out (Below.drew (Below.refl _ _)))⟩
        refine wpAnyH_take (i := 0) (oi := { dst := some 51, op := Op.move (Operand.tmp 8), type := 3, pos := "law.go:84", after := #[], guard := none }) (v := ?vb0) rfl (by kernel_rfl) (by kernel_rfl) (by kernel_rfl) (fun _ _ _ h => h) (Or.inl ⟨by rfl, ?hyb0⟩) (by assumption) ?restb0
        case hyb0 => intro w hSw; (try dsimp only at hSw); go_simp <;> with_reducible rfl
        try simp only [Act.put, List.setIfInBounds_toArray, List.set_cons_zero, List.set_cons_succ]
        refine wpAnyH_take (i := 1) (oi := { dst := some 52, op := Op.move (Operand.tmp 7), type := 3, pos := "law.go:84", after := #[], guard := none }) (v := ?vb1) rfl (by kernel_rfl) (by kernel_rfl) (by kernel_rfl) (fun _ _ _ h => h) (Or.inl ⟨by rfl, ?hyb1⟩) (by assumption) ?restb1
        case hyb1 => intro w hSw; (try dsimp only at hSw); go_simp <;> with_reducible rfl
        try simp only [Act.put, List.setIfInBounds_toArray, List.set_cons_zero, List.set_cons_succ]
        refine wpAnyH_take (i := 2) (oi := { dst := some 53, op := Op.binOp BinOp.lss 3 (Operand.tmp 51) (Operand.tmp 52) 3, type := 4, pos := "law.go:84", after := #[{ on := 0, ground := Ground.data }, { on := 1, ground := Ground.data }], guard := none }) (v := ?vb2) rfl (by kernel_rfl) (by kernel_rfl) (by kernel_rfl) (fun _ _ _ h => h) (Or.inl ⟨by rfl, ?hyb2⟩) (by assumption) ?restb2
        case hyb2 => intro w hSw; (try dsimp only at hSw); go_simp <;> with_reducible rfl
        try simp only [Act.put, List.setIfInBounds_toArray, List.set_cons_zero, List.set_cons_succ]
        refine wpAnyH_take (i := 3) (oi := { dst := some 54, op := Op.move (Operand.tmp 53), type := 4, pos := "law.go:84", after := #[{ on := 2, ground := Ground.data }], guard := none }) (v := ?vb3) rfl (by kernel_rfl) (by kernel_rfl) (by kernel_rfl) (fun _ _ _ h => h) (Or.inl ⟨by rfl, ?hyb3⟩) (by assumption) ?restb3
        case hyb3 => intro w hSw; (try dsimp only at hSw); go_simp <;> with_reducible rfl
        try simp only [Act.put, List.setIfInBounds_toArray, List.set_cons_zero, List.set_cons_succ]
        refine wpAnyH_take (i := 4) (oi := { dst := some 55, op := Op.fieldAddr 24 (Operand.tmp 5) 1, type := 0, pos := "law.go:84", after := #[{ on := 3, ground := Ground.guard }], guard := some (3, true) }) (v := undef) rfl (by kernel_rfl) (by kernel_rfl) (by kernel_rfl) (fun _ _ _ h => h) (Or.inr ⟨by rfl, rfl⟩) (by assumption) ?_
        try simp only [Act.put, List.setIfInBounds_toArray, List.set_cons_zero, List.set_cons_succ]
        refine wpAnyH_take (i := 5) (oi := { dst := some 56, op := Op.load 22 (Operand.tmp 55), type := 22, pos := "law.go:84", after := #[{ on := 4, ground := Ground.data }, { on := 3, ground := Ground.guard }], guard := some (3, true) }) (v := undef) rfl (by kernel_rfl) (by kernel_rfl) (by kernel_rfl) (fun _ _ _ h => h) (Or.inr ⟨by rfl, rfl⟩) (by assumption) ?_
        try simp only [Act.put, List.setIfInBounds_toArray, List.set_cons_zero, List.set_cons_succ]
        refine wpAnyH_take (i := 6) (oi := { dst := some 57, op := Op.move (Operand.tmp 8), type := 3, pos := "law.go:84", after := #[{ on := 3, ground := Ground.guard }], guard := some (3, true) }) (v := undef) rfl (by kernel_rfl) (by kernel_rfl) (by kernel_rfl) (fun _ _ _ h => h) (Or.inr ⟨by rfl, rfl⟩) (by assumption) ?_
        try simp only [Act.put, List.setIfInBounds_toArray, List.set_cons_zero, List.set_cons_succ]
        refine wpAnyH_take (i := 7) (oi := { dst := some 58, op := Op.indexAddr 22 (Operand.tmp 56) (Operand.tmp 57), type := 0, pos := "law.go:84", after := #[{ on := 5, ground := Ground.data }, { on := 6, ground := Ground.data }, { on := 3, ground := Ground.guard }], guard := some (3, true) }) (v := undef) rfl (by kernel_rfl) (by kernel_rfl) (by kernel_rfl) (fun _ _ _ h => h) (Or.inr ⟨by rfl, rfl⟩) (by assumption) ?_
        try simp only [Act.put, List.setIfInBounds_toArray, List.set_cons_zero, List.set_cons_succ]
        refine wpAnyH_take (i := 8) (oi := { dst := some 59, op := Op.load 48 (Operand.tmp 58), type := 48, pos := "law.go:84", after := #[{ on := 7, ground := Ground.data }, { on := 3, ground := Ground.guard }], guard := some (3, true) }) (v := undef) rfl (by kernel_rfl) (by kernel_rfl) (by kernel_rfl) (fun _ _ _ h => h) (Or.inr ⟨by rfl, rfl⟩) (by assumption) ?_
        try simp only [Act.put, List.setIfInBounds_toArray, List.set_cons_zero, List.set_cons_succ]
        refine wpAnyH_take (i := 9) (oi := { dst := some 60, op := Op.load 48 (Operand.tmp 9), type := 48, pos := "law.go:84", after := #[{ on := 3, ground := Ground.guard }], guard := some (3, true) }) (v := undef) rfl (by kernel_rfl) (by kernel_rfl) (by kernel_rfl) (fun _ _ _ h => h) (Or.inr ⟨by rfl, rfl⟩) (by assumption) ?_
        try simp only [Act.put, List.setIfInBounds_toArray, List.set_cons_zero, List.set_cons_succ]
        refine wpAnyH_take (i := 10) (oi := { dst := some 61, op := Op.call { callee := Callee.value (Operand.func 25), args := #[Operand.tmp 59, Operand.tmp 60], argTypes := #[48, 48] }, type := 4, pos := "law.go:84", after := #[{ on := 8, ground := Ground.data }, { on := 9, ground := Ground.data }, { on := 3, ground := Ground.chain }, { on := 3, ground := Ground.guard }], guard := some (3, true) }) (v := undef) rfl (by kernel_rfl) (by kernel_rfl) (by kernel_rfl) (fun _ _ _ h => h) (Or.inr ⟨by rfl, rfl⟩) (by assumption) ?_
        try simp only [Act.put, List.setIfInBounds_toArray, List.set_cons_zero, List.set_cons_succ]
        refine wpAnyH_take (i := 11) (oi := { dst := some 62, op := Op.unOp UnOp.not 4 (Operand.tmp 61), type := 4, pos := "law.go:84", after := #[{ on := 10, ground := Ground.data }, { on := 3, ground := Ground.guard }], guard := some (3, true) }) (v := undef) rfl (by kernel_rfl) (by kernel_rfl) (by kernel_rfl) (fun _ _ _ h => h) (Or.inr ⟨by rfl, rfl⟩) (by assumption) ?_
        try simp only [Act.put, List.setIfInBounds_toArray, List.set_cons_zero, List.set_cons_succ]
        refine wpAnyH_take (i := 12) (oi := { dst := some 63, op := Op.pick (Operand.tmp 54) (Operand.tmp 62) (Operand.const (Value.bool false)), type := 4, pos := "law.go:84", after := #[{ on := 3, ground := Ground.data }, { on := 11, ground := Ground.data }], guard := none }) (v := ?vb12) rfl (by kernel_rfl) (by kernel_rfl) (by kernel_rfl) (fun _ _ _ h => h) (Or.inl ⟨by rfl, ?hyb12⟩) (by assumption) ?restb12
        case hyb12 => intro w hSw; (try dsimp only at hSw); go_simp <;> with_reducible rfl
        try simp only [Act.put, List.setIfInBounds_toArray, List.set_cons_zero, List.set_cons_succ]
        refine wpAnyH_take (i := 13) (oi := { dst := some 64, op := Op.move (Operand.tmp 63), type := 4, pos := "law.go:84", after := #[{ on := 12, ground := Ground.data }, { on := 10, ground := Ground.chain }], guard := none }) (v := ?vb13) rfl (by kernel_rfl) (by kernel_rfl) (by kernel_rfl) (fun _ _ _ h => h) (Or.inl ⟨by rfl, ?hyb13⟩) (by assumption) ?restb13
        case hyb13 => intro w hSw; (try dsimp only at hSw); go_simp <;> with_reducible rfl
        try simp only [Act.put, List.setIfInBounds_toArray, List.set_cons_zero, List.set_cons_succ]
        refine wpAnyH_take (i := 14) (oi := { dst := some 65, op := Op.move (Operand.tmp 8), type := 3, pos := "law.go:84", after := #[{ on := 13, ground := Ground.guard }], guard := some (13, false) }) (v := ?vb14) rfl (by kernel_rfl) (by kernel_rfl) (by kernel_rfl) (fun _ _ _ h => h) (Or.inl ⟨by rfl, ?hyb14⟩) (by assumption) ?restb14
        case hyb14 => intro w hSw; (try dsimp only at hSw); go_simp <;> with_reducible rfl
        try simp only [Act.put, List.setIfInBounds_toArray, List.set_cons_zero, List.set_cons_succ]
        refine wpAnyH_take (i := 15) (oi := { dst := some 66, op := Op.move (Operand.tmp 7), type := 3, pos := "law.go:84", after := #[{ on := 13, ground := Ground.guard }], guard := some (13, false) }) (v := ?vb15) rfl (by kernel_rfl) (by kernel_rfl) (by kernel_rfl) (fun _ _ _ h => h) (Or.inl ⟨by rfl, ?hyb15⟩) (by assumption) ?restb15
        case hyb15 => intro w hSw; (try dsimp only at hSw); go_simp <;> with_reducible rfl
        try simp only [Act.put, List.setIfInBounds_toArray, List.set_cons_zero, List.set_cons_succ]
        refine wpAnyH_take (i := 16) (oi := { dst := some 67, op := Op.binOp BinOp.geq 3 (Operand.tmp 65) (Operand.tmp 66) 3, type := 4, pos := "law.go:84", after := #[{ on := 14, ground := Ground.data }, { on := 15, ground := Ground.data }, { on := 13, ground := Ground.guard }], guard := some (13, false) }) (v := ?vb16) rfl (by kernel_rfl) (by kernel_rfl) (by kernel_rfl) (fun _ _ _ h => h) (Or.inl ⟨by rfl, ?hyb16⟩) (by assumption) ?restb16
        case hyb16 => intro w hSw; (try dsimp only at hSw); go_simp <;> with_reducible rfl
        try simp only [Act.put, List.setIfInBounds_toArray, List.set_cons_zero, List.set_cons_succ]
        refine wpAnyH_take (i := 17) (oi := { dst := some 68, op := Op.move (Operand.tmp 67), type := 4, pos := "law.go:84", after := #[{ on := 16, ground := Ground.data }, { on := 13, ground := Ground.chain }, { on := 13, ground := Ground.guard }], guard := some (13, false) }) (v := ?vb17) rfl (by kernel_rfl) (by kernel_rfl) (by kernel_rfl) (fun _ _ _ h => h) (Or.inl ⟨by rfl, ?hyb17⟩) (by assumption) ?restb17
        case hyb17 => intro w hSw; (try dsimp only at hSw); go_simp <;> with_reducible rfl
        try simp only [Act.put, List.setIfInBounds_toArray, List.set_cons_zero, List.set_cons_succ]
        refine wpAnyH_take (i := 18) (oi := { dst := some 69, op := Op.move (Operand.tmp 6), type := 22, pos := "law.go:84", after := #[{ on := 17, ground := Ground.guard }], guard := some (17, true) }) (v := ?vb18) rfl (by kernel_rfl) (by kernel_rfl) (by kernel_rfl) (fun _ _ _ h => h) (Or.inl ⟨by rfl, ?hyb18⟩) (by assumption) ?restb18
        case hyb18 => intro w hSw; (try dsimp only at hSw); go_simp <;> with_reducible rfl
        try simp only [Act.put, List.setIfInBounds_toArray, List.set_cons_zero, List.set_cons_succ]
        refine wpAnyH_take (i := 19) (oi := { dst := some 70, op := Op.move (Operand.tmp 8), type := 3, pos := "law.go:84", after := #[{ on := 17, ground := Ground.guard }], guard := some (17, true) }) (v := ?vb19) rfl (by kernel_rfl) (by kernel_rfl) (by kernel_rfl) (fun _ _ _ h => h) (Or.inl ⟨by rfl, ?hyb19⟩) (by assumption) ?restb19
        case hyb19 => intro w hSw; (try dsimp only at hSw); go_simp <;> with_reducible rfl
        try simp only [Act.put, List.setIfInBounds_toArray, List.set_cons_zero, List.set_cons_succ]
        refine wpAnyH_take (i := 20) (oi := { dst := some 71, op := Op.move (Operand.tmp 7), type := 3, pos := "law.go:84", after := #[{ on := 17, ground := Ground.guard }], guard := some (17, true) }) (v := ?vb20) rfl (by kernel_rfl) (by kernel_rfl) (by kernel_rfl) (fun _ _ _ h => h) (Or.inl ⟨by rfl, ?hyb20⟩) (by assumption) ?restb20
        case hyb20 => intro w hSw; (try dsimp only at hSw); go_simp <;> with_reducible rfl
        try simp only [Act.put, List.setIfInBounds_toArray, List.set_cons_zero, List.set_cons_succ]
        refine wpAnyH_take (i := 21) (oi := { dst := some 72, op := Op.binOp BinOp.sub 3 (Operand.tmp 70) (Operand.tmp 71) 3, type := 3, pos := "law.go:84", after := #[{ on := 19, ground := Ground.data }, { on := 20, ground := Ground.data }, { on := 17, ground := Ground.guard }], guard := some (17, true) }) (v := ?vb21) rfl (by kernel_rfl) (by kernel_rfl) (by kernel_rfl) (fun _ _ _ h => h) (Or.inl ⟨by rfl, ?hyb21⟩) (by assumption) ?restb21
        case hyb21 => intro w hSw; (try dsimp only at hSw); go_simp <;> with_reducible rfl
        try simp only [Act.put, List.setIfInBounds_toArray, List.set_cons_zero, List.set_cons_succ]
        refine wpAnyH_take (i := 22) (oi := { dst := some 73, op := Op.indexAddr 22 (Operand.tmp 69) (Operand.tmp 72), type := 0, pos := "law.go:84", after := #[{ on := 18, ground := Ground.data }, { on := 21, ground := Ground.data }, { on := 17, ground := Ground.guard }], guard := some (17, true) }) (v := ?vb22) rfl (by kernel_rfl) (by kernel_rfl) (by kernel_rfl) (fun _ _ _ h => h) (Or.inl ⟨by rfl, ?hyb22⟩) (by assumption) ?restb22
        case hyb22 => intro w hSw; (try dsimp only at hSw); go_simp <;> with_reducible rfl
        try simp only [Act.put, List.setIfInBounds_toArray, List.set_cons_zero, List.set_cons_succ]
        refine wpAnyH_take (i := 23) (oi := { dst := some 74, op := Op.load 48 (Operand.tmp 73), type := 48, pos := "law.go:84", after := #[{ on := 22, ground := Ground.data }, { on := 17, ground := Ground.guard }], guard := some (17, true) }) (v := ?vb23) rfl (by kernel_rfl) (by kernel_rfl) (by kernel_rfl) (fun _ _ _ h => h) (Or.inl ⟨by rfl, ?hyb23⟩) (by assumption) ?restb23
        case hyb23 => intro w hSw; (try dsimp only at hSw); go_simp <;> with_reducible rfl
        try simp only [Act.put, List.setIfInBounds_toArray, List.set_cons_zero, List.set_cons_succ]
        refine wpAnyH_take (i := 24) (oi := { dst := some 75, op := Op.load 48 (Operand.tmp 9), type := 48, pos := "law.go:84", after := #[{ on := 17, ground := Ground.guard }], guard := some (17, true) }) (v := ?vb24) rfl (by kernel_rfl) (by kernel_rfl) (by kernel_rfl) (fun _ _ _ h => h) (Or.inl ⟨by rfl, ?hyb24⟩) (by assumption) ?restb24
        case hyb24 => intro w hSw; (try dsimp only at hSw); go_simp <;> with_reducible rfl
        try simp only [Act.put, List.setIfInBounds_toArray, List.set_cons_zero, List.set_cons_succ]
        refine wpAnyH_ready (rs := [25]) (by kernel_rfl) (by simp) ?_
        refine AllReadyH.cons (o := { dst := some 76, op := Op.call { callee := Callee.value (Operand.func 25), args := #[Operand.tmp 74, Operand.tmp 75], argTypes := #[48, 48] }, type := 4, pos := "law.go:84", after := #[{ on := 23, ground := Ground.data }, { on := 24, ground := Ground.data }, { on := 17, ground := Ground.chain }, { on := 17, ground := Ground.guard }], guard := some (17, true) }) rfl (fun K hK => ?_) AllReadyH.nil
        go_simp
        go_at_call 25; with_reducible refine (hcall _ (by assumption)).mono ?_; rintro e w' ⟨rfl, hq⟩
        (try go_wp2_with fail)
        refine hK.out _ _ ?_ (fun hHeld => ?_)
        · exact heldKeep4c hq (by assumption)
        clear hK K
        try simp only [Act.put, List.setIfInBounds_toArray, List.set_cons_zero, List.set_cons_succ]
        refine wpAnyH_take (i := 26) (oi := { dst := some 77, op := Op.unOp UnOp.not 4 (Operand.tmp 76), type := 4, pos := "law.go:84", after := #[{ on := 25, ground := Ground.data }, { on := 17, ground := Ground.guard }], guard := some (17, true) }) (v := ?vb26) rfl (by kernel_rfl) (by kernel_rfl) (by kernel_rfl) (fun _ _ _ h => h) (Or.inl ⟨by rfl, ?hyb26⟩) (by assumption) ?restb26
        case hyb26 => intro w hSw; (try dsimp only at hSw); go_simp <;> with_reducible rfl
        try simp only [Act.put, List.setIfInBounds_toArray, List.set_cons_zero, List.set_cons_succ]
        refine wpAnyH_take (i := 27) (oi := { dst := some 78, op := Op.pick (Operand.tmp 68) (Operand.tmp 77) (Operand.const (Value.bool false)), type := 4, pos := "law.go:84", after := #[{ on := 17, ground := Ground.data }, { on := 26, ground := Ground.data }, { on := 13, ground := Ground.guard }], guard := some (13, false) }) (v := ?vb27) rfl (by kernel_rfl) (by kernel_rfl) (by kernel_rfl) (fun _ _ _ h => h) (Or.inl ⟨by rfl, ?hyb27⟩) (by assumption) ?restb27
        case hyb27 => intro w hSw; (try dsimp only at hSw); go_simp <;> with_reducible rfl
        try simp only [Act.put, List.setIfInBounds_toArray, List.set_cons_zero, List.set_cons_succ]
        refine wpAnyH_take (i := 28) (oi := { dst := some 79, op := Op.pick (Operand.tmp 64) (Operand.const (Value.bool true)) (Operand.tmp 78), type := 4, pos := "law.go:84", after := #[{ on := 13, ground := Ground.data }, { on := 27, ground := Ground.data }], guard := none }) (v := ?vb28) rfl (by kernel_rfl) (by kernel_rfl) (by kernel_rfl) (fun _ _ _ h => h) (Or.inl ⟨by rfl, ?hyb28⟩) (by assumption) ?restb28
        case hyb28 => intro w hSw; (try dsimp only at hSw); go_simp <;> with_reducible rfl
        try simp only [Act.put, List.setIfInBounds_toArray, List.set_cons_zero, List.set_cons_succ]
        refine wpAnyH_done (by kernel_rfl) ?_ _
        have hcl2 := Lib.hid (cln_trans hcl.out hHeld.2.2.2.2.out)
        clear hHeld g0 g1 k0 f1 hcall
        go_wp2_with fail
        go_roundw
        case rel => exact ⟨i + 1, hlt, by go_num, hcl2⟩
        case measure => simp [intOf]; omega
    · obtain rfl : i = n := by omega
      have t4 : decide ((i : Int) < (i : Int)) = false := decide_eq_false (by omega)
      go_wp2_with fail
      go_ret
      exact ⟨rfl, cln_trans hcl5.out hcl.out⟩
end Go.Proofs.YtoeoodiifpoomaaGreatDoor
