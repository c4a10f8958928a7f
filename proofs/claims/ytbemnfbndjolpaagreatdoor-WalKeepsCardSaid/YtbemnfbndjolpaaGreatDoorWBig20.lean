/- Rows of lots and of rows of deals that are read; the walks of moietylaw20.same and big. (Printed by wip/tools/gen_wbig.py.) -/
import Derived.Test.YtbemnfbndjolpaaGreatDoorWals
import Derived.Test.YtbemnfbndjolpaaGreatDoorWLot2
import Derived.Test.YtbemnfbndjolpaaGreatDoorDisks
set_option linter.unusedSimpArgs false
set_option linter.unusedVariables false
set_option maxRecDepth 20000
namespace Go.Proofs.YtbemnfbndjolpaaGreatDoor
open Go.RowKit Moi
structure RdLs (W : World) (A : Option Addr) (n : Nat) (l : List MLot) : Prop where
 len : l.length = n
 at_ : ∀ (i : Nat) (x : MLot), l[i]? = some x → ∃ g D k c, A = some ⟨g, 0, none⟩ ∧ W.cell? ⟨g, i * 2, none⟩ = some (.int .i64 x.num) ∧ W.cell? ⟨g, i * 2 + 1, none⟩ = some (.slice D k c) ∧ RdDeals W D k x.deals
theorem RdLs.cln {W W' : World} {A : Option Addr} {n : Nat} {l : List MLot} (h : RdLs W A n l) (k : Cln W W') : RdLs W' A n l :=
 ⟨h.len, fun i x hx => by
  obtain ⟨g, D, kk, c, hA, c0, c1, hr⟩ := h.at_ i x hx
  have K := Kept.of_below (S := fun _ => False) k
  exact ⟨g, D, kk, c, hA, K.cell c0 id, K.cell c1 id, hr.cln k⟩⟩
theorem rdls_own {W : World} {base n c : Nat} {A : Option Addr} {q : List LQ} (h : W.ownsRow base 38 2 (.slice A n c) n (q.flatMap LQ.vals)) (hr : ∀ x ∈ q, RdDeals W x.A x.n x.x.deals) : RdLs W A n (q.map LQ.x) := by
 have hl : q.length = n := by have := h.1; rw [lqVals_length] at this; omega
 refine ⟨by rw [List.length_map]; exact hl, fun i x hx => ?_⟩
 obtain ⟨y, hy, rfl⟩ : ∃ y, q[i]? = some y ∧ y.x = x := by
  rw [List.getElem?_map] at hx
  exact Option.map_eq_some_iff.1 hx
 rcases h.2 with ⟨_, h0⟩ | ⟨g, cap, cur, hv, _, hg, _⟩
 ·have := (List.getElem?_eq_some_iff.1 hy).1; omega
 ·injection hv with h1 h2 h3
  subst h1
  have hv := lqVals_get q i _ hy
  have e : ∀ j, (⟨g, 0, none⟩ : Addr).add j = ⟨g, j, none⟩ := fun j => by unfold Addr.add; split <;> simp_all
  have c0 := h.cells (g := g) rfl _ _ hv.1
  have c1 := h.cells (g := g) rfl _ _ hv.2
  rw [e] at c0 c1
  exact ⟨g, y.A, y.n, y.c, rfl, c0, c1, hr y (List.mem_of_getElem? hy)⟩
theorem OwnLots.rdls {W : World} {base n c : Nat} {A : Option Addr} {q : List LQ} (h : OwnLots W base (.slice A n c) n q) : RdLs W A n (q.map LQ.x) := rdls_own h.own (fun x hx => (h.it x hx).here)
theorem wrap_succ47 (k n : Nat) (h : k < n) (hn : n ≤ 140737488355328) : wrap64 ((k : Int) + 1) = (k : Int) + 1 := by unfold wrap64; omega
set_option maxHeartbeats 4000000 in
theorem same20_any (la lb : List MLot) (A B : Option Addr) (n ca cb : Nat) (w : World) (ha : RdLs w A n la) (hb : RdLs w B n lb) (hn : n ≤ 140737488355328)
  (hs : ∀ (i : Nat) (x y : MLot), la[i]? = some x → lb[i]? = some y → sameLot x y = true ∧ Mod x.deals ∧ Mod y.deals ∧ x.deals.length ≤ 140737488355328) :
  Calls Tryz.prog 24 #[.slice A n ca, .slice B n cb] w fun e w' => e = .returned (.bool true) ∧ Cln w w' := by
 have haH := Lib.hid ha; have hbH := Lib.hid hb; have hsH := Lib.hid hs
 have hc0 : Hid (Cln w w) := Below.refl _ _
 replace hn := Lib.hid hn
 clear ha hb hs
 go_enter Tryz.func24, Tryz.ntmps24
 go_wp2_with fail
 go_loopw [8] (fun v wr => ∃ i : Nat, i ≤ n ∧ v = .int .i64 (i : Nat) ∧ Hid (Cln w wr)) (fun v _ => (n - intOf v).toNat)
 case atStart => exact ⟨0, Nat.zero_le _, rfl, hc0⟩
 case round =>
  clear hc0
  obtain ⟨i, hi, rfl, hcl⟩ := hrel
  by_cases hin : i < n
  ·have t1 : decide ((i : Int) < (n : Int)) = true := decide_eq_true (by omega)
   have t2 : decide ((n : Int) ≤ (i : Int)) = false := decide_eq_false (by omega)
   have t2' : decide (n ≤ i) = false := decide_eq_false (by omega)
   have ig1 : (0 : Int) ≤ (i : Int) := by omega
   have ig2 : (i : Int) < (n : Int) := by omega
   obtain ⟨x, hx⟩ : ∃ x, la[i]? = some x := ⟨_, List.getElem?_eq_getElem (by rw [haH.out.len]; exact hin)⟩
   obtain ⟨y, hy⟩ : ∃ y, lb[i]? = some y := ⟨_, List.getElem?_eq_getElem (by rw [hbH.out.len]; exact hin)⟩
   obtain ⟨g, D, k, c, rfl, ga0, ga1, hra⟩ := (haH.out.cln hcl.out).at_ i x hx
   obtain ⟨h, E, m, d, rfl, gb0, gb1, hrb⟩ := (hbH.out.cln hcl.out).at_ i y hy
   obtain ⟨hse, hmx, hmy, hl⟩ := hsH.out i x y hx hy
   have cS : ∀ W, Cln wr W → Calls Tryz.prog 25 #[.agg #[.int .i64 x.num, .slice D k c], .agg #[.int .i64 y.num, .slice E m d]] W fun e w' => e = .returned (.bool true) ∧ Cln W w' := fun W kk => by
    have hh := rlsame_any x y D E k c m d hmx hmy (by rw [← hra.len]; exact hl) W (hra.cln kk) (hrb.cln kk)
    rw [hse] at hh
    exact hh
   have hg := Lib.hid (And.intro ga0 (And.intro ga1 (And.intro gb0 gb1)))
   have hin' := Lib.hid hin
   clear ga0 ga1 gb0 gb1 hra hrb hx hy hse hmx hmy hl
   go_wp2_with fail
   refine wp_region_held_drew (S := fun W' => W'.cell? ⟨g, i * 2, none⟩ = some (.int .i64 x.num) ∧ W'.cell? ⟨g, i * 2 + 1, none⟩ = some (.slice D k c) ∧ W'.cell? ⟨h, i * 2, none⟩ = some (.int .i64 y.num) ∧ W'.cell? ⟨h, i * 2 + 1, none⟩ = some (.slice E m d)) (by kernel_rfl) ?hSq (fun hHeld => ?_)
   case hSq => exact ⟨(World.cell?_drew _ _).trans hg.out.1, (World.cell?_drew _ _).trans hg.out.2.1, (World.cell?_drew _ _).trans hg.out.2.2.1, (World.cell?_drew _ _).trans hg.out.2.2.2⟩
   refine wpAnyH_take (i := 0) (oi := { dst := some 11, op := Op.move (Operand.tmp 5), type := 3, pos := "law.go:48", after := #[], guard := none }) (v := ?v1) rfl (by kernel_rfl) (by kernel_rfl) (by kernel_rfl) (fun _ _ _ h => h) (Or.inl ⟨by rfl, ?hy1⟩) (by assumption) ?rest1
   case hy1 => intro w hSw; (try dsimp only at hSw); go_simp <;> with_reducible rfl
   try simp only [Act.put, List.setIfInBounds_toArray, List.set_cons_zero, List.set_cons_succ]
   refine wpAnyH_take (i := 1) (oi := { dst := some 12, op := Op.move (Operand.tmp 1), type := 42, pos := "law.go:48", after := #[], guard := none }) (v := ?v2) rfl (by kernel_rfl) (by kernel_rfl) (by kernel_rfl) (fun _ _ _ h => h) (Or.inl ⟨by rfl, ?hy2⟩) (by assumption) ?rest2
   case hy2 => intro w hSw; (try dsimp only at hSw); go_simp <;> with_reducible rfl
   try simp only [Act.put, List.setIfInBounds_toArray, List.set_cons_zero, List.set_cons_succ]
   refine wpAnyH_take (i := 2) (oi := { dst := some 13, op := Op.call { callee := Callee.builtin Builtin.len, args := #[Operand.tmp 12], argTypes := #[42] }, type := 3, pos := "law.go:48", after := #[{ on := 1, ground := Ground.data }], guard := none }) (v := ?v3) rfl (by kernel_rfl) (by kernel_rfl) (by kernel_rfl) (fun _ _ _ h => h) (Or.inl ⟨by rfl, ?hy3⟩) (by assumption) ?rest3
   case hy3 => intro w hSw; (try dsimp only at hSw); go_simp <;> with_reducible rfl
   try simp only [Act.put, List.setIfInBounds_toArray, List.set_cons_zero, List.set_cons_succ]
   refine wpAnyH_take (i := 3) (oi := { dst := some 14, op := Op.binOp BinOp.geq 3 (Operand.tmp 11) (Operand.tmp 13) 3, type := 4, pos := "law.go:48", after := #[{ on := 0, ground := Ground.data }, { on := 2, ground := Ground.data }], guard := none }) (v := ?v4) rfl (by kernel_rfl) (by kernel_rfl) (by kernel_rfl) (fun _ _ _ h => h) (Or.inl ⟨by rfl, ?hy4⟩) (by assumption) ?rest4
   case hy4 => intro w hSw; (try dsimp only at hSw); go_simp <;> with_reducible rfl
   try simp only [Act.put, List.setIfInBounds_toArray, List.set_cons_zero, List.set_cons_succ]
   refine wpAnyH_take (i := 4) (oi := { dst := some 15, op := Op.move (Operand.tmp 14), type := 4, pos := "law.go:48", after := #[{ on := 3, ground := Ground.data }], guard := none }) (v := ?v5) rfl (by kernel_rfl) (by kernel_rfl) (by kernel_rfl) (fun _ _ _ h => h) (Or.inl ⟨by rfl, ?hy5⟩) (by assumption) ?rest5
   case hy5 => intro w hSw; (try dsimp only at hSw); go_simp <;> with_reducible rfl
   try simp only [Act.put, List.setIfInBounds_toArray, List.set_cons_zero, List.set_cons_succ]
   refine wpAnyH_take (i := 5) (oi := { dst := some 16, op := Op.move (Operand.tmp 0), type := 42, pos := "law.go:48", after := #[{ on := 4, ground := Ground.guard }], guard := some (4, false) }) (v := ?v6) rfl (by kernel_rfl) (by kernel_rfl) (by kernel_rfl) (fun _ _ _ h => h) (Or.inl ⟨by rfl, ?hy6⟩) (by assumption) ?rest6
   case hy6 => intro w hSw; (try dsimp only at hSw); go_simp <;> with_reducible rfl
   try simp only [Act.put, List.setIfInBounds_toArray, List.set_cons_zero, List.set_cons_succ]
   refine wpAnyH_take (i := 6) (oi := { dst := some 17, op := Op.move (Operand.tmp 5), type := 3, pos := "law.go:48", after := #[{ on := 4, ground := Ground.guard }], guard := some (4, false) }) (v := ?v7) rfl (by kernel_rfl) (by kernel_rfl) (by kernel_rfl) (fun _ _ _ h => h) (Or.inl ⟨by rfl, ?hy7⟩) (by assumption) ?rest7
   case hy7 => intro w hSw; (try dsimp only at hSw); go_simp <;> with_reducible rfl
   try simp only [Act.put, List.setIfInBounds_toArray, List.set_cons_zero, List.set_cons_succ]
   refine wpAnyH_take (i := 7) (oi := { dst := some 18, op := Op.indexAddr 42 (Operand.tmp 16) (Operand.tmp 17), type := 0, pos := "law.go:48", after := #[{ on := 5, ground := Ground.data }, { on := 6, ground := Ground.data }, { on := 4, ground := Ground.guard }], guard := some (4, false) }) (v := ?v8) rfl (by kernel_rfl) (by kernel_rfl) (by kernel_rfl) (fun _ _ _ h => h) (Or.inl ⟨by rfl, ?hy8⟩) (by assumption) ?rest8
   case hy8 => intro w hSw; (try dsimp only at hSw); go_simp <;> with_reducible rfl
   try simp only [Act.put, List.setIfInBounds_toArray, List.set_cons_zero, List.set_cons_succ]
   refine wpAnyH_take (i := 8) (oi := { dst := some 19, op := Op.load 38 (Operand.tmp 18), type := 38, pos := "law.go:48", after := #[{ on := 7, ground := Ground.data }, { on := 4, ground := Ground.guard }], guard := some (4, false) }) (v := ?v9) rfl (by kernel_rfl) (by kernel_rfl) (by kernel_rfl) (fun _ _ _ h => h) (Or.inl ⟨by rfl, ?hy9⟩) (by assumption) ?rest9
   case hy9 => intro w hSw; (try dsimp only at hSw); go_simp <;> with_reducible rfl
   try simp only [Act.put, List.setIfInBounds_toArray, List.set_cons_zero, List.set_cons_succ]
   refine wpAnyH_take (i := 9) (oi := { dst := some 20, op := Op.move (Operand.tmp 1), type := 42, pos := "law.go:48", after := #[{ on := 4, ground := Ground.guard }], guard := some (4, false) }) (v := ?v10) rfl (by kernel_rfl) (by kernel_rfl) (by kernel_rfl) (fun _ _ _ h => h) (Or.inl ⟨by rfl, ?hy10⟩) (by assumption) ?rest10
   case hy10 => intro w hSw; (try dsimp only at hSw); go_simp <;> with_reducible rfl
   try simp only [Act.put, List.setIfInBounds_toArray, List.set_cons_zero, List.set_cons_succ]
   refine wpAnyH_take (i := 10) (oi := { dst := some 21, op := Op.move (Operand.tmp 5), type := 3, pos := "law.go:48", after := #[{ on := 4, ground := Ground.guard }], guard := some (4, false) }) (v := ?v11) rfl (by kernel_rfl) (by kernel_rfl) (by kernel_rfl) (fun _ _ _ h => h) (Or.inl ⟨by rfl, ?hy11⟩) (by assumption) ?rest11
   case hy11 => intro w hSw; (try dsimp only at hSw); go_simp <;> with_reducible rfl
   try simp only [Act.put, List.setIfInBounds_toArray, List.set_cons_zero, List.set_cons_succ]
   refine wpAnyH_take (i := 11) (oi := { dst := some 22, op := Op.indexAddr 42 (Operand.tmp 20) (Operand.tmp 21), type := 0, pos := "law.go:48", after := #[{ on := 9, ground := Ground.data }, { on := 10, ground := Ground.data }, { on := 4, ground := Ground.guard }], guard := some (4, false) }) (v := ?v12) rfl (by kernel_rfl) (by kernel_rfl) (by kernel_rfl) (fun _ _ _ h => h) (Or.inl ⟨by rfl, ?hy12⟩) (by assumption) ?rest12
   case hy12 => intro w hSw; (try dsimp only at hSw); go_simp <;> with_reducible rfl
   try simp only [Act.put, List.setIfInBounds_toArray, List.set_cons_zero, List.set_cons_succ]
   refine wpAnyH_take (i := 12) (oi := { dst := some 23, op := Op.load 38 (Operand.tmp 22), type := 38, pos := "law.go:48", after := #[{ on := 11, ground := Ground.data }, { on := 4, ground := Ground.guard }], guard := some (4, false) }) (v := ?v13) rfl (by kernel_rfl) (by kernel_rfl) (by kernel_rfl) (fun _ _ _ h => h) (Or.inl ⟨by rfl, ?hy13⟩) (by assumption) ?rest13
   case hy13 => intro w hSw; (try dsimp only at hSw); go_simp <;> with_reducible rfl
   try simp only [Act.put, List.setIfInBounds_toArray, List.set_cons_zero, List.set_cons_succ]
   refine wpAnyH_ready (rs := [13]) (by kernel_rfl) (by simp) ?_
   refine AllReadyH.cons (o := { dst := some 24, op := Op.call { callee := Callee.value (Operand.func 25), args := #[Operand.tmp 19, Operand.tmp 23], argTypes := #[38, 38] }, type := 4, pos := "law.go:48", after := #[{ on := 8, ground := Ground.data }, { on := 12, ground := Ground.data }, { on := 4, ground := Ground.chain }, { on := 4, ground := Ground.guard }], guard := some (4, false) }) rfl (fun K hK => ?_) AllReadyH.nil
   go_simp
   go_at_call 25
   with_reducible refine (cS _ (Below.drew (Below.refl _ _))).mono ?_
   rintro e w3 ⟨rfl, hq3⟩
   have hk3 := Lib.hid (cln_trans hcl.out (cln_trans (Below.drew (Below.refl _ _)) hq3))
   have kk := Kept.of_below (S := fun _ => False) hq3
   (try go_wp2_with fail)
   refine hK.out _ _ ?_ (fun hHeld2 => ?_)
   ·exact ⟨kk.cell hHeld.1 id, kk.cell hHeld.2.1 id, kk.cell hHeld.2.2.1 id, kk.cell hHeld.2.2.2 id⟩
   clear hK K hHeld cS hq3 kk
   replace hHeld := hHeld2
   clear hHeld2
   try simp only [Act.put, List.setIfInBounds_toArray, List.set_cons_zero, List.set_cons_succ]
   refine wpAnyH_take (i := 14) (oi := { dst := some 25, op := Op.unOp UnOp.not 4 (Operand.tmp 24), type := 4, pos := "law.go:48", after := #[{ on := 13, ground := Ground.data }, { on := 4, ground := Ground.guard }], guard := some (4, false) }) (v := ?v14) rfl (by kernel_rfl) (by kernel_rfl) (by kernel_rfl) (fun _ _ _ h => h) (Or.inl ⟨by rfl, ?hy14⟩) (by assumption) ?rest14
   case hy14 => intro w hSw; (try dsimp only at hSw); go_simp <;> with_reducible rfl
   try simp only [Act.put, List.setIfInBounds_toArray, List.set_cons_zero, List.set_cons_succ]
   refine wpAnyH_take (i := 15) (oi := { dst := some 26, op := Op.pick (Operand.tmp 15) (Operand.const (Value.bool true)) (Operand.tmp 25), type := 4, pos := "law.go:48", after := #[{ on := 4, ground := Ground.data }, { on := 14, ground := Ground.data }], guard := none }) (v := ?v15) rfl (by kernel_rfl) (by kernel_rfl) (by kernel_rfl) (fun _ _ _ h => h) (Or.inl ⟨by rfl, ?hy15⟩) (by assumption) ?rest15
   case hy15 => intro w hSw; (try dsimp only at hSw); go_simp <;> with_reducible rfl
   try simp only [Act.put, List.setIfInBounds_toArray, List.set_cons_zero, List.set_cons_succ]
   refine wpAnyH_done (by kernel_rfl) ?_ _
   clear hHeld hg
   go_wp2_with fail
   have tw := wrap_succ47 i n hin'.out hn.out
   go_roundw
   case rel => exact ⟨i + 1, hin'.out, by first | (rw [tw]; rfl) | rfl, hk3⟩
   case measure => first | (rw [tw]; exact meas_lt _ _ hin'.out) | exact meas_lt _ _ hin'.out
  ·obtain rfl : n = i := by omega
   have t1 : decide ((n : Int) < (n : Int)) = false := decide_eq_false (by omega)
   go_wp2_with fail
   go_ret
   exact ⟨rfl, hcl.out⟩
structure RdDs (W : World) (A : Option Addr) (n : Nat) (l : List (List (List MAct))) : Prop where
 len : l.length = n
 at_ : ∀ (i : Nat) (x : List (List MAct)), l[i]? = some x → ∃ g o D k c, A = some ⟨g, o, none⟩ ∧ W.cell? ⟨g, o + i, none⟩ = some (.slice D k c) ∧ RdDeals W D k x
theorem RdDs.cln {W W' : World} {A : Option Addr} {n : Nat} {l : List (List (List MAct))} (h : RdDs W A n l) (k : Cln W W') : RdDs W' A n l :=
 ⟨h.len, fun i x hx => by
  obtain ⟨g, o, D, kk, c, hA, c0, hr⟩ := h.at_ i x hx
  exact ⟨g, o, D, kk, c, hA, (Kept.of_below (S := fun _ => False) k).cell c0 id, hr.cln k⟩⟩
def bigW (l : List (List (List MAct))) : Bool := decide (12 < l.length) || l.any (fun x => bigNL x == 1)
theorem bigW_le {l : List (List (List MAct))} (h : bigW l = false) : l.length ≤ 12 ∧ ∀ x ∈ l, bigNL x = 0 := by
 unfold bigW at h
 rw [Bool.or_eq_false_iff] at h
 refine ⟨by have := of_decide_eq_false h.1; omega, fun x hx => ?_⟩
 have := List.any_eq_false.1 h.2 x hx
 rcases bigL_or x with h0 | h0
 ·exact h0
 ·rw [h0] at this; simp at this
set_option maxHeartbeats 4000000 in
theorem bigW_any (l : List (List (List MAct))) (A : Option Addr) (n c : Nat) (w : World) (hr : RdDs w A n l) : Calls Tryz.prog 22 #[.slice A n c] w fun e w' => e = .returned (.bool (bigW l)) ∧ Cln w w' := by
 have hlen := hr.len
 by_cases h1 : 12 < n
 ·have hE : bigW l = true := by unfold bigW; rw [decide_eq_true (by omega)]; rfl
  rw [hE]
  have t1 : decide (12 < (n : Int)) = true := decide_eq_true (by omega)
  clear hr hlen
  go_enter Tryz.func22, Tryz.ntmps22
  go_wp2_with fail
  go_ret
  exact ⟨rfl, by (repeat with_reducible first | exact cR _ | assumption | refine cA ?_ _ | refine cD ?_ | refine cN ?_ _ | refine cS ?_ (by first | omega | (simp <;> omega)) _)⟩
 have t1 : decide (12 < (n : Int)) = false := decide_eq_false (by omega)
 have hE : Hid (bigW l = l.any (fun x => bigNL x == 1)) := by unfold Hid bigW; rw [decide_eq_false (by omega)]; rfl
 have hrH := Lib.hid hr
 have hc0 : Hid (Cln w w) := Below.refl _ _
 have hn : Hid (n ≤ 140737488355328) := by unfold Hid; omega
 replace hlen := Lib.hid hlen
 clear hr h1
 go_enter Tryz.func22, Tryz.ntmps22
 go_wp2_with fail
 go_loopw [10] (fun v wr => ∃ i : Nat, i ≤ n ∧ v = .int .i64 (i : Nat) ∧ Hid (Cln w wr) ∧ Hid (bigW l = (l.drop i).any (fun x => bigNL x == 1))) (fun v _ => (n - intOf v).toNat)
 case atStart => exact ⟨0, Nat.zero_le _, rfl, hc0, hE⟩
 case round =>
  clear hc0 hE
  obtain ⟨i, hi, rfl, hcl, hE⟩ := hrel
  by_cases hin : i < n
  ·have t2 : decide ((i : Int) < (n : Int)) = true := decide_eq_true (by omega)
   have ig1 : (0 : Int) ≤ (i : Int) := by omega
   have ig2 : (i : Int) < (n : Int) := by omega
   have hil : i < l.length := by rw [hlen.out]; exact hin
   obtain ⟨g, o, D, k, cx, rfl, ga, hra⟩ := (hrH.out.cln hcl.out).at_ i l[i] (List.getElem?_eq_getElem hil)
   have hst : Hid (bigW l = ((bigNL l[i] == 1) || (l.drop (i + 1)).any (fun x => bigNL x == 1))) := by
    unfold Hid; rw [hE.out, List.drop_eq_getElem_cons hil, List.any_cons]
   have cB := bigL_any l[i] D k cx wr hra
   have gl := World.block_lt_of_cell? _ _ ga
   generalize l[i] = x at *
   replace hin := Lib.hid hin
   clear hra hil hE
   rcases bigL_or x with hb | hb
   ·rw [hb] at cB
    have hst2 : Hid (bigW l = (l.drop (i + 1)).any (fun x => bigNL x == 1)) := by unfold Hid; rw [hst.out, hb]; rfl
    replace hb := Lib.hid hb
    go_wp2_with fail
    refine cB.mono ?_; rintro e w3 ⟨rfl, hq3⟩
    have hk3 := Lib.hid (cln_trans hcl.out hq3)
    clear cB hq3 ga gl
    have tw := wrap_succ47 i n hin.out hn.out
    go_wp2_with fail
    go_roundw
    case rel => exact ⟨i + 1, hin.out, by first | (rw [tw]; rfl) | rfl, hk3, hst2⟩
    case measure => first | (rw [tw]; exact meas_lt _ _ hin.out) | exact meas_lt _ _ hin.out
   ·rw [hb] at cB
    have hst2 : Hid (bigW l = true) := by unfold Hid; rw [hst.out, hb]; rfl
    replace hb := Lib.hid hb
    go_wp2_with fail
    refine cB.mono ?_; rintro e w3 ⟨rfl, hq3⟩
    have hk3 := Lib.hid (cln_trans hcl.out hq3)
    clear cB hq3 ga gl
    go_wp2_with fail
    go_ret
    rw [hst2.out]
    exact ⟨rfl, hk3.out⟩
  ·obtain rfl : n = i := by omega
   have t2 : decide ((n : Int) < (n : Int)) = false := decide_eq_false (by omega)
   have hst2 : Hid (bigW l = false) := by unfold Hid; rw [hE.out, List.drop_of_length_le (by rw [hlen.out]; exact Nat.le_refl _)]; rfl
   go_wp2_with fail
   go_ret
   rw [hst2.out]
   exact ⟨rfl, hcl.out⟩
end Go.Proofs.YtbemnfbndjolpaaGreatDoor
