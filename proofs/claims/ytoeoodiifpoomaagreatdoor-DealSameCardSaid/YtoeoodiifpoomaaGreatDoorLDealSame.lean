/- The law DealSame. (Printed by wip/tools/gen_ldeals.py.) -/
import Derived.Test.YtoeoodiifpoomaaGreatDoorCopies
import Derived.Test.YtoeoodiifpoomaaGreatDoorWDeal2
import Derived.Test.YtoeoodiifpoomaaGreatDoorPlain
import Derived.Test.YtoeoodiifpoomaaGreatDoorDeals
import Derived.Test.YtoeoodiifpoomaaGreatDoorAlikes
import Derived.Test.YtoeoodiifpoomaaGreatDoorOpens
import Derived.Deep.RegionWith
import Derived.Deep.RegionHeld3
import Derived.BigRegion
import Derived.BigQuiet
set_option linter.unusedSimpArgs false
set_option linter.unusedVariables false
set_option maxRecDepth 20000
namespace Go.Proofs.YtoeoodiifpoomaaGreatDoor
open Go.RowKit Moi
attribute [local go_sem] toList_str str_size less_ltB store_float
theorem add_b (s : List UInt8) (b : UInt8) (h : s.length ≤ 1000000000000000) (W : World) : (Op.stringOp .add (str s) ⟨#[b]⟩).run Tryz.prog W = .ok (.string (str (s ++ [b]))) W := by
 rw [run_string_add_sum _ (str s) ⟨#[b]⟩ (by rw [str_size, show ByteArray.size ⟨#[b]⟩ = 1 from rfl]; omega)]
 congr 2
theorem longer_ne (a s : List UInt8) (b : UInt8) (h : a.length ≤ s.length) : (a == s ++ [b]) = false := by
 rw [beq_eq_false_iff_ne]; intro e; have := congrArg List.length e; simp at this; omega
theorem next_ne (n : Int) : ¬ n = IntKind.i64.wrap (n + 1) := by
 simp [IntKind.wrap, IntKind.min, IntKind.max, IntKind.signed, IntKind.bits]; omega
theorem bigN_nm (r : MRec) (h : bigN r = 0) : ∀ i, (itAt r.list i).name.length ≤ 100 := by
 unfold bigN at h
 split at h
 ·cases h
 ·rename_i hb
  unfold bigRec at hb
  simp at hb
  intro i
  unfold itAt
  rw [List.getD_eq_getElem?_getD]
  by_cases hi : i < r.list.length
  ·rw [List.getElem?_eq_getElem hi, Option.getD_some]
   have := hb.2 _ (List.getElem_mem hi)
   omega
  ·rw [List.getElem?_eq_none (by omega)]; decide
theorem next_ne64 (n : Int) : ¬ n = wrap64 (n + 1) := by
 unfold wrap64; omega
theorem sameAns_refl (a : MAns) : sameAns a a = true := by simp [sameAns, sameRec_refl]
theorem sameAnss_refl : ∀ l : List MAns, sameAnss l l = true
 | [] => rfl
 | a :: l => by rw [sameAnss, sameAns_refl, sameAnss_refl l]; rfl
theorem alike_refl (x : MRes) : alike x x = true := by simp [alike, sameAnss_refl]
theorem heldKeep8 {w W W' : World} {p0 p1 p2 p3 p4 p5 p6 p7 : Addr} {v0 v1 v2 v3 v4 v5 v6 v7 : Value} (hq : Cln W W') (h : W.cell? p0 = some v0 ∧ W.cell? p1 = some v1 ∧ W.cell? p2 = some v2 ∧ W.cell? p3 = some v3 ∧ W.cell? p4 = some v4 ∧ W.cell? p5 = some v5 ∧ W.cell? p6 = some v6 ∧ W.cell? p7 = some v7 ∧ Hid (Cln w W)) : W'.cell? p0 = some v0 ∧ W'.cell? p1 = some v1 ∧ W'.cell? p2 = some v2 ∧ W'.cell? p3 = some v3 ∧ W'.cell? p4 = some v4 ∧ W'.cell? p5 = some v5 ∧ W'.cell? p6 = some v6 ∧ W'.cell? p7 = some v7 ∧ Hid (Cln w W') := by
 have k := Kept.of_below (S := fun _ => False) hq
 exact ⟨k.cell h.1 id, k.cell h.2.1 id, k.cell h.2.2.1 id, k.cell h.2.2.2.1 id, k.cell h.2.2.2.2.1 id, k.cell h.2.2.2.2.2.1 id, k.cell h.2.2.2.2.2.2.1 id, k.cell h.2.2.2.2.2.2.2.1 id, Lib.hid (cln_trans h.2.2.2.2.2.2.2.2.out hq)⟩
set_option maxHeartbeats 8000000 in
theorem lDealSame (a b : List MAct) (x y : MRes) (A B C E : Option Addr) (n c k d m e0 q g0 : Nat) (w : World) (hK : KindsAt w) (hr : RdActs w A n a) (hs : RdActs w B k b) (hx : RdAns w C m x.list) (hy : RdAns w E q y.list) (hmx : ∀ u ∈ x.list, Modest u.r) (hmy : ∀ u ∈ y.list, Modest u.r) :
  Calls Tryz.prog 12 #[.agg #[.slice A n c], .agg #[.slice B k d], .agg #[.int .i64 x.code, .int .i64 x.at_, .slice C m e0, .int .i64 y.code, .int .i64 y.at_, .slice E q g0]] w fun e w' => e = .returned (.bool true) ∧ Cln w w' := by
 have hn : Hid (a.length = n) := hr.len
 have hk : Hid (b.length = k) := hs.len
 have hm : Hid (x.list.length = m) := hx.len
 have hmxH := Lib.hid hmx
 have hmyH := Lib.hid hmy
 clear hmx hmy
 have hb0 := ((Blk.new w 48 #[.slice A n c]).alloc (.cells #[.slice B k d] 48)).alloc (.cells #[.int .i64 x.code, .int .i64 x.at_, .slice C m e0, .int .i64 y.code, .int .i64 y.at_, .slice E q g0] 77)
 have hb1 := (Blk.new (w.alloc (.cells #[.slice A n c] 48)) 48 #[.slice B k d]).alloc (.cells #[.int .i64 x.code, .int .i64 x.at_, .slice C m e0, .int .i64 y.code, .int .i64 y.at_, .slice E q g0] 77)
 have hb2 := Blk.new ((w.alloc (.cells #[.slice A n c] 48)).alloc (.cells #[.slice B k d] 48)) 77 #[.int .i64 x.code, .int .i64 x.at_, .slice C m e0, .int .i64 y.code, .int .i64 y.at_, .slice E q g0]
 rw [World.size_alloc] at hb1
 rw [World.size_alloc, World.size_alloc] at hb2
 have hcl : Cln w (((w.alloc (.cells #[.slice A n c] 48)).alloc (.cells #[.slice B k d] 48)).alloc (.cells #[.int .i64 x.code, .int .i64 x.at_, .slice C m e0, .int .i64 y.code, .int .i64 y.at_, .slice E q g0] 77)) := by (repeat with_reducible first | exact cR _ | assumption | refine cA ?_ _ | refine cD ?_ | refine cN ?_ _ | refine cS ?_ (by first | omega | (simp <;> omega)) _)
 have cSp := speaks_deal _ (hK.cln hcl)
 go_enter Tryz.func12, Tryz.ntmps12
 go_wp2_with fail
 refine cSp.mono ?_; rintro e w1 ⟨rfl, hq⟩
 clear cSp
 have hA1 := Lib.hid (hb0.cln hq); have hB1 := Lib.hid (hb1.cln hq); have hR1 := hb2.cln hq
 have hcl1 := Lib.hid (cln_trans hcl hq)
 have hr1 := Lib.hid (hr.cln hcl1.out); have hs1 := Lib.hid (hs.cln hcl1.out)
 have hx1 := Lib.hid (hx.cln hcl1.out); have hy1 := Lib.hid (hy.cln hcl1.out)
 have hlt1 : w.heap.size + 1 + 1 < w1.heap.size := hR1.lt
 have u0 : w1.cell? ⟨w.heap.size + 1 + 1, 0, none⟩ = some (.int .i64 x.code) := hR1.cell 0
 have u1 : w1.cell? ⟨w.heap.size + 1 + 1, 1, none⟩ = some (.int .i64 x.at_) := hR1.cell 1
 have u2 : w1.cell? ⟨w.heap.size + 1 + 1, 2, none⟩ = some (.slice C m e0) := hR1.cell 2
 have u3 : w1.cell? ⟨w.heap.size + 1 + 1, 3, none⟩ = some (.int .i64 y.code) := hR1.cell 3
 have u4 : w1.cell? ⟨w.heap.size + 1 + 1, 4, none⟩ = some (.int .i64 y.at_) := hR1.cell 4
 have u5 : w1.cell? ⟨w.heap.size + 1 + 1, 5, none⟩ = some (.slice E q g0) := hR1.cell 5
 have uL := hR1.lt
 have uL1 : w.heap.size + 1 < w1.heap.size := by omega
 have uL2 : w.heap.size < w1.heap.size := by omega
 have hxL := Lib.hid hx
 have hrL := Lib.hid hr
 clear hb0 hb1 hb2 hR1 hcl hq hr hs hK hx hy
 go_wp2_with fail
 rename_i KA hKA
 have hJ : ∀ (s17 s18 s19 s20 : Value) (xb yb : Nat) (W : World), Cln w1 W → Blk W xb 76 #[.int .i64 x.code, .int .i64 x.at_, .slice C m e0] → Blk W yb 76 #[.int .i64 y.code, .int .i64 y.at_, .slice E q g0] → w1.heap.size ≤ xb → w1.heap.size ≤ yb → KA { tmps := #[.agg #[.slice A n c], .agg #[.slice B k d], .agg #[.int .i64 x.code, .int .i64 x.at_, .slice C m e0, .int .i64 y.code, .int .i64 y.at_, .slice E q g0], .pointer (some ⟨w.heap.size, 0, none⟩), .pointer (some ⟨w.heap.size + 1, 0, none⟩), .pointer (some ⟨w.heap.size + 1 + 1, 0, none⟩), .bool false, .pointer (some ⟨xb, 0, none⟩), .pointer (some ⟨yb, 0, none⟩), undef, undef, undef, undef, undef, undef, .bool true, .bool false, s17, s18, s19, s20, undef, undef, undef, undef, undef, undef, undef, undef, undef, undef, undef, undef, undef, undef, undef, undef, undef, undef, undef, undef, undef, undef, undef, undef, undef, undef, undef, undef, undef, undef, undef, undef, undef, undef, undef, undef, undef, undef, undef, undef, undef, undef, undef, undef, undef, undef, undef, undef, undef, undef, undef, undef, undef, undef, undef, undef, undef, undef, undef, undef, undef, undef, undef, undef, undef, undef, undef, undef, undef, undef, undef, undef, undef, undef, undef, undef, undef, undef, undef, undef, undef, undef, undef, undef, undef, undef, undef, undef, undef, undef, undef, undef, undef, undef, undef, undef, undef, undef, undef, undef, undef, undef, undef, undef, undef, undef, undef, undef, undef, undef, undef, undef, undef, undef, undef, undef, undef, undef, undef, undef, undef, undef, undef, undef, undef, undef, undef, undef, undef, undef, undef, undef, undef, undef, undef, undef, undef, undef, undef, undef, undef, undef, undef, undef, undef, undef, undef, undef, undef, undef, undef, undef, undef, undef, undef, undef, undef, undef, undef, undef, undef, undef, undef, undef, undef, undef, undef, undef, undef, undef, undef, undef, undef, undef, undef, undef, undef, undef, undef, undef, undef, undef, undef, undef, undef, undef, undef, undef, undef, undef, undef, undef, undef, undef, undef, undef, undef, undef, undef, undef, undef, undef, undef, undef, undef, undef, undef, undef], defers := [] } W := by
  intro s17 s18 s19 s20 xb yb w2 hcl12 hX2 hY2 hxb hyb
  refine hKA _ _ ?_
  clear hKA u0 u1 u2 u3 u4 u5 uL uL1 uL2
  have hcl2 := Lib.hid (cln_trans hcl1.out hcl12)
  have hA2 := Lib.hid (hA1.out.cln hcl12); have hB2 := Lib.hid (hB1.out.cln hcl12)
  replace hX2 := Lib.hid hX2; replace hY2 := Lib.hid hY2
  have hr2 := Lib.hid (hr1.out.cln hcl12); have hs2 := Lib.hid (hs1.out.cln hcl12)
  have hx2 := Lib.hid (hx1.out.cln hcl12); have hy2 := Lib.hid (hy1.out.cln hcl12)
  have hwx : w.heap.size ≤ xb := by omega
  have hwy : w.heap.size ≤ yb := by omega
  clear hA1 hB1 hr1 hs1 hx1 hy1 hcl1 hcl12 hxb hyb hlt1 w1
  have cGa : ∀ W : World, (W.cell? ⟨w.heap.size, 0, none⟩ = some (.slice A n c) ∧ W.cell? ⟨w.heap.size + 1, 0, none⟩ = some (.slice B k d) ∧ W.cell? ⟨xb, 0, none⟩ = some (.int .i64 x.code) ∧ W.cell? ⟨xb, 1, none⟩ = some (.int .i64 x.at_) ∧ W.cell? ⟨xb, 2, none⟩ = some (.slice C m e0) ∧ W.cell? ⟨yb, 0, none⟩ = some (.int .i64 y.code) ∧ W.cell? ⟨yb, 1, none⟩ = some (.int .i64 y.at_) ∧ W.cell? ⟨yb, 2, none⟩ = some (.slice E q g0) ∧ Hid (Cln w2 W)) → Calls Tryz.prog 27 #[.agg #[.slice A n c]] W fun e w' => e = .returned (.int .i64 (bigND a)) ∧ Cln W w' := fun W h => bigD_any a A n c W (hr2.out.cln h.2.2.2.2.2.2.2.2.out)
  have cGb : ∀ W : World, (W.cell? ⟨w.heap.size, 0, none⟩ = some (.slice A n c) ∧ W.cell? ⟨w.heap.size + 1, 0, none⟩ = some (.slice B k d) ∧ W.cell? ⟨xb, 0, none⟩ = some (.int .i64 x.code) ∧ W.cell? ⟨xb, 1, none⟩ = some (.int .i64 x.at_) ∧ W.cell? ⟨xb, 2, none⟩ = some (.slice C m e0) ∧ W.cell? ⟨yb, 0, none⟩ = some (.int .i64 y.code) ∧ W.cell? ⟨yb, 1, none⟩ = some (.int .i64 y.at_) ∧ W.cell? ⟨yb, 2, none⟩ = some (.slice E q g0) ∧ Hid (Cln w2 W)) → Calls Tryz.prog 27 #[.agg #[.slice B k d]] W fun e w' => e = .returned (.int .i64 (bigND b)) ∧ Cln W w' := fun W h => bigD_any b B k d W (hs2.out.cln h.2.2.2.2.2.2.2.2.out)
  have hcurD : Hid (Cln w2 w2.drew) := Below.drew (Below.refl _ _)
  have tw0 : IntKind.i64.wrap 0 = 0 := by decide
  have tw1 : IntKind.i64.wrap 1 = 1 := by decide
  have tw2 : IntKind.i64.wrap 2 = 2 := by decide
  go_wp2_with fail
  rcases bigD_or a with ha0 | ha0
  case inr =>
   rcases bigD_or b with hb0 | hb0
   ·rw [ha0] at cGa; rw [hb0] at cGb
    clear ha0 hb0
    refine wp_region_held_drew (S := fun W => W.cell? ⟨w.heap.size, 0, none⟩ = some (.slice A n c) ∧ W.cell? ⟨w.heap.size + 1, 0, none⟩ = some (.slice B k d) ∧ W.cell? ⟨xb, 0, none⟩ = some (.int .i64 x.code) ∧ W.cell? ⟨xb, 1, none⟩ = some (.int .i64 x.at_) ∧ W.cell? ⟨xb, 2, none⟩ = some (.slice C m e0) ∧ W.cell? ⟨yb, 0, none⟩ = some (.int .i64 y.code) ∧ W.cell? ⟨yb, 1, none⟩ = some (.int .i64 y.at_) ∧ W.cell? ⟨yb, 2, none⟩ = some (.slice E q g0) ∧ Hid (Cln w2 W)) (by kernel_rfl) ?hS17 (fun hHeld => ?_)
    case hS17 => (try dsimp only); exact ⟨hA2.out.cell 0, hB2.out.cell 0, hX2.out.cell 0, hX2.out.cell 1, hX2.out.cell 2, hY2.out.cell 0, hY2.out.cell 1, hY2.out.cell 2, hcurD⟩
    refine wpAnyH_take (i := 0) (oi := { dst := some 21, op := Op.load 48 (Operand.tmp 3), type := 48, pos := "law.go:111", after := #[], guard := none }) (v := ?v19) rfl (by kernel_rfl) (by kernel_rfl) (by kernel_rfl) (fun _ _ _ h => h) (Or.inl ⟨by rfl, ?hy19⟩) (by assumption) ?rest19
    case hy19 => intro w hSw; (try dsimp only at hSw); go_simp <;> with_reducible rfl
    try simp only [Act.put, List.setIfInBounds_toArray, List.set_cons_zero, List.set_cons_succ]
    refine wpAnyH_take (i := 2) (oi := { dst := some 23, op := Op.load 48 (Operand.tmp 4), type := 48, pos := "law.go:111", after := #[], guard := none }) (v := ?v20) rfl (by kernel_rfl) (by kernel_rfl) (by kernel_rfl) (fun _ _ _ h => h) (Or.inl ⟨by rfl, ?hy20⟩) (by assumption) ?rest20
    case hy20 => intro w hSw; (try dsimp only at hSw); go_simp <;> with_reducible rfl
    try simp only [Act.put, List.setIfInBounds_toArray, List.set_cons_zero, List.set_cons_succ]
    refine wpAnyH_ready (rs := [1]) (by kernel_rfl) (by simp) ?_
    refine AllReadyH.cons (o := { dst := some 22, op := Op.call { callee := Callee.value (Operand.func 27), args := #[Operand.tmp 21], argTypes := #[48] }, type := 3, pos := "law.go:111", after := #[{ on := 0, ground := Ground.data }], guard := none }) rfl (fun K hK => ?_) AllReadyH.nil
    go_simp
    go_at_call 27; with_reducible refine (cGa _ (by assumption)).mono ?_; rintro e w' ⟨rfl, hq⟩
    (try go_wp2_with fail)
    refine hK.out _ _ ?_ (fun hHeld => ?_)
    ·exact heldKeep8 hq (by assumption)
    clear hK K
    try simp only [Act.put, List.setIfInBounds_toArray, List.set_cons_zero, List.set_cons_succ]
    refine wpAnyH_ready (rs := [3]) (by kernel_rfl) (by simp) ?_
    refine AllReadyH.cons (o := { dst := some 24, op := Op.call { callee := Callee.value (Operand.func 27), args := #[Operand.tmp 23], argTypes := #[48] }, type := 3, pos := "law.go:111", after := #[{ on := 2, ground := Ground.data }, { on := 1, ground := Ground.chain }], guard := none }) rfl (fun K hK => ?_) AllReadyH.nil
    go_simp
    go_at_call 27; with_reducible refine (cGb _ (by assumption)).mono ?_; rintro e w3 ⟨rfl, hq⟩
    (try go_wp2_with fail)
    refine hK.out _ _ ?_ (fun hHeld => ?_)
    ·exact heldKeep8 hq (by assumption)
    clear hK K
    try simp only [Act.put, List.setIfInBounds_toArray, List.set_cons_zero, List.set_cons_succ]
    refine wpAnyH_take (i := 4) (oi := { dst := some 25, op := Op.binOp BinOp.add 3 (Operand.tmp 22) (Operand.tmp 24) 3, type := 3, pos := "law.go:111", after := #[{ on := 1, ground := Ground.data }, { on := 3, ground := Ground.data }], guard := none }) (v := ?v21) rfl (by kernel_rfl) (by kernel_rfl) (by kernel_rfl) (fun _ _ _ h => h) (Or.inl ⟨by rfl, ?hy21⟩) (by assumption) ?rest21
    case hy21 => intro w hSw; (try dsimp only at hSw); go_simp <;> with_reducible rfl
    try simp only [Act.put, List.setIfInBounds_toArray, List.set_cons_zero, List.set_cons_succ]
    refine wpAnyH_take (i := 5) (oi := { dst := some 26, op := Op.binOp BinOp.gtr 3 (Operand.tmp 25) (Operand.const (Value.int IntKind.i64 0)) 3, type := 4, pos := "law.go:111", after := #[{ on := 4, ground := Ground.data }], guard := none }) (v := ?v22) rfl (by kernel_rfl) (by kernel_rfl) (by kernel_rfl) (fun _ _ _ h => h) (Or.inl ⟨by rfl, ?hy22⟩) (by assumption) ?rest22
    case hy22 => intro w hSw; (try dsimp only at hSw); go_simp <;> with_reducible rfl
    try simp only [Act.put, List.setIfInBounds_toArray, List.set_cons_zero, List.set_cons_succ]
    refine wpAnyH_take (i := 6) (oi := { dst := some 27, op := Op.move (Operand.tmp 26), type := 4, pos := "law.go:111", after := #[{ on := 5, ground := Ground.data }, { on := 3, ground := Ground.chain }], guard := none }) (v := ?v23) rfl (by kernel_rfl) (by kernel_rfl) (by kernel_rfl) (fun _ _ _ h => h) (Or.inl ⟨by rfl, ?hy23⟩) (by assumption) ?rest23
    case hy23 => intro w hSw; (try dsimp only at hSw); go_simp <;> with_reducible rfl
    try simp only [Act.put, List.setIfInBounds_toArray, List.set_cons_zero, List.set_cons_succ]
    refine wpAnyH_take (i := 7) (oi := { dst := some 28, op := Op.fieldAddr 76 (Operand.tmp 7) 2, type := 0, pos := "law.go:111", after := #[{ on := 6, ground := Ground.guard }], guard := some (6, false) }) (v := undef) rfl (by kernel_rfl) (by kernel_rfl) (by kernel_rfl) (fun _ _ _ h => h) (Or.inr ⟨by rfl, rfl⟩) (by assumption) ?_
    try simp only [Act.put, List.setIfInBounds_toArray, List.set_cons_zero, List.set_cons_succ]
    refine wpAnyH_take (i := 8) (oi := { dst := some 29, op := Op.load 74 (Operand.tmp 28), type := 74, pos := "law.go:111", after := #[{ on := 7, ground := Ground.data }, { on := 6, ground := Ground.guard }], guard := some (6, false) }) (v := undef) rfl (by kernel_rfl) (by kernel_rfl) (by kernel_rfl) (fun _ _ _ h => h) (Or.inr ⟨by rfl, rfl⟩) (by assumption) ?_
    try simp only [Act.put, List.setIfInBounds_toArray, List.set_cons_zero, List.set_cons_succ]
    refine wpAnyH_take (i := 9) (oi := { dst := some 30, op := Op.call { callee := Callee.builtin Builtin.len, args := #[Operand.tmp 29], argTypes := #[74] }, type := 3, pos := "law.go:111", after := #[{ on := 8, ground := Ground.data }, { on := 6, ground := Ground.guard }], guard := some (6, false) }) (v := undef) rfl (by kernel_rfl) (by kernel_rfl) (by kernel_rfl) (fun _ _ _ h => h) (Or.inr ⟨by rfl, rfl⟩) (by assumption) ?_
    try simp only [Act.put, List.setIfInBounds_toArray, List.set_cons_zero, List.set_cons_succ]
    refine wpAnyH_take (i := 10) (oi := { dst := some 31, op := Op.binOp BinOp.gtr 3 (Operand.tmp 30) (Operand.const (Value.int IntKind.i64 40)) 3, type := 4, pos := "law.go:111", after := #[{ on := 9, ground := Ground.data }, { on := 6, ground := Ground.guard }], guard := some (6, false) }) (v := undef) rfl (by kernel_rfl) (by kernel_rfl) (by kernel_rfl) (fun _ _ _ h => h) (Or.inr ⟨by rfl, rfl⟩) (by assumption) ?_
    try simp only [Act.put, List.setIfInBounds_toArray, List.set_cons_zero, List.set_cons_succ]
    refine wpAnyH_take (i := 11) (oi := { dst := some 32, op := Op.pick (Operand.tmp 27) (Operand.const (Value.bool true)) (Operand.tmp 31), type := 4, pos := "law.go:111", after := #[{ on := 6, ground := Ground.data }, { on := 10, ground := Ground.data }], guard := none }) (v := ?v24) rfl (by kernel_rfl) (by kernel_rfl) (by kernel_rfl) (fun _ _ _ h => h) (Or.inl ⟨by rfl, ?hy24⟩) (by assumption) ?rest24
    case hy24 => intro w hSw; (try dsimp only at hSw); go_simp <;> with_reducible rfl
    try simp only [Act.put, List.setIfInBounds_toArray, List.set_cons_zero, List.set_cons_succ]
    refine wpAnyH_take (i := 12) (oi := { dst := some 33, op := Op.move (Operand.tmp 32), type := 4, pos := "law.go:111", after := #[{ on := 11, ground := Ground.data }, { on := 6, ground := Ground.chain }], guard := none }) (v := ?v25) rfl (by kernel_rfl) (by kernel_rfl) (by kernel_rfl) (fun _ _ _ h => h) (Or.inl ⟨by rfl, ?hy25⟩) (by assumption) ?rest25
    case hy25 => intro w hSw; (try dsimp only at hSw); go_simp <;> with_reducible rfl
    try simp only [Act.put, List.setIfInBounds_toArray, List.set_cons_zero, List.set_cons_succ]
    refine wpAnyH_take (i := 13) (oi := { dst := some 34, op := Op.fieldAddr 76 (Operand.tmp 8) 2, type := 0, pos := "law.go:111", after := #[{ on := 12, ground := Ground.guard }], guard := some (12, false) }) (v := undef) rfl (by kernel_rfl) (by kernel_rfl) (by kernel_rfl) (fun _ _ _ h => h) (Or.inr ⟨by rfl, rfl⟩) (by assumption) ?_
    try simp only [Act.put, List.setIfInBounds_toArray, List.set_cons_zero, List.set_cons_succ]
    refine wpAnyH_take (i := 14) (oi := { dst := some 35, op := Op.load 74 (Operand.tmp 34), type := 74, pos := "law.go:111", after := #[{ on := 13, ground := Ground.data }, { on := 12, ground := Ground.guard }], guard := some (12, false) }) (v := undef) rfl (by kernel_rfl) (by kernel_rfl) (by kernel_rfl) (fun _ _ _ h => h) (Or.inr ⟨by rfl, rfl⟩) (by assumption) ?_
    try simp only [Act.put, List.setIfInBounds_toArray, List.set_cons_zero, List.set_cons_succ]
    refine wpAnyH_take (i := 15) (oi := { dst := some 36, op := Op.call { callee := Callee.builtin Builtin.len, args := #[Operand.tmp 35], argTypes := #[74] }, type := 3, pos := "law.go:111", after := #[{ on := 14, ground := Ground.data }, { on := 12, ground := Ground.guard }], guard := some (12, false) }) (v := undef) rfl (by kernel_rfl) (by kernel_rfl) (by kernel_rfl) (fun _ _ _ h => h) (Or.inr ⟨by rfl, rfl⟩) (by assumption) ?_
    try simp only [Act.put, List.setIfInBounds_toArray, List.set_cons_zero, List.set_cons_succ]
    refine wpAnyH_take (i := 16) (oi := { dst := some 37, op := Op.binOp BinOp.gtr 3 (Operand.tmp 36) (Operand.const (Value.int IntKind.i64 40)) 3, type := 4, pos := "law.go:111", after := #[{ on := 15, ground := Ground.data }, { on := 12, ground := Ground.guard }], guard := some (12, false) }) (v := undef) rfl (by kernel_rfl) (by kernel_rfl) (by kernel_rfl) (fun _ _ _ h => h) (Or.inr ⟨by rfl, rfl⟩) (by assumption) ?_
    try simp only [Act.put, List.setIfInBounds_toArray, List.set_cons_zero, List.set_cons_succ]
    refine wpAnyH_take (i := 17) (oi := { dst := some 38, op := Op.pick (Operand.tmp 33) (Operand.const (Value.bool true)) (Operand.tmp 37), type := 4, pos := "law.go:111", after := #[{ on := 12, ground := Ground.data }, { on := 16, ground := Ground.data }], guard := none }) (v := ?v26) rfl (by kernel_rfl) (by kernel_rfl) (by kernel_rfl) (fun _ _ _ h => h) (Or.inl ⟨by rfl, ?hy26⟩) (by assumption) ?rest26
    case hy26 => intro w hSw; (try dsimp only at hSw); go_simp <;> with_reducible rfl
    try simp only [Act.put, List.setIfInBounds_toArray, List.set_cons_zero, List.set_cons_succ]
    refine wpAnyH_done (by kernel_rfl) ?_ _
    have hcur := Lib.hid hHeld.2.2.2.2.2.2.2.2.out
    clear hHeld hcurD
    go_wp2_with fail
    go_ret
    exact ⟨rfl, cln_trans hcl2.out hcur.out⟩
   ·rw [ha0] at cGa; rw [hb0] at cGb
    clear ha0 hb0
    refine wp_region_held_drew (S := fun W => W.cell? ⟨w.heap.size, 0, none⟩ = some (.slice A n c) ∧ W.cell? ⟨w.heap.size + 1, 0, none⟩ = some (.slice B k d) ∧ W.cell? ⟨xb, 0, none⟩ = some (.int .i64 x.code) ∧ W.cell? ⟨xb, 1, none⟩ = some (.int .i64 x.at_) ∧ W.cell? ⟨xb, 2, none⟩ = some (.slice C m e0) ∧ W.cell? ⟨yb, 0, none⟩ = some (.int .i64 y.code) ∧ W.cell? ⟨yb, 1, none⟩ = some (.int .i64 y.at_) ∧ W.cell? ⟨yb, 2, none⟩ = some (.slice E q g0) ∧ Hid (Cln w2 W)) (by kernel_rfl) ?hS26 (fun hHeld => ?_)
    case hS26 => (try dsimp only); exact ⟨hA2.out.cell 0, hB2.out.cell 0, hX2.out.cell 0, hX2.out.cell 1, hX2.out.cell 2, hY2.out.cell 0, hY2.out.cell 1, hY2.out.cell 2, hcurD⟩
    refine wpAnyH_take (i := 0) (oi := { dst := some 21, op := Op.load 48 (Operand.tmp 3), type := 48, pos := "law.go:111", after := #[], guard := none }) (v := ?v28) rfl (by kernel_rfl) (by kernel_rfl) (by kernel_rfl) (fun _ _ _ h => h) (Or.inl ⟨by rfl, ?hy28⟩) (by assumption) ?rest28
    case hy28 => intro w hSw; (try dsimp only at hSw); go_simp <;> with_reducible rfl
    try simp only [Act.put, List.setIfInBounds_toArray, List.set_cons_zero, List.set_cons_succ]
    refine wpAnyH_take (i := 2) (oi := { dst := some 23, op := Op.load 48 (Operand.tmp 4), type := 48, pos := "law.go:111", after := #[], guard := none }) (v := ?v29) rfl (by kernel_rfl) (by kernel_rfl) (by kernel_rfl) (fun _ _ _ h => h) (Or.inl ⟨by rfl, ?hy29⟩) (by assumption) ?rest29
    case hy29 => intro w hSw; (try dsimp only at hSw); go_simp <;> with_reducible rfl
    try simp only [Act.put, List.setIfInBounds_toArray, List.set_cons_zero, List.set_cons_succ]
    refine wpAnyH_ready (rs := [1]) (by kernel_rfl) (by simp) ?_
    refine AllReadyH.cons (o := { dst := some 22, op := Op.call { callee := Callee.value (Operand.func 27), args := #[Operand.tmp 21], argTypes := #[48] }, type := 3, pos := "law.go:111", after := #[{ on := 0, ground := Ground.data }], guard := none }) rfl (fun K hK => ?_) AllReadyH.nil
    go_simp
    go_at_call 27; with_reducible refine (cGa _ (by assumption)).mono ?_; rintro e w' ⟨rfl, hq⟩
    (try go_wp2_with fail)
    refine hK.out _ _ ?_ (fun hHeld => ?_)
    ·exact heldKeep8 hq (by assumption)
    clear hK K
    try simp only [Act.put, List.setIfInBounds_toArray, List.set_cons_zero, List.set_cons_succ]
    refine wpAnyH_ready (rs := [3]) (by kernel_rfl) (by simp) ?_
    refine AllReadyH.cons (o := { dst := some 24, op := Op.call { callee := Callee.value (Operand.func 27), args := #[Operand.tmp 23], argTypes := #[48] }, type := 3, pos := "law.go:111", after := #[{ on := 2, ground := Ground.data }, { on := 1, ground := Ground.chain }], guard := none }) rfl (fun K hK => ?_) AllReadyH.nil
    go_simp
    go_at_call 27; with_reducible refine (cGb _ (by assumption)).mono ?_; rintro e w3 ⟨rfl, hq⟩
    (try go_wp2_with fail)
    refine hK.out _ _ ?_ (fun hHeld => ?_)
    ·exact heldKeep8 hq (by assumption)
    clear hK K
    try simp only [Act.put, List.setIfInBounds_toArray, List.set_cons_zero, List.set_cons_succ]
    refine wpAnyH_take (i := 4) (oi := { dst := some 25, op := Op.binOp BinOp.add 3 (Operand.tmp 22) (Operand.tmp 24) 3, type := 3, pos := "law.go:111", after := #[{ on := 1, ground := Ground.data }, { on := 3, ground := Ground.data }], guard := none }) (v := ?v30) rfl (by kernel_rfl) (by kernel_rfl) (by kernel_rfl) (fun _ _ _ h => h) (Or.inl ⟨by rfl, ?hy30⟩) (by assumption) ?rest30
    case hy30 => intro w hSw; (try dsimp only at hSw); go_simp <;> with_reducible rfl
    try simp only [Act.put, List.setIfInBounds_toArray, List.set_cons_zero, List.set_cons_succ]
    refine wpAnyH_take (i := 5) (oi := { dst := some 26, op := Op.binOp BinOp.gtr 3 (Operand.tmp 25) (Operand.const (Value.int IntKind.i64 0)) 3, type := 4, pos := "law.go:111", after := #[{ on := 4, ground := Ground.data }], guard := none }) (v := ?v31) rfl (by kernel_rfl) (by kernel_rfl) (by kernel_rfl) (fun _ _ _ h => h) (Or.inl ⟨by rfl, ?hy31⟩) (by assumption) ?rest31
    case hy31 => intro w hSw; (try dsimp only at hSw); go_simp <;> with_reducible rfl
    try simp only [Act.put, List.setIfInBounds_toArray, List.set_cons_zero, List.set_cons_succ]
    refine wpAnyH_take (i := 6) (oi := { dst := some 27, op := Op.move (Operand.tmp 26), type := 4, pos := "law.go:111", after := #[{ on := 5, ground := Ground.data }, { on := 3, ground := Ground.chain }], guard := none }) (v := ?v32) rfl (by kernel_rfl) (by kernel_rfl) (by kernel_rfl) (fun _ _ _ h => h) (Or.inl ⟨by rfl, ?hy32⟩) (by assumption) ?rest32
    case hy32 => intro w hSw; (try dsimp only at hSw); go_simp <;> with_reducible rfl
    try simp only [Act.put, List.setIfInBounds_toArray, List.set_cons_zero, List.set_cons_succ]
    refine wpAnyH_take (i := 7) (oi := { dst := some 28, op := Op.fieldAddr 76 (Operand.tmp 7) 2, type := 0, pos := "law.go:111", after := #[{ on := 6, ground := Ground.guard }], guard := some (6, false) }) (v := undef) rfl (by kernel_rfl) (by kernel_rfl) (by kernel_rfl) (fun _ _ _ h => h) (Or.inr ⟨by rfl, rfl⟩) (by assumption) ?_
    try simp only [Act.put, List.setIfInBounds_toArray, List.set_cons_zero, List.set_cons_succ]
    refine wpAnyH_take (i := 8) (oi := { dst := some 29, op := Op.load 74 (Operand.tmp 28), type := 74, pos := "law.go:111", after := #[{ on := 7, ground := Ground.data }, { on := 6, ground := Ground.guard }], guard := some (6, false) }) (v := undef) rfl (by kernel_rfl) (by kernel_rfl) (by kernel_rfl) (fun _ _ _ h => h) (Or.inr ⟨by rfl, rfl⟩) (by assumption) ?_
    try simp only [Act.put, List.setIfInBounds_toArray, List.set_cons_zero, List.set_cons_succ]
    refine wpAnyH_take (i := 9) (oi := { dst := some 30, op := Op.call { callee := Callee.builtin Builtin.len, args := #[Operand.tmp 29], argTypes := #[74] }, type := 3, pos := "law.go:111", after := #[{ on := 8, ground := Ground.data }, { on := 6, ground := Ground.guard }], guard := some (6, false) }) (v := undef) rfl (by kernel_rfl) (by kernel_rfl) (by kernel_rfl) (fun _ _ _ h => h) (Or.inr ⟨by rfl, rfl⟩) (by assumption) ?_
    try simp only [Act.put, List.setIfInBounds_toArray, List.set_cons_zero, List.set_cons_succ]
    refine wpAnyH_take (i := 10) (oi := { dst := some 31, op := Op.binOp BinOp.gtr 3 (Operand.tmp 30) (Operand.const (Value.int IntKind.i64 40)) 3, type := 4, pos := "law.go:111", after := #[{ on := 9, ground := Ground.data }, { on := 6, ground := Ground.guard }], guard := some (6, false) }) (v := undef) rfl (by kernel_rfl) (by kernel_rfl) (by kernel_rfl) (fun _ _ _ h => h) (Or.inr ⟨by rfl, rfl⟩) (by assumption) ?_
    try simp only [Act.put, List.setIfInBounds_toArray, List.set_cons_zero, List.set_cons_succ]
    refine wpAnyH_take (i := 11) (oi := { dst := some 32, op := Op.pick (Operand.tmp 27) (Operand.const (Value.bool true)) (Operand.tmp 31), type := 4, pos := "law.go:111", after := #[{ on := 6, ground := Ground.data }, { on := 10, ground := Ground.data }], guard := none }) (v := ?v33) rfl (by kernel_rfl) (by kernel_rfl) (by kernel_rfl) (fun _ _ _ h => h) (Or.inl ⟨by rfl, ?hy33⟩) (by assumption) ?rest33
    case hy33 => intro w hSw; (try dsimp only at hSw); go_simp <;> with_reducible rfl
    try simp only [Act.put, List.setIfInBounds_toArray, List.set_cons_zero, List.set_cons_succ]
    refine wpAnyH_take (i := 12) (oi := { dst := some 33, op := Op.move (Operand.tmp 32), type := 4, pos := "law.go:111", after := #[{ on := 11, ground := Ground.data }, { on := 6, ground := Ground.chain }], guard := none }) (v := ?v34) rfl (by kernel_rfl) (by kernel_rfl) (by kernel_rfl) (fun _ _ _ h => h) (Or.inl ⟨by rfl, ?hy34⟩) (by assumption) ?rest34
    case hy34 => intro w hSw; (try dsimp only at hSw); go_simp <;> with_reducible rfl
    try simp only [Act.put, List.setIfInBounds_toArray, List.set_cons_zero, List.set_cons_succ]
    refine wpAnyH_take (i := 13) (oi := { dst := some 34, op := Op.fieldAddr 76 (Operand.tmp 8) 2, type := 0, pos := "law.go:111", after := #[{ on := 12, ground := Ground.guard }], guard := some (12, false) }) (v := undef) rfl (by kernel_rfl) (by kernel_rfl) (by kernel_rfl) (fun _ _ _ h => h) (Or.inr ⟨by rfl, rfl⟩) (by assumption) ?_
    try simp only [Act.put, List.setIfInBounds_toArray, List.set_cons_zero, List.set_cons_succ]
    refine wpAnyH_take (i := 14) (oi := { dst := some 35, op := Op.load 74 (Operand.tmp 34), type := 74, pos := "law.go:111", after := #[{ on := 13, ground := Ground.data }, { on := 12, ground := Ground.guard }], guard := some (12, false) }) (v := undef) rfl (by kernel_rfl) (by kernel_rfl) (by kernel_rfl) (fun _ _ _ h => h) (Or.inr ⟨by rfl, rfl⟩) (by assumption) ?_
    try simp only [Act.put, List.setIfInBounds_toArray, List.set_cons_zero, List.set_cons_succ]
    refine wpAnyH_take (i := 15) (oi := { dst := some 36, op := Op.call { callee := Callee.builtin Builtin.len, args := #[Operand.tmp 35], argTypes := #[74] }, type := 3, pos := "law.go:111", after := #[{ on := 14, ground := Ground.data }, { on := 12, ground := Ground.guard }], guard := some (12, false) }) (v := undef) rfl (by kernel_rfl) (by kernel_rfl) (by kernel_rfl) (fun _ _ _ h => h) (Or.inr ⟨by rfl, rfl⟩) (by assumption) ?_
    try simp only [Act.put, List.setIfInBounds_toArray, List.set_cons_zero, List.set_cons_succ]
    refine wpAnyH_take (i := 16) (oi := { dst := some 37, op := Op.binOp BinOp.gtr 3 (Operand.tmp 36) (Operand.const (Value.int IntKind.i64 40)) 3, type := 4, pos := "law.go:111", after := #[{ on := 15, ground := Ground.data }, { on := 12, ground := Ground.guard }], guard := some (12, false) }) (v := undef) rfl (by kernel_rfl) (by kernel_rfl) (by kernel_rfl) (fun _ _ _ h => h) (Or.inr ⟨by rfl, rfl⟩) (by assumption) ?_
    try simp only [Act.put, List.setIfInBounds_toArray, List.set_cons_zero, List.set_cons_succ]
    refine wpAnyH_take (i := 17) (oi := { dst := some 38, op := Op.pick (Operand.tmp 33) (Operand.const (Value.bool true)) (Operand.tmp 37), type := 4, pos := "law.go:111", after := #[{ on := 12, ground := Ground.data }, { on := 16, ground := Ground.data }], guard := none }) (v := ?v35) rfl (by kernel_rfl) (by kernel_rfl) (by kernel_rfl) (fun _ _ _ h => h) (Or.inl ⟨by rfl, ?hy35⟩) (by assumption) ?rest35
    case hy35 => intro w hSw; (try dsimp only at hSw); go_simp <;> with_reducible rfl
    try simp only [Act.put, List.setIfInBounds_toArray, List.set_cons_zero, List.set_cons_succ]
    refine wpAnyH_done (by kernel_rfl) ?_ _
    have hcur := Lib.hid hHeld.2.2.2.2.2.2.2.2.out
    clear hHeld hcurD
    go_wp2_with fail
    go_ret
    exact ⟨rfl, cln_trans hcl2.out hcur.out⟩
  rcases bigD_or b with hb0 | hb0
  case inr =>
   rw [ha0] at cGa; rw [hb0] at cGb
   clear ha0 hb0
   refine wp_region_held_drew (S := fun W => W.cell? ⟨w.heap.size, 0, none⟩ = some (.slice A n c) ∧ W.cell? ⟨w.heap.size + 1, 0, none⟩ = some (.slice B k d) ∧ W.cell? ⟨xb, 0, none⟩ = some (.int .i64 x.code) ∧ W.cell? ⟨xb, 1, none⟩ = some (.int .i64 x.at_) ∧ W.cell? ⟨xb, 2, none⟩ = some (.slice C m e0) ∧ W.cell? ⟨yb, 0, none⟩ = some (.int .i64 y.code) ∧ W.cell? ⟨yb, 1, none⟩ = some (.int .i64 y.at_) ∧ W.cell? ⟨yb, 2, none⟩ = some (.slice E q g0) ∧ Hid (Cln w2 W)) (by kernel_rfl) ?hS35 (fun hHeld => ?_)
   case hS35 => (try dsimp only); exact ⟨hA2.out.cell 0, hB2.out.cell 0, hX2.out.cell 0, hX2.out.cell 1, hX2.out.cell 2, hY2.out.cell 0, hY2.out.cell 1, hY2.out.cell 2, hcurD⟩
   refine wpAnyH_take (i := 0) (oi := { dst := some 21, op := Op.load 48 (Operand.tmp 3), type := 48, pos := "law.go:111", after := #[], guard := none }) (v := ?v37) rfl (by kernel_rfl) (by kernel_rfl) (by kernel_rfl) (fun _ _ _ h => h) (Or.inl ⟨by rfl, ?hy37⟩) (by assumption) ?rest37
   case hy37 => intro w hSw; (try dsimp only at hSw); go_simp <;> with_reducible rfl
   try simp only [Act.put, List.setIfInBounds_toArray, List.set_cons_zero, List.set_cons_succ]
   refine wpAnyH_take (i := 2) (oi := { dst := some 23, op := Op.load 48 (Operand.tmp 4), type := 48, pos := "law.go:111", after := #[], guard := none }) (v := ?v38) rfl (by kernel_rfl) (by kernel_rfl) (by kernel_rfl) (fun _ _ _ h => h) (Or.inl ⟨by rfl, ?hy38⟩) (by assumption) ?rest38
   case hy38 => intro w hSw; (try dsimp only at hSw); go_simp <;> with_reducible rfl
   try simp only [Act.put, List.setIfInBounds_toArray, List.set_cons_zero, List.set_cons_succ]
   refine wpAnyH_ready (rs := [1]) (by kernel_rfl) (by simp) ?_
   refine AllReadyH.cons (o := { dst := some 22, op := Op.call { callee := Callee.value (Operand.func 27), args := #[Operand.tmp 21], argTypes := #[48] }, type := 3, pos := "law.go:111", after := #[{ on := 0, ground := Ground.data }], guard := none }) rfl (fun K hK => ?_) AllReadyH.nil
   go_simp
   go_at_call 27; with_reducible refine (cGa _ (by assumption)).mono ?_; rintro e w' ⟨rfl, hq⟩
   (try go_wp2_with fail)
   refine hK.out _ _ ?_ (fun hHeld => ?_)
   ·exact heldKeep8 hq (by assumption)
   clear hK K
   try simp only [Act.put, List.setIfInBounds_toArray, List.set_cons_zero, List.set_cons_succ]
   refine wpAnyH_ready (rs := [3]) (by kernel_rfl) (by simp) ?_
   refine AllReadyH.cons (o := { dst := some 24, op := Op.call { callee := Callee.value (Operand.func 27), args := #[Operand.tmp 23], argTypes := #[48] }, type := 3, pos := "law.go:111", after := #[{ on := 2, ground := Ground.data }, { on := 1, ground := Ground.chain }], guard := none }) rfl (fun K hK => ?_) AllReadyH.nil
   go_simp
   go_at_call 27; with_reducible refine (cGb _ (by assumption)).mono ?_; rintro e w3 ⟨rfl, hq⟩
   (try go_wp2_with fail)
   refine hK.out _ _ ?_ (fun hHeld => ?_)
   ·exact heldKeep8 hq (by assumption)
   clear hK K
   try simp only [Act.put, List.setIfInBounds_toArray, List.set_cons_zero, List.set_cons_succ]
   refine wpAnyH_take (i := 4) (oi := { dst := some 25, op := Op.binOp BinOp.add 3 (Operand.tmp 22) (Operand.tmp 24) 3, type := 3, pos := "law.go:111", after := #[{ on := 1, ground := Ground.data }, { on := 3, ground := Ground.data }], guard := none }) (v := ?v39) rfl (by kernel_rfl) (by kernel_rfl) (by kernel_rfl) (fun _ _ _ h => h) (Or.inl ⟨by rfl, ?hy39⟩) (by assumption) ?rest39
   case hy39 => intro w hSw; (try dsimp only at hSw); go_simp <;> with_reducible rfl
   try simp only [Act.put, List.setIfInBounds_toArray, List.set_cons_zero, List.set_cons_succ]
   refine wpAnyH_take (i := 5) (oi := { dst := some 26, op := Op.binOp BinOp.gtr 3 (Operand.tmp 25) (Operand.const (Value.int IntKind.i64 0)) 3, type := 4, pos := "law.go:111", after := #[{ on := 4, ground := Ground.data }], guard := none }) (v := ?v40) rfl (by kernel_rfl) (by kernel_rfl) (by kernel_rfl) (fun _ _ _ h => h) (Or.inl ⟨by rfl, ?hy40⟩) (by assumption) ?rest40
   case hy40 => intro w hSw; (try dsimp only at hSw); go_simp <;> with_reducible rfl
   try simp only [Act.put, List.setIfInBounds_toArray, List.set_cons_zero, List.set_cons_succ]
   refine wpAnyH_take (i := 6) (oi := { dst := some 27, op := Op.move (Operand.tmp 26), type := 4, pos := "law.go:111", after := #[{ on := 5, ground := Ground.data }, { on := 3, ground := Ground.chain }], guard := none }) (v := ?v41) rfl (by kernel_rfl) (by kernel_rfl) (by kernel_rfl) (fun _ _ _ h => h) (Or.inl ⟨by rfl, ?hy41⟩) (by assumption) ?rest41
   case hy41 => intro w hSw; (try dsimp only at hSw); go_simp <;> with_reducible rfl
   try simp only [Act.put, List.setIfInBounds_toArray, List.set_cons_zero, List.set_cons_succ]
   refine wpAnyH_take (i := 7) (oi := { dst := some 28, op := Op.fieldAddr 76 (Operand.tmp 7) 2, type := 0, pos := "law.go:111", after := #[{ on := 6, ground := Ground.guard }], guard := some (6, false) }) (v := undef) rfl (by kernel_rfl) (by kernel_rfl) (by kernel_rfl) (fun _ _ _ h => h) (Or.inr ⟨by rfl, rfl⟩) (by assumption) ?_
   try simp only [Act.put, List.setIfInBounds_toArray, List.set_cons_zero, List.set_cons_succ]
   refine wpAnyH_take (i := 8) (oi := { dst := some 29, op := Op.load 74 (Operand.tmp 28), type := 74, pos := "law.go:111", after := #[{ on := 7, ground := Ground.data }, { on := 6, ground := Ground.guard }], guard := some (6, false) }) (v := undef) rfl (by kernel_rfl) (by kernel_rfl) (by kernel_rfl) (fun _ _ _ h => h) (Or.inr ⟨by rfl, rfl⟩) (by assumption) ?_
   try simp only [Act.put, List.setIfInBounds_toArray, List.set_cons_zero, List.set_cons_succ]
   refine wpAnyH_take (i := 9) (oi := { dst := some 30, op := Op.call { callee := Callee.builtin Builtin.len, args := #[Operand.tmp 29], argTypes := #[74] }, type := 3, pos := "law.go:111", after := #[{ on := 8, ground := Ground.data }, { on := 6, ground := Ground.guard }], guard := some (6, false) }) (v := undef) rfl (by kernel_rfl) (by kernel_rfl) (by kernel_rfl) (fun _ _ _ h => h) (Or.inr ⟨by rfl, rfl⟩) (by assumption) ?_
   try simp only [Act.put, List.setIfInBounds_toArray, List.set_cons_zero, List.set_cons_succ]
   refine wpAnyH_take (i := 10) (oi := { dst := some 31, op := Op.binOp BinOp.gtr 3 (Operand.tmp 30) (Operand.const (Value.int IntKind.i64 40)) 3, type := 4, pos := "law.go:111", after := #[{ on := 9, ground := Ground.data }, { on := 6, ground := Ground.guard }], guard := some (6, false) }) (v := undef) rfl (by kernel_rfl) (by kernel_rfl) (by kernel_rfl) (fun _ _ _ h => h) (Or.inr ⟨by rfl, rfl⟩) (by assumption) ?_
   try simp only [Act.put, List.setIfInBounds_toArray, List.set_cons_zero, List.set_cons_succ]
   refine wpAnyH_take (i := 11) (oi := { dst := some 32, op := Op.pick (Operand.tmp 27) (Operand.const (Value.bool true)) (Operand.tmp 31), type := 4, pos := "law.go:111", after := #[{ on := 6, ground := Ground.data }, { on := 10, ground := Ground.data }], guard := none }) (v := ?v42) rfl (by kernel_rfl) (by kernel_rfl) (by kernel_rfl) (fun _ _ _ h => h) (Or.inl ⟨by rfl, ?hy42⟩) (by assumption) ?rest42
   case hy42 => intro w hSw; (try dsimp only at hSw); go_simp <;> with_reducible rfl
   try simp only [Act.put, List.setIfInBounds_toArray, List.set_cons_zero, List.set_cons_succ]
   refine wpAnyH_take (i := 12) (oi := { dst := some 33, op := Op.move (Operand.tmp 32), type := 4, pos := "law.go:111", after := #[{ on := 11, ground := Ground.data }, { on := 6, ground := Ground.chain }], guard := none }) (v := ?v43) rfl (by kernel_rfl) (by kernel_rfl) (by kernel_rfl) (fun _ _ _ h => h) (Or.inl ⟨by rfl, ?hy43⟩) (by assumption) ?rest43
   case hy43 => intro w hSw; (try dsimp only at hSw); go_simp <;> with_reducible rfl
   try simp only [Act.put, List.setIfInBounds_toArray, List.set_cons_zero, List.set_cons_succ]
   refine wpAnyH_take (i := 13) (oi := { dst := some 34, op := Op.fieldAddr 76 (Operand.tmp 8) 2, type := 0, pos := "law.go:111", after := #[{ on := 12, ground := Ground.guard }], guard := some (12, false) }) (v := undef) rfl (by kernel_rfl) (by kernel_rfl) (by kernel_rfl) (fun _ _ _ h => h) (Or.inr ⟨by rfl, rfl⟩) (by assumption) ?_
   try simp only [Act.put, List.setIfInBounds_toArray, List.set_cons_zero, List.set_cons_succ]
   refine wpAnyH_take (i := 14) (oi := { dst := some 35, op := Op.load 74 (Operand.tmp 34), type := 74, pos := "law.go:111", after := #[{ on := 13, ground := Ground.data }, { on := 12, ground := Ground.guard }], guard := some (12, false) }) (v := undef) rfl (by kernel_rfl) (by kernel_rfl) (by kernel_rfl) (fun _ _ _ h => h) (Or.inr ⟨by rfl, rfl⟩) (by assumption) ?_
   try simp only [Act.put, List.setIfInBounds_toArray, List.set_cons_zero, List.set_cons_succ]
   refine wpAnyH_take (i := 15) (oi := { dst := some 36, op := Op.call { callee := Callee.builtin Builtin.len, args := #[Operand.tmp 35], argTypes := #[74] }, type := 3, pos := "law.go:111", after := #[{ on := 14, ground := Ground.data }, { on := 12, ground := Ground.guard }], guard := some (12, false) }) (v := undef) rfl (by kernel_rfl) (by kernel_rfl) (by kernel_rfl) (fun _ _ _ h => h) (Or.inr ⟨by rfl, rfl⟩) (by assumption) ?_
   try simp only [Act.put, List.setIfInBounds_toArray, List.set_cons_zero, List.set_cons_succ]
   refine wpAnyH_take (i := 16) (oi := { dst := some 37, op := Op.binOp BinOp.gtr 3 (Operand.tmp 36) (Operand.const (Value.int IntKind.i64 40)) 3, type := 4, pos := "law.go:111", after := #[{ on := 15, ground := Ground.data }, { on := 12, ground := Ground.guard }], guard := some (12, false) }) (v := undef) rfl (by kernel_rfl) (by kernel_rfl) (by kernel_rfl) (fun _ _ _ h => h) (Or.inr ⟨by rfl, rfl⟩) (by assumption) ?_
   try simp only [Act.put, List.setIfInBounds_toArray, List.set_cons_zero, List.set_cons_succ]
   refine wpAnyH_take (i := 17) (oi := { dst := some 38, op := Op.pick (Operand.tmp 33) (Operand.const (Value.bool true)) (Operand.tmp 37), type := 4, pos := "law.go:111", after := #[{ on := 12, ground := Ground.data }, { on := 16, ground := Ground.data }], guard := none }) (v := ?v44) rfl (by kernel_rfl) (by kernel_rfl) (by kernel_rfl) (fun _ _ _ h => h) (Or.inl ⟨by rfl, ?hy44⟩) (by assumption) ?rest44
   case hy44 => intro w hSw; (try dsimp only at hSw); go_simp <;> with_reducible rfl
   try simp only [Act.put, List.setIfInBounds_toArray, List.set_cons_zero, List.set_cons_succ]
   refine wpAnyH_done (by kernel_rfl) ?_ _
   have hcur := Lib.hid hHeld.2.2.2.2.2.2.2.2.out
   clear hHeld hcurD
   go_wp2_with fail
   go_ret
   exact ⟨rfl, cln_trans hcl2.out hcur.out⟩
  by_cases hm40 : m ≤ 40
  case neg =>
   have tq : decide (40 < (m : Int)) = true := decide_eq_true (by omega)
   rw [ha0] at cGa; rw [hb0] at cGb
   clear ha0 hb0
   refine wp_region_held_drew (S := fun W => W.cell? ⟨w.heap.size, 0, none⟩ = some (.slice A n c) ∧ W.cell? ⟨w.heap.size + 1, 0, none⟩ = some (.slice B k d) ∧ W.cell? ⟨xb, 0, none⟩ = some (.int .i64 x.code) ∧ W.cell? ⟨xb, 1, none⟩ = some (.int .i64 x.at_) ∧ W.cell? ⟨xb, 2, none⟩ = some (.slice C m e0) ∧ W.cell? ⟨yb, 0, none⟩ = some (.int .i64 y.code) ∧ W.cell? ⟨yb, 1, none⟩ = some (.int .i64 y.at_) ∧ W.cell? ⟨yb, 2, none⟩ = some (.slice E q g0) ∧ Hid (Cln w2 W)) (by kernel_rfl) ?hS44 (fun hHeld => ?_)
   case hS44 => (try dsimp only); exact ⟨hA2.out.cell 0, hB2.out.cell 0, hX2.out.cell 0, hX2.out.cell 1, hX2.out.cell 2, hY2.out.cell 0, hY2.out.cell 1, hY2.out.cell 2, hcurD⟩
   refine wpAnyH_take (i := 0) (oi := { dst := some 21, op := Op.load 48 (Operand.tmp 3), type := 48, pos := "law.go:111", after := #[], guard := none }) (v := ?v46) rfl (by kernel_rfl) (by kernel_rfl) (by kernel_rfl) (fun _ _ _ h => h) (Or.inl ⟨by rfl, ?hy46⟩) (by assumption) ?rest46
   case hy46 => intro w hSw; (try dsimp only at hSw); go_simp <;> with_reducible rfl
   try simp only [Act.put, List.setIfInBounds_toArray, List.set_cons_zero, List.set_cons_succ]
   refine wpAnyH_take (i := 2) (oi := { dst := some 23, op := Op.load 48 (Operand.tmp 4), type := 48, pos := "law.go:111", after := #[], guard := none }) (v := ?v47) rfl (by kernel_rfl) (by kernel_rfl) (by kernel_rfl) (fun _ _ _ h => h) (Or.inl ⟨by rfl, ?hy47⟩) (by assumption) ?rest47
   case hy47 => intro w hSw; (try dsimp only at hSw); go_simp <;> with_reducible rfl
   try simp only [Act.put, List.setIfInBounds_toArray, List.set_cons_zero, List.set_cons_succ]
   refine wpAnyH_ready (rs := [1]) (by kernel_rfl) (by simp) ?_
   refine AllReadyH.cons (o := { dst := some 22, op := Op.call { callee := Callee.value (Operand.func 27), args := #[Operand.tmp 21], argTypes := #[48] }, type := 3, pos := "law.go:111", after := #[{ on := 0, ground := Ground.data }], guard := none }) rfl (fun K hK => ?_) AllReadyH.nil
   go_simp
   go_at_call 27; with_reducible refine (cGa _ (by assumption)).mono ?_; rintro e w' ⟨rfl, hq⟩
   (try go_wp2_with fail)
   refine hK.out _ _ ?_ (fun hHeld => ?_)
   ·exact heldKeep8 hq (by assumption)
   clear hK K
   try simp only [Act.put, List.setIfInBounds_toArray, List.set_cons_zero, List.set_cons_succ]
   refine wpAnyH_ready (rs := [3]) (by kernel_rfl) (by simp) ?_
   refine AllReadyH.cons (o := { dst := some 24, op := Op.call { callee := Callee.value (Operand.func 27), args := #[Operand.tmp 23], argTypes := #[48] }, type := 3, pos := "law.go:111", after := #[{ on := 2, ground := Ground.data }, { on := 1, ground := Ground.chain }], guard := none }) rfl (fun K hK => ?_) AllReadyH.nil
   go_simp
   go_at_call 27; with_reducible refine (cGb _ (by assumption)).mono ?_; rintro e w3 ⟨rfl, hq⟩
   (try go_wp2_with fail)
   refine hK.out _ _ ?_ (fun hHeld => ?_)
   ·exact heldKeep8 hq (by assumption)
   clear hK K
   try simp only [Act.put, List.setIfInBounds_toArray, List.set_cons_zero, List.set_cons_succ]
   refine wpAnyH_take (i := 4) (oi := { dst := some 25, op := Op.binOp BinOp.add 3 (Operand.tmp 22) (Operand.tmp 24) 3, type := 3, pos := "law.go:111", after := #[{ on := 1, ground := Ground.data }, { on := 3, ground := Ground.data }], guard := none }) (v := ?v48) rfl (by kernel_rfl) (by kernel_rfl) (by kernel_rfl) (fun _ _ _ h => h) (Or.inl ⟨by rfl, ?hy48⟩) (by assumption) ?rest48
   case hy48 => intro w hSw; (try dsimp only at hSw); go_simp <;> with_reducible rfl
   try simp only [Act.put, List.setIfInBounds_toArray, List.set_cons_zero, List.set_cons_succ]
   refine wpAnyH_take (i := 5) (oi := { dst := some 26, op := Op.binOp BinOp.gtr 3 (Operand.tmp 25) (Operand.const (Value.int IntKind.i64 0)) 3, type := 4, pos := "law.go:111", after := #[{ on := 4, ground := Ground.data }], guard := none }) (v := ?v49) rfl (by kernel_rfl) (by kernel_rfl) (by kernel_rfl) (fun _ _ _ h => h) (Or.inl ⟨by rfl, ?hy49⟩) (by assumption) ?rest49
   case hy49 => intro w hSw; (try dsimp only at hSw); go_simp <;> with_reducible rfl
   try simp only [Act.put, List.setIfInBounds_toArray, List.set_cons_zero, List.set_cons_succ]
   refine wpAnyH_take (i := 6) (oi := { dst := some 27, op := Op.move (Operand.tmp 26), type := 4, pos := "law.go:111", after := #[{ on := 5, ground := Ground.data }, { on := 3, ground := Ground.chain }], guard := none }) (v := ?v50) rfl (by kernel_rfl) (by kernel_rfl) (by kernel_rfl) (fun _ _ _ h => h) (Or.inl ⟨by rfl, ?hy50⟩) (by assumption) ?rest50
   case hy50 => intro w hSw; (try dsimp only at hSw); go_simp <;> with_reducible rfl
   try simp only [Act.put, List.setIfInBounds_toArray, List.set_cons_zero, List.set_cons_succ]
   refine wpAnyH_take (i := 7) (oi := { dst := some 28, op := Op.fieldAddr 76 (Operand.tmp 7) 2, type := 0, pos := "law.go:111", after := #[{ on := 6, ground := Ground.guard }], guard := some (6, false) }) (v := ?v51) rfl (by kernel_rfl) (by kernel_rfl) (by kernel_rfl) (fun _ _ _ h => h) (Or.inl ⟨by rfl, ?hy51⟩) (by assumption) ?rest51
   case hy51 => intro w hSw; (try dsimp only at hSw); go_simp <;> with_reducible rfl
   try simp only [Act.put, List.setIfInBounds_toArray, List.set_cons_zero, List.set_cons_succ]
   refine wpAnyH_take (i := 8) (oi := { dst := some 29, op := Op.load 74 (Operand.tmp 28), type := 74, pos := "law.go:111", after := #[{ on := 7, ground := Ground.data }, { on := 6, ground := Ground.guard }], guard := some (6, false) }) (v := ?v52) rfl (by kernel_rfl) (by kernel_rfl) (by kernel_rfl) (fun _ _ _ h => h) (Or.inl ⟨by rfl, ?hy52⟩) (by assumption) ?rest52
   case hy52 => intro w hSw; (try dsimp only at hSw); go_simp <;> with_reducible rfl
   try simp only [Act.put, List.setIfInBounds_toArray, List.set_cons_zero, List.set_cons_succ]
   refine wpAnyH_take (i := 9) (oi := { dst := some 30, op := Op.call { callee := Callee.builtin Builtin.len, args := #[Operand.tmp 29], argTypes := #[74] }, type := 3, pos := "law.go:111", after := #[{ on := 8, ground := Ground.data }, { on := 6, ground := Ground.guard }], guard := some (6, false) }) (v := ?v53) rfl (by kernel_rfl) (by kernel_rfl) (by kernel_rfl) (fun _ _ _ h => h) (Or.inl ⟨by rfl, ?hy53⟩) (by assumption) ?rest53
   case hy53 => intro w hSw; (try dsimp only at hSw); go_simp <;> with_reducible rfl
   try simp only [Act.put, List.setIfInBounds_toArray, List.set_cons_zero, List.set_cons_succ]
   refine wpAnyH_take (i := 10) (oi := { dst := some 31, op := Op.binOp BinOp.gtr 3 (Operand.tmp 30) (Operand.const (Value.int IntKind.i64 40)) 3, type := 4, pos := "law.go:111", after := #[{ on := 9, ground := Ground.data }, { on := 6, ground := Ground.guard }], guard := some (6, false) }) (v := ?v54) rfl (by kernel_rfl) (by kernel_rfl) (by kernel_rfl) (fun _ _ _ h => h) (Or.inl ⟨by rfl, ?hy54⟩) (by assumption) ?rest54
   case hy54 => intro w hSw; (try dsimp only at hSw); go_simp <;> with_reducible rfl
   try simp only [Act.put, List.setIfInBounds_toArray, List.set_cons_zero, List.set_cons_succ]
   refine wpAnyH_take (i := 11) (oi := { dst := some 32, op := Op.pick (Operand.tmp 27) (Operand.const (Value.bool true)) (Operand.tmp 31), type := 4, pos := "law.go:111", after := #[{ on := 6, ground := Ground.data }, { on := 10, ground := Ground.data }], guard := none }) (v := ?v55) rfl (by kernel_rfl) (by kernel_rfl) (by kernel_rfl) (fun _ _ _ h => h) (Or.inl ⟨by rfl, ?hy55⟩) (by assumption) ?rest55
   case hy55 => intro w hSw; (try dsimp only at hSw); go_simp <;> with_reducible rfl
   try simp only [Act.put, List.setIfInBounds_toArray, List.set_cons_zero, List.set_cons_succ]
   refine wpAnyH_take (i := 12) (oi := { dst := some 33, op := Op.move (Operand.tmp 32), type := 4, pos := "law.go:111", after := #[{ on := 11, ground := Ground.data }, { on := 6, ground := Ground.chain }], guard := none }) (v := ?v56) rfl (by kernel_rfl) (by kernel_rfl) (by kernel_rfl) (fun _ _ _ h => h) (Or.inl ⟨by rfl, ?hy56⟩) (by assumption) ?rest56
   case hy56 => intro w hSw; (try dsimp only at hSw); go_simp <;> with_reducible rfl
   try simp only [Act.put, List.setIfInBounds_toArray, List.set_cons_zero, List.set_cons_succ]
   refine wpAnyH_take (i := 13) (oi := { dst := some 34, op := Op.fieldAddr 76 (Operand.tmp 8) 2, type := 0, pos := "law.go:111", after := #[{ on := 12, ground := Ground.guard }], guard := some (12, false) }) (v := undef) rfl (by kernel_rfl) (by kernel_rfl) (by kernel_rfl) (fun _ _ _ h => h) (Or.inr ⟨by rfl, rfl⟩) (by assumption) ?_
   try simp only [Act.put, List.setIfInBounds_toArray, List.set_cons_zero, List.set_cons_succ]
   refine wpAnyH_take (i := 14) (oi := { dst := some 35, op := Op.load 74 (Operand.tmp 34), type := 74, pos := "law.go:111", after := #[{ on := 13, ground := Ground.data }, { on := 12, ground := Ground.guard }], guard := some (12, false) }) (v := undef) rfl (by kernel_rfl) (by kernel_rfl) (by kernel_rfl) (fun _ _ _ h => h) (Or.inr ⟨by rfl, rfl⟩) (by assumption) ?_
   try simp only [Act.put, List.setIfInBounds_toArray, List.set_cons_zero, List.set_cons_succ]
   refine wpAnyH_take (i := 15) (oi := { dst := some 36, op := Op.call { callee := Callee.builtin Builtin.len, args := #[Operand.tmp 35], argTypes := #[74] }, type := 3, pos := "law.go:111", after := #[{ on := 14, ground := Ground.data }, { on := 12, ground := Ground.guard }], guard := some (12, false) }) (v := undef) rfl (by kernel_rfl) (by kernel_rfl) (by kernel_rfl) (fun _ _ _ h => h) (Or.inr ⟨by rfl, rfl⟩) (by assumption) ?_
   try simp only [Act.put, List.setIfInBounds_toArray, List.set_cons_zero, List.set_cons_succ]
   refine wpAnyH_take (i := 16) (oi := { dst := some 37, op := Op.binOp BinOp.gtr 3 (Operand.tmp 36) (Operand.const (Value.int IntKind.i64 40)) 3, type := 4, pos := "law.go:111", after := #[{ on := 15, ground := Ground.data }, { on := 12, ground := Ground.guard }], guard := some (12, false) }) (v := undef) rfl (by kernel_rfl) (by kernel_rfl) (by kernel_rfl) (fun _ _ _ h => h) (Or.inr ⟨by rfl, rfl⟩) (by assumption) ?_
   try simp only [Act.put, List.setIfInBounds_toArray, List.set_cons_zero, List.set_cons_succ]
   refine wpAnyH_take (i := 17) (oi := { dst := some 38, op := Op.pick (Operand.tmp 33) (Operand.const (Value.bool true)) (Operand.tmp 37), type := 4, pos := "law.go:111", after := #[{ on := 12, ground := Ground.data }, { on := 16, ground := Ground.data }], guard := none }) (v := ?v57) rfl (by kernel_rfl) (by kernel_rfl) (by kernel_rfl) (fun _ _ _ h => h) (Or.inl ⟨by rfl, ?hy57⟩) (by assumption) ?rest57
   case hy57 => intro w hSw; (try dsimp only at hSw); go_simp <;> with_reducible rfl
   try simp only [Act.put, List.setIfInBounds_toArray, List.set_cons_zero, List.set_cons_succ]
   refine wpAnyH_done (by kernel_rfl) ?_ _
   have hcur := Lib.hid hHeld.2.2.2.2.2.2.2.2.out
   clear hHeld hcurD
   go_wp2_with fail
   go_ret
   exact ⟨rfl, cln_trans hcl2.out hcur.out⟩
  have tq : decide (40 < (m : Int)) = false := decide_eq_false (by omega)
  by_cases hq40 : q ≤ 40
  case neg =>
   have tq2 : decide (40 < (q : Int)) = true := decide_eq_true (by omega)
   rw [ha0] at cGa; rw [hb0] at cGb
   clear ha0 hb0
   refine wp_region_held_drew (S := fun W => W.cell? ⟨w.heap.size, 0, none⟩ = some (.slice A n c) ∧ W.cell? ⟨w.heap.size + 1, 0, none⟩ = some (.slice B k d) ∧ W.cell? ⟨xb, 0, none⟩ = some (.int .i64 x.code) ∧ W.cell? ⟨xb, 1, none⟩ = some (.int .i64 x.at_) ∧ W.cell? ⟨xb, 2, none⟩ = some (.slice C m e0) ∧ W.cell? ⟨yb, 0, none⟩ = some (.int .i64 y.code) ∧ W.cell? ⟨yb, 1, none⟩ = some (.int .i64 y.at_) ∧ W.cell? ⟨yb, 2, none⟩ = some (.slice E q g0) ∧ Hid (Cln w2 W)) (by kernel_rfl) ?hS57 (fun hHeld => ?_)
   case hS57 => (try dsimp only); exact ⟨hA2.out.cell 0, hB2.out.cell 0, hX2.out.cell 0, hX2.out.cell 1, hX2.out.cell 2, hY2.out.cell 0, hY2.out.cell 1, hY2.out.cell 2, hcurD⟩
   refine wpAnyH_take (i := 0) (oi := { dst := some 21, op := Op.load 48 (Operand.tmp 3), type := 48, pos := "law.go:111", after := #[], guard := none }) (v := ?v59) rfl (by kernel_rfl) (by kernel_rfl) (by kernel_rfl) (fun _ _ _ h => h) (Or.inl ⟨by rfl, ?hy59⟩) (by assumption) ?rest59
   case hy59 => intro w hSw; (try dsimp only at hSw); go_simp <;> with_reducible rfl
   try simp only [Act.put, List.setIfInBounds_toArray, List.set_cons_zero, List.set_cons_succ]
   refine wpAnyH_take (i := 2) (oi := { dst := some 23, op := Op.load 48 (Operand.tmp 4), type := 48, pos := "law.go:111", after := #[], guard := none }) (v := ?v60) rfl (by kernel_rfl) (by kernel_rfl) (by kernel_rfl) (fun _ _ _ h => h) (Or.inl ⟨by rfl, ?hy60⟩) (by assumption) ?rest60
   case hy60 => intro w hSw; (try dsimp only at hSw); go_simp <;> with_reducible rfl
   try simp only [Act.put, List.setIfInBounds_toArray, List.set_cons_zero, List.set_cons_succ]
   refine wpAnyH_ready (rs := [1]) (by kernel_rfl) (by simp) ?_
   refine AllReadyH.cons (o := { dst := some 22, op := Op.call { callee := Callee.value (Operand.func 27), args := #[Operand.tmp 21], argTypes := #[48] }, type := 3, pos := "law.go:111", after := #[{ on := 0, ground := Ground.data }], guard := none }) rfl (fun K hK => ?_) AllReadyH.nil
   go_simp
   go_at_call 27; with_reducible refine (cGa _ (by assumption)).mono ?_; rintro e w' ⟨rfl, hq⟩
   (try go_wp2_with fail)
   refine hK.out _ _ ?_ (fun hHeld => ?_)
   ·exact heldKeep8 hq (by assumption)
   clear hK K
   try simp only [Act.put, List.setIfInBounds_toArray, List.set_cons_zero, List.set_cons_succ]
   refine wpAnyH_ready (rs := [3]) (by kernel_rfl) (by simp) ?_
   refine AllReadyH.cons (o := { dst := some 24, op := Op.call { callee := Callee.value (Operand.func 27), args := #[Operand.tmp 23], argTypes := #[48] }, type := 3, pos := "law.go:111", after := #[{ on := 2, ground := Ground.data }, { on := 1, ground := Ground.chain }], guard := none }) rfl (fun K hK => ?_) AllReadyH.nil
   go_simp
   go_at_call 27; with_reducible refine (cGb _ (by assumption)).mono ?_; rintro e w3 ⟨rfl, hq⟩
   (try go_wp2_with fail)
   refine hK.out _ _ ?_ (fun hHeld => ?_)
   ·exact heldKeep8 hq (by assumption)
   clear hK K
   try simp only [Act.put, List.setIfInBounds_toArray, List.set_cons_zero, List.set_cons_succ]
   refine wpAnyH_take (i := 4) (oi := { dst := some 25, op := Op.binOp BinOp.add 3 (Operand.tmp 22) (Operand.tmp 24) 3, type := 3, pos := "law.go:111", after := #[{ on := 1, ground := Ground.data }, { on := 3, ground := Ground.data }], guard := none }) (v := ?v61) rfl (by kernel_rfl) (by kernel_rfl) (by kernel_rfl) (fun _ _ _ h => h) (Or.inl ⟨by rfl, ?hy61⟩) (by assumption) ?rest61
   case hy61 => intro w hSw; (try dsimp only at hSw); go_simp <;> with_reducible rfl
   try simp only [Act.put, List.setIfInBounds_toArray, List.set_cons_zero, List.set_cons_succ]
   refine wpAnyH_take (i := 5) (oi := { dst := some 26, op := Op.binOp BinOp.gtr 3 (Operand.tmp 25) (Operand.const (Value.int IntKind.i64 0)) 3, type := 4, pos := "law.go:111", after := #[{ on := 4, ground := Ground.data }], guard := none }) (v := ?v62) rfl (by kernel_rfl) (by kernel_rfl) (by kernel_rfl) (fun _ _ _ h => h) (Or.inl ⟨by rfl, ?hy62⟩) (by assumption) ?rest62
   case hy62 => intro w hSw; (try dsimp only at hSw); go_simp <;> with_reducible rfl
   try simp only [Act.put, List.setIfInBounds_toArray, List.set_cons_zero, List.set_cons_succ]
   refine wpAnyH_take (i := 6) (oi := { dst := some 27, op := Op.move (Operand.tmp 26), type := 4, pos := "law.go:111", after := #[{ on := 5, ground := Ground.data }, { on := 3, ground := Ground.chain }], guard := none }) (v := ?v63) rfl (by kernel_rfl) (by kernel_rfl) (by kernel_rfl) (fun _ _ _ h => h) (Or.inl ⟨by rfl, ?hy63⟩) (by assumption) ?rest63
   case hy63 => intro w hSw; (try dsimp only at hSw); go_simp <;> with_reducible rfl
   try simp only [Act.put, List.setIfInBounds_toArray, List.set_cons_zero, List.set_cons_succ]
   refine wpAnyH_take (i := 7) (oi := { dst := some 28, op := Op.fieldAddr 76 (Operand.tmp 7) 2, type := 0, pos := "law.go:111", after := #[{ on := 6, ground := Ground.guard }], guard := some (6, false) }) (v := ?v64) rfl (by kernel_rfl) (by kernel_rfl) (by kernel_rfl) (fun _ _ _ h => h) (Or.inl ⟨by rfl, ?hy64⟩) (by assumption) ?rest64
   case hy64 => intro w hSw; (try dsimp only at hSw); go_simp <;> with_reducible rfl
   try simp only [Act.put, List.setIfInBounds_toArray, List.set_cons_zero, List.set_cons_succ]
   refine wpAnyH_take (i := 8) (oi := { dst := some 29, op := Op.load 74 (Operand.tmp 28), type := 74, pos := "law.go:111", after := #[{ on := 7, ground := Ground.data }, { on := 6, ground := Ground.guard }], guard := some (6, false) }) (v := ?v65) rfl (by kernel_rfl) (by kernel_rfl) (by kernel_rfl) (fun _ _ _ h => h) (Or.inl ⟨by rfl, ?hy65⟩) (by assumption) ?rest65
   case hy65 => intro w hSw; (try dsimp only at hSw); go_simp <;> with_reducible rfl
   try simp only [Act.put, List.setIfInBounds_toArray, List.set_cons_zero, List.set_cons_succ]
   refine wpAnyH_take (i := 9) (oi := { dst := some 30, op := Op.call { callee := Callee.builtin Builtin.len, args := #[Operand.tmp 29], argTypes := #[74] }, type := 3, pos := "law.go:111", after := #[{ on := 8, ground := Ground.data }, { on := 6, ground := Ground.guard }], guard := some (6, false) }) (v := ?v66) rfl (by kernel_rfl) (by kernel_rfl) (by kernel_rfl) (fun _ _ _ h => h) (Or.inl ⟨by rfl, ?hy66⟩) (by assumption) ?rest66
   case hy66 => intro w hSw; (try dsimp only at hSw); go_simp <;> with_reducible rfl
   try simp only [Act.put, List.setIfInBounds_toArray, List.set_cons_zero, List.set_cons_succ]
   refine wpAnyH_take (i := 10) (oi := { dst := some 31, op := Op.binOp BinOp.gtr 3 (Operand.tmp 30) (Operand.const (Value.int IntKind.i64 40)) 3, type := 4, pos := "law.go:111", after := #[{ on := 9, ground := Ground.data }, { on := 6, ground := Ground.guard }], guard := some (6, false) }) (v := ?v67) rfl (by kernel_rfl) (by kernel_rfl) (by kernel_rfl) (fun _ _ _ h => h) (Or.inl ⟨by rfl, ?hy67⟩) (by assumption) ?rest67
   case hy67 => intro w hSw; (try dsimp only at hSw); go_simp <;> with_reducible rfl
   try simp only [Act.put, List.setIfInBounds_toArray, List.set_cons_zero, List.set_cons_succ]
   refine wpAnyH_take (i := 11) (oi := { dst := some 32, op := Op.pick (Operand.tmp 27) (Operand.const (Value.bool true)) (Operand.tmp 31), type := 4, pos := "law.go:111", after := #[{ on := 6, ground := Ground.data }, { on := 10, ground := Ground.data }], guard := none }) (v := ?v68) rfl (by kernel_rfl) (by kernel_rfl) (by kernel_rfl) (fun _ _ _ h => h) (Or.inl ⟨by rfl, ?hy68⟩) (by assumption) ?rest68
   case hy68 => intro w hSw; (try dsimp only at hSw); go_simp <;> with_reducible rfl
   try simp only [Act.put, List.setIfInBounds_toArray, List.set_cons_zero, List.set_cons_succ]
   refine wpAnyH_take (i := 12) (oi := { dst := some 33, op := Op.move (Operand.tmp 32), type := 4, pos := "law.go:111", after := #[{ on := 11, ground := Ground.data }, { on := 6, ground := Ground.chain }], guard := none }) (v := ?v69) rfl (by kernel_rfl) (by kernel_rfl) (by kernel_rfl) (fun _ _ _ h => h) (Or.inl ⟨by rfl, ?hy69⟩) (by assumption) ?rest69
   case hy69 => intro w hSw; (try dsimp only at hSw); go_simp <;> with_reducible rfl
   try simp only [Act.put, List.setIfInBounds_toArray, List.set_cons_zero, List.set_cons_succ]
   refine wpAnyH_take (i := 13) (oi := { dst := some 34, op := Op.fieldAddr 76 (Operand.tmp 8) 2, type := 0, pos := "law.go:111", after := #[{ on := 12, ground := Ground.guard }], guard := some (12, false) }) (v := ?v70) rfl (by kernel_rfl) (by kernel_rfl) (by kernel_rfl) (fun _ _ _ h => h) (Or.inl ⟨by rfl, ?hy70⟩) (by assumption) ?rest70
   case hy70 => intro w hSw; (try dsimp only at hSw); go_simp <;> with_reducible rfl
   try simp only [Act.put, List.setIfInBounds_toArray, List.set_cons_zero, List.set_cons_succ]
   refine wpAnyH_take (i := 14) (oi := { dst := some 35, op := Op.load 74 (Operand.tmp 34), type := 74, pos := "law.go:111", after := #[{ on := 13, ground := Ground.data }, { on := 12, ground := Ground.guard }], guard := some (12, false) }) (v := ?v71) rfl (by kernel_rfl) (by kernel_rfl) (by kernel_rfl) (fun _ _ _ h => h) (Or.inl ⟨by rfl, ?hy71⟩) (by assumption) ?rest71
   case hy71 => intro w hSw; (try dsimp only at hSw); go_simp <;> with_reducible rfl
   try simp only [Act.put, List.setIfInBounds_toArray, List.set_cons_zero, List.set_cons_succ]
   refine wpAnyH_take (i := 15) (oi := { dst := some 36, op := Op.call { callee := Callee.builtin Builtin.len, args := #[Operand.tmp 35], argTypes := #[74] }, type := 3, pos := "law.go:111", after := #[{ on := 14, ground := Ground.data }, { on := 12, ground := Ground.guard }], guard := some (12, false) }) (v := ?v72) rfl (by kernel_rfl) (by kernel_rfl) (by kernel_rfl) (fun _ _ _ h => h) (Or.inl ⟨by rfl, ?hy72⟩) (by assumption) ?rest72
   case hy72 => intro w hSw; (try dsimp only at hSw); go_simp <;> with_reducible rfl
   try simp only [Act.put, List.setIfInBounds_toArray, List.set_cons_zero, List.set_cons_succ]
   refine wpAnyH_take (i := 16) (oi := { dst := some 37, op := Op.binOp BinOp.gtr 3 (Operand.tmp 36) (Operand.const (Value.int IntKind.i64 40)) 3, type := 4, pos := "law.go:111", after := #[{ on := 15, ground := Ground.data }, { on := 12, ground := Ground.guard }], guard := some (12, false) }) (v := ?v73) rfl (by kernel_rfl) (by kernel_rfl) (by kernel_rfl) (fun _ _ _ h => h) (Or.inl ⟨by rfl, ?hy73⟩) (by assumption) ?rest73
   case hy73 => intro w hSw; (try dsimp only at hSw); go_simp <;> with_reducible rfl
   try simp only [Act.put, List.setIfInBounds_toArray, List.set_cons_zero, List.set_cons_succ]
   refine wpAnyH_take (i := 17) (oi := { dst := some 38, op := Op.pick (Operand.tmp 33) (Operand.const (Value.bool true)) (Operand.tmp 37), type := 4, pos := "law.go:111", after := #[{ on := 12, ground := Ground.data }, { on := 16, ground := Ground.data }], guard := none }) (v := ?v74) rfl (by kernel_rfl) (by kernel_rfl) (by kernel_rfl) (fun _ _ _ h => h) (Or.inl ⟨by rfl, ?hy74⟩) (by assumption) ?rest74
   case hy74 => intro w hSw; (try dsimp only at hSw); go_simp <;> with_reducible rfl
   try simp only [Act.put, List.setIfInBounds_toArray, List.set_cons_zero, List.set_cons_succ]
   refine wpAnyH_done (by kernel_rfl) ?_ _
   have hcur := Lib.hid hHeld.2.2.2.2.2.2.2.2.out
   clear hHeld hcurD
   go_wp2_with fail
   go_ret
   exact ⟨rfl, cln_trans hcl2.out hcur.out⟩
  have tq2 : decide (40 < (q : Int)) = false := decide_eq_false (by omega)
  have hba := bigD_le ha0
  have hbb := bigD_le hb0
  rw [ha0] at cGa; rw [hb0] at cGb
  clear ha0 hb0
  refine wp_region_held_drew (S := fun W => W.cell? ⟨w.heap.size, 0, none⟩ = some (.slice A n c) ∧ W.cell? ⟨w.heap.size + 1, 0, none⟩ = some (.slice B k d) ∧ W.cell? ⟨xb, 0, none⟩ = some (.int .i64 x.code) ∧ W.cell? ⟨xb, 1, none⟩ = some (.int .i64 x.at_) ∧ W.cell? ⟨xb, 2, none⟩ = some (.slice C m e0) ∧ W.cell? ⟨yb, 0, none⟩ = some (.int .i64 y.code) ∧ W.cell? ⟨yb, 1, none⟩ = some (.int .i64 y.at_) ∧ W.cell? ⟨yb, 2, none⟩ = some (.slice E q g0) ∧ Hid (Cln w2 W)) (by kernel_rfl) ?hS74 (fun hHeld => ?_)
  case hS74 => (try dsimp only); exact ⟨hA2.out.cell 0, hB2.out.cell 0, hX2.out.cell 0, hX2.out.cell 1, hX2.out.cell 2, hY2.out.cell 0, hY2.out.cell 1, hY2.out.cell 2, hcurD⟩
  refine wpAnyH_take (i := 0) (oi := { dst := some 21, op := Op.load 48 (Operand.tmp 3), type := 48, pos := "law.go:111", after := #[], guard := none }) (v := ?v76) rfl (by kernel_rfl) (by kernel_rfl) (by kernel_rfl) (fun _ _ _ h => h) (Or.inl ⟨by rfl, ?hy76⟩) (by assumption) ?rest76
  case hy76 => intro w hSw; (try dsimp only at hSw); go_simp <;> with_reducible rfl
  try simp only [Act.put, List.setIfInBounds_toArray, List.set_cons_zero, List.set_cons_succ]
  refine wpAnyH_take (i := 2) (oi := { dst := some 23, op := Op.load 48 (Operand.tmp 4), type := 48, pos := "law.go:111", after := #[], guard := none }) (v := ?v77) rfl (by kernel_rfl) (by kernel_rfl) (by kernel_rfl) (fun _ _ _ h => h) (Or.inl ⟨by rfl, ?hy77⟩) (by assumption) ?rest77
  case hy77 => intro w hSw; (try dsimp only at hSw); go_simp <;> with_reducible rfl
  try simp only [Act.put, List.setIfInBounds_toArray, List.set_cons_zero, List.set_cons_succ]
  refine wpAnyH_ready (rs := [1]) (by kernel_rfl) (by simp) ?_
  refine AllReadyH.cons (o := { dst := some 22, op := Op.call { callee := Callee.value (Operand.func 27), args := #[Operand.tmp 21], argTypes := #[48] }, type := 3, pos := "law.go:111", after := #[{ on := 0, ground := Ground.data }], guard := none }) rfl (fun K hK => ?_) AllReadyH.nil
  go_simp
  go_at_call 27; with_reducible refine (cGa _ (by assumption)).mono ?_; rintro e w' ⟨rfl, hq⟩
  (try go_wp2_with fail)
  refine hK.out _ _ ?_ (fun hHeld => ?_)
  ·exact heldKeep8 hq (by assumption)
  clear hK K
  try simp only [Act.put, List.setIfInBounds_toArray, List.set_cons_zero, List.set_cons_succ]
  refine wpAnyH_ready (rs := [3]) (by kernel_rfl) (by simp) ?_
  refine AllReadyH.cons (o := { dst := some 24, op := Op.call { callee := Callee.value (Operand.func 27), args := #[Operand.tmp 23], argTypes := #[48] }, type := 3, pos := "law.go:111", after := #[{ on := 2, ground := Ground.data }, { on := 1, ground := Ground.chain }], guard := none }) rfl (fun K hK => ?_) AllReadyH.nil
  go_simp
  go_at_call 27; with_reducible refine (cGb _ (by assumption)).mono ?_; rintro e w3 ⟨rfl, hq⟩
  (try go_wp2_with fail)
  refine hK.out _ _ ?_ (fun hHeld => ?_)
  ·exact heldKeep8 hq (by assumption)
  clear hK K
  try simp only [Act.put, List.setIfInBounds_toArray, List.set_cons_zero, List.set_cons_succ]
  refine wpAnyH_take (i := 4) (oi := { dst := some 25, op := Op.binOp BinOp.add 3 (Operand.tmp 22) (Operand.tmp 24) 3, type := 3, pos := "law.go:111", after := #[{ on := 1, ground := Ground.data }, { on := 3, ground := Ground.data }], guard := none }) (v := ?v78) rfl (by kernel_rfl) (by kernel_rfl) (by kernel_rfl) (fun _ _ _ h => h) (Or.inl ⟨by rfl, ?hy78⟩) (by assumption) ?rest78
  case hy78 => intro w hSw; (try dsimp only at hSw); go_simp <;> with_reducible rfl
  try simp only [Act.put, List.setIfInBounds_toArray, List.set_cons_zero, List.set_cons_succ]
  refine wpAnyH_take (i := 5) (oi := { dst := some 26, op := Op.binOp BinOp.gtr 3 (Operand.tmp 25) (Operand.const (Value.int IntKind.i64 0)) 3, type := 4, pos := "law.go:111", after := #[{ on := 4, ground := Ground.data }], guard := none }) (v := ?v79) rfl (by kernel_rfl) (by kernel_rfl) (by kernel_rfl) (fun _ _ _ h => h) (Or.inl ⟨by rfl, ?hy79⟩) (by assumption) ?rest79
  case hy79 => intro w hSw; (try dsimp only at hSw); go_simp <;> with_reducible rfl
  try simp only [Act.put, List.setIfInBounds_toArray, List.set_cons_zero, List.set_cons_succ]
  refine wpAnyH_take (i := 6) (oi := { dst := some 27, op := Op.move (Operand.tmp 26), type := 4, pos := "law.go:111", after := #[{ on := 5, ground := Ground.data }, { on := 3, ground := Ground.chain }], guard := none }) (v := ?v80) rfl (by kernel_rfl) (by kernel_rfl) (by kernel_rfl) (fun _ _ _ h => h) (Or.inl ⟨by rfl, ?hy80⟩) (by assumption) ?rest80
  case hy80 => intro w hSw; (try dsimp only at hSw); go_simp <;> with_reducible rfl
  try simp only [Act.put, List.setIfInBounds_toArray, List.set_cons_zero, List.set_cons_succ]
  refine wpAnyH_take (i := 7) (oi := { dst := some 28, op := Op.fieldAddr 76 (Operand.tmp 7) 2, type := 0, pos := "law.go:111", after := #[{ on := 6, ground := Ground.guard }], guard := some (6, false) }) (v := ?v81) rfl (by kernel_rfl) (by kernel_rfl) (by kernel_rfl) (fun _ _ _ h => h) (Or.inl ⟨by rfl, ?hy81⟩) (by assumption) ?rest81
  case hy81 => intro w hSw; (try dsimp only at hSw); go_simp <;> with_reducible rfl
  try simp only [Act.put, List.setIfInBounds_toArray, List.set_cons_zero, List.set_cons_succ]
  refine wpAnyH_take (i := 8) (oi := { dst := some 29, op := Op.load 74 (Operand.tmp 28), type := 74, pos := "law.go:111", after := #[{ on := 7, ground := Ground.data }, { on := 6, ground := Ground.guard }], guard := some (6, false) }) (v := ?v82) rfl (by kernel_rfl) (by kernel_rfl) (by kernel_rfl) (fun _ _ _ h => h) (Or.inl ⟨by rfl, ?hy82⟩) (by assumption) ?rest82
  case hy82 => intro w hSw; (try dsimp only at hSw); go_simp <;> with_reducible rfl
  try simp only [Act.put, List.setIfInBounds_toArray, List.set_cons_zero, List.set_cons_succ]
  refine wpAnyH_take (i := 9) (oi := { dst := some 30, op := Op.call { callee := Callee.builtin Builtin.len, args := #[Operand.tmp 29], argTypes := #[74] }, type := 3, pos := "law.go:111", after := #[{ on := 8, ground := Ground.data }, { on := 6, ground := Ground.guard }], guard := some (6, false) }) (v := ?v83) rfl (by kernel_rfl) (by kernel_rfl) (by kernel_rfl) (fun _ _ _ h => h) (Or.inl ⟨by rfl, ?hy83⟩) (by assumption) ?rest83
  case hy83 => intro w hSw; (try dsimp only at hSw); go_simp <;> with_reducible rfl
  try simp only [Act.put, List.setIfInBounds_toArray, List.set_cons_zero, List.set_cons_succ]
  refine wpAnyH_take (i := 10) (oi := { dst := some 31, op := Op.binOp BinOp.gtr 3 (Operand.tmp 30) (Operand.const (Value.int IntKind.i64 40)) 3, type := 4, pos := "law.go:111", after := #[{ on := 9, ground := Ground.data }, { on := 6, ground := Ground.guard }], guard := some (6, false) }) (v := ?v84) rfl (by kernel_rfl) (by kernel_rfl) (by kernel_rfl) (fun _ _ _ h => h) (Or.inl ⟨by rfl, ?hy84⟩) (by assumption) ?rest84
  case hy84 => intro w hSw; (try dsimp only at hSw); go_simp <;> with_reducible rfl
  try simp only [Act.put, List.setIfInBounds_toArray, List.set_cons_zero, List.set_cons_succ]
  refine wpAnyH_take (i := 11) (oi := { dst := some 32, op := Op.pick (Operand.tmp 27) (Operand.const (Value.bool true)) (Operand.tmp 31), type := 4, pos := "law.go:111", after := #[{ on := 6, ground := Ground.data }, { on := 10, ground := Ground.data }], guard := none }) (v := ?v85) rfl (by kernel_rfl) (by kernel_rfl) (by kernel_rfl) (fun _ _ _ h => h) (Or.inl ⟨by rfl, ?hy85⟩) (by assumption) ?rest85
  case hy85 => intro w hSw; (try dsimp only at hSw); go_simp <;> with_reducible rfl
  try simp only [Act.put, List.setIfInBounds_toArray, List.set_cons_zero, List.set_cons_succ]
  refine wpAnyH_take (i := 12) (oi := { dst := some 33, op := Op.move (Operand.tmp 32), type := 4, pos := "law.go:111", after := #[{ on := 11, ground := Ground.data }, { on := 6, ground := Ground.chain }], guard := none }) (v := ?v86) rfl (by kernel_rfl) (by kernel_rfl) (by kernel_rfl) (fun _ _ _ h => h) (Or.inl ⟨by rfl, ?hy86⟩) (by assumption) ?rest86
  case hy86 => intro w hSw; (try dsimp only at hSw); go_simp <;> with_reducible rfl
  try simp only [Act.put, List.setIfInBounds_toArray, List.set_cons_zero, List.set_cons_succ]
  refine wpAnyH_take (i := 13) (oi := { dst := some 34, op := Op.fieldAddr 76 (Operand.tmp 8) 2, type := 0, pos := "law.go:111", after := #[{ on := 12, ground := Ground.guard }], guard := some (12, false) }) (v := ?v87) rfl (by kernel_rfl) (by kernel_rfl) (by kernel_rfl) (fun _ _ _ h => h) (Or.inl ⟨by rfl, ?hy87⟩) (by assumption) ?rest87
  case hy87 => intro w hSw; (try dsimp only at hSw); go_simp <;> with_reducible rfl
  try simp only [Act.put, List.setIfInBounds_toArray, List.set_cons_zero, List.set_cons_succ]
  refine wpAnyH_take (i := 14) (oi := { dst := some 35, op := Op.load 74 (Operand.tmp 34), type := 74, pos := "law.go:111", after := #[{ on := 13, ground := Ground.data }, { on := 12, ground := Ground.guard }], guard := some (12, false) }) (v := ?v88) rfl (by kernel_rfl) (by kernel_rfl) (by kernel_rfl) (fun _ _ _ h => h) (Or.inl ⟨by rfl, ?hy88⟩) (by assumption) ?rest88
  case hy88 => intro w hSw; (try dsimp only at hSw); go_simp <;> with_reducible rfl
  try simp only [Act.put, List.setIfInBounds_toArray, List.set_cons_zero, List.set_cons_succ]
  refine wpAnyH_take (i := 15) (oi := { dst := some 36, op := Op.call { callee := Callee.builtin Builtin.len, args := #[Operand.tmp 35], argTypes := #[74] }, type := 3, pos := "law.go:111", after := #[{ on := 14, ground := Ground.data }, { on := 12, ground := Ground.guard }], guard := some (12, false) }) (v := ?v89) rfl (by kernel_rfl) (by kernel_rfl) (by kernel_rfl) (fun _ _ _ h => h) (Or.inl ⟨by rfl, ?hy89⟩) (by assumption) ?rest89
  case hy89 => intro w hSw; (try dsimp only at hSw); go_simp <;> with_reducible rfl
  try simp only [Act.put, List.setIfInBounds_toArray, List.set_cons_zero, List.set_cons_succ]
  refine wpAnyH_take (i := 16) (oi := { dst := some 37, op := Op.binOp BinOp.gtr 3 (Operand.tmp 36) (Operand.const (Value.int IntKind.i64 40)) 3, type := 4, pos := "law.go:111", after := #[{ on := 15, ground := Ground.data }, { on := 12, ground := Ground.guard }], guard := some (12, false) }) (v := ?v90) rfl (by kernel_rfl) (by kernel_rfl) (by kernel_rfl) (fun _ _ _ h => h) (Or.inl ⟨by rfl, ?hy90⟩) (by assumption) ?rest90
  case hy90 => intro w hSw; (try dsimp only at hSw); go_simp <;> with_reducible rfl
  try simp only [Act.put, List.setIfInBounds_toArray, List.set_cons_zero, List.set_cons_succ]
  refine wpAnyH_take (i := 17) (oi := { dst := some 38, op := Op.pick (Operand.tmp 33) (Operand.const (Value.bool true)) (Operand.tmp 37), type := 4, pos := "law.go:111", after := #[{ on := 12, ground := Ground.data }, { on := 16, ground := Ground.data }], guard := none }) (v := ?v91) rfl (by kernel_rfl) (by kernel_rfl) (by kernel_rfl) (fun _ _ _ h => h) (Or.inl ⟨by rfl, ?hy91⟩) (by assumption) ?rest91
  case hy91 => intro w hSw; (try dsimp only at hSw); go_simp <;> with_reducible rfl
  try simp only [Act.put, List.setIfInBounds_toArray, List.set_cons_zero, List.set_cons_succ]
  refine wpAnyH_done (by kernel_rfl) ?_ _
  have hcur := Lib.hid hHeld.2.2.2.2.2.2.2.2.out
  clear hHeld hcurD cGa cGb tq tq2 tw0 tw1 tw2
  have hA3 := Lib.hid (hA2.out.cln hcur.out); have hB3 := Lib.hid (hB2.out.cln hcur.out); have hX3 := Lib.hid (hX2.out.cln hcur.out); have hY3 := Lib.hid (hY2.out.cln hcur.out)
  have hr3 := Lib.hid (hr2.out.cln hcur.out); have hs3 := Lib.hid (hs2.out.cln hcur.out); have hx3 := Lib.hid (hx2.out.cln hcur.out); have hy3 := Lib.hid (hy2.out.cln hcur.out)
  have hcl3 := Lib.hid (cln_trans hcl2.out hcur.out)
  clear hA2 hB2 hX2 hY2 hr2 hs2 hx2 hy2 hcl2 hcur
  have hla : Hid (∀ u ∈ a, u.make.list.length ≤ 1048576) := fun u hu => by have := (bigN_le u.make (bigA_le (hba.2 u hu)).2.2).1; omega
  have hlb : Hid (∀ u ∈ b, u.make.list.length ≤ 1048576) := fun u hu => by have := (bigN_le u.make (bigA_le (hbb.2 u hu)).2.2).1; omega
  have hsa : Hid (∀ u ∈ a, u.make.list.length ≤ 140737488355328) := fun u hu => by have := hla.out u hu; omega
  have hsb : Hid (∀ u ∈ b, u.make.list.length ≤ 140737488355328) := fun u hu => by have := hlb.out u hu; omega
  have hsx : Hid (∀ u ∈ x.list, u.r.list.length ≤ 140737488355328) := fun u hu => by have := (hmxH.out u hu).1; omega
  have hsy : Hid (∀ u ∈ y.list, u.r.list.length ≤ 140737488355328) := fun u hu => by have := (hmyH.out u hu).1; omega
  have hn40 : n ≤ 40 := by have := hba.1; rw [hn.out] at this; exact this
  have hba' := Lib.hid hba.2
  have hk40 : k ≤ 40 := by have := hbb.1; rw [hk.out] at this; exact this
  clear hba hbb
  have cS : ∀ W : World, (W.cell? ⟨w.heap.size, 0, none⟩ = some (.slice A n c) ∧ W.cell? ⟨w.heap.size + 1, 0, none⟩ = some (.slice B k d) ∧ W.cell? ⟨xb, 0, none⟩ = some (.int .i64 x.code) ∧ W.cell? ⟨xb, 1, none⟩ = some (.int .i64 x.at_) ∧ W.cell? ⟨xb, 2, none⟩ = some (.slice C m e0) ∧ W.cell? ⟨yb, 0, none⟩ = some (.int .i64 y.code) ∧ W.cell? ⟨yb, 1, none⟩ = some (.int .i64 y.at_) ∧ W.cell? ⟨yb, 2, none⟩ = some (.slice E q g0) ∧ Hid (Cln w3 W)) → Calls Tryz.prog 47 #[.agg #[.slice A n c], .agg #[.slice B k d]] W fun e w' => e = .returned (.bool (sameActs a b)) ∧ Cln W w' := fun W h => dsame_any a b A B n c k d hsa.out hsb.out (by omega) W (hr3.out.cln h.2.2.2.2.2.2.2.2.out) (hs3.out.cln h.2.2.2.2.2.2.2.2.out)
  have cR : ∀ W : World, (W.cell? ⟨w.heap.size, 0, none⟩ = some (.slice A n c) ∧ W.cell? ⟨w.heap.size + 1, 0, none⟩ = some (.slice B k d) ∧ W.cell? ⟨xb, 0, none⟩ = some (.int .i64 x.code) ∧ W.cell? ⟨xb, 1, none⟩ = some (.int .i64 x.at_) ∧ W.cell? ⟨xb, 2, none⟩ = some (.slice C m e0) ∧ W.cell? ⟨yb, 0, none⟩ = some (.int .i64 y.code) ∧ W.cell? ⟨yb, 1, none⟩ = some (.int .i64 y.at_) ∧ W.cell? ⟨yb, 2, none⟩ = some (.slice E q g0) ∧ Hid (Cln w3 W)) → Calls Tryz.prog 25 #[.agg #[.slice A n c], .agg #[.slice B k d]] W fun e w' => e = .returned (.bool (sameActs a b)) ∧ Cln W w' := fun W h => rdsame_any a b A B n c k d hsa.out hsb.out (by omega) W (hr3.out.cln h.2.2.2.2.2.2.2.2.out) (hs3.out.cln h.2.2.2.2.2.2.2.2.out)
  have cL : ∀ W : World, (W.cell? ⟨w.heap.size, 0, none⟩ = some (.slice A n c) ∧ W.cell? ⟨w.heap.size + 1, 0, none⟩ = some (.slice B k d) ∧ W.cell? ⟨xb, 0, none⟩ = some (.int .i64 x.code) ∧ W.cell? ⟨xb, 1, none⟩ = some (.int .i64 x.at_) ∧ W.cell? ⟨xb, 2, none⟩ = some (.slice C m e0) ∧ W.cell? ⟨yb, 0, none⟩ = some (.int .i64 y.code) ∧ W.cell? ⟨yb, 1, none⟩ = some (.int .i64 y.at_) ∧ W.cell? ⟨yb, 2, none⟩ = some (.slice E q g0) ∧ Hid (Cln w3 W)) → Calls Tryz.prog 48 #[.agg #[.int .i64 x.code, .int .i64 x.at_, .slice C m e0], .agg #[.int .i64 y.code, .int .i64 y.at_, .slice E q g0]] W fun e w' => e = .returned (.bool (alike x y)) ∧ Cln W w' := fun W h => alike_any x y C E m e0 q g0 hsx.out hsy.out (by omega) W (hx3.out.cln h.2.2.2.2.2.2.2.2.out) (hy3.out.cln h.2.2.2.2.2.2.2.2.out)
  have cRL : ∀ W : World, (W.cell? ⟨w.heap.size, 0, none⟩ = some (.slice A n c) ∧ W.cell? ⟨w.heap.size + 1, 0, none⟩ = some (.slice B k d) ∧ W.cell? ⟨xb, 0, none⟩ = some (.int .i64 x.code) ∧ W.cell? ⟨xb, 1, none⟩ = some (.int .i64 x.at_) ∧ W.cell? ⟨xb, 2, none⟩ = some (.slice C m e0) ∧ W.cell? ⟨yb, 0, none⟩ = some (.int .i64 y.code) ∧ W.cell? ⟨yb, 1, none⟩ = some (.int .i64 y.at_) ∧ W.cell? ⟨yb, 2, none⟩ = some (.slice E q g0) ∧ Hid (Cln w3 W)) → Calls Tryz.prog 49 #[.agg #[.int .i64 x.code, .int .i64 x.at_, .slice C m e0], .agg #[.int .i64 y.code, .int .i64 y.at_, .slice E q g0]] W fun e w' => e = .returned (.bool (alike x y)) ∧ Cln W w' := fun W h => ralike_any x y C E m e0 q g0 hsx.out hsy.out (by omega) W (hx3.out.cln h.2.2.2.2.2.2.2.2.out) (hy3.out.cln h.2.2.2.2.2.2.2.2.out)
  have cLX : ∀ W : World, (W.cell? ⟨w.heap.size, 0, none⟩ = some (.slice A n c) ∧ W.cell? ⟨w.heap.size + 1, 0, none⟩ = some (.slice B k d) ∧ W.cell? ⟨xb, 0, none⟩ = some (.int .i64 x.code) ∧ W.cell? ⟨xb, 1, none⟩ = some (.int .i64 x.at_) ∧ W.cell? ⟨xb, 2, none⟩ = some (.slice C m e0) ∧ W.cell? ⟨yb, 0, none⟩ = some (.int .i64 y.code) ∧ W.cell? ⟨yb, 1, none⟩ = some (.int .i64 y.at_) ∧ W.cell? ⟨yb, 2, none⟩ = some (.slice E q g0) ∧ Hid (Cln w3 W)) → Calls Tryz.prog 48 #[.agg #[.int .i64 x.code, .int .i64 x.at_, .slice C m e0], .agg #[.int .i64 x.code, .int .i64 x.at_, .slice C m e0]] W fun e w' => e = .returned (.bool true) ∧ Cln W w' := fun W h => by
   have := alike_any x x C C m e0 m e0 hsx.out hsx.out (by omega) W (hx3.out.cln h.2.2.2.2.2.2.2.2.out) (hx3.out.cln h.2.2.2.2.2.2.2.2.out)
   rw [alike_refl] at this
   exact this
  generalize sameActs a b = s1 at cS cR
  generalize alike x y = s2 at cL cRL
  have hs11 : (s1 != s1) = false := by cases s1 <;> rfl
  have hs22 : (s2 != s2) = false := by cases s2 <;> rfl
  have hcurD : Hid (Cln w3 w3.drew) := Below.drew (Below.refl _ _)
  go_wp2_with fail
  refine wp_region_held_drew (S := fun W => W.cell? ⟨w.heap.size, 0, none⟩ = some (.slice A n c) ∧ W.cell? ⟨w.heap.size + 1, 0, none⟩ = some (.slice B k d) ∧ W.cell? ⟨xb, 0, none⟩ = some (.int .i64 x.code) ∧ W.cell? ⟨xb, 1, none⟩ = some (.int .i64 x.at_) ∧ W.cell? ⟨xb, 2, none⟩ = some (.slice C m e0) ∧ W.cell? ⟨yb, 0, none⟩ = some (.int .i64 y.code) ∧ W.cell? ⟨yb, 1, none⟩ = some (.int .i64 y.at_) ∧ W.cell? ⟨yb, 2, none⟩ = some (.slice E q g0) ∧ Hid (Cln w3 W)) (by kernel_rfl) ?hSS6 (fun hHeld => ?_)
  case hSS6 => (try dsimp only); exact ⟨hA3.out.cell 0, hB3.out.cell 0, hX3.out.cell 0, hX3.out.cell 1, hX3.out.cell 2, hY3.out.cell 0, hY3.out.cell 1, hY3.out.cell 2, hcurD⟩
  refine wpAnyH_take (i := 0) (oi := { dst := some 39, op := Op.load 48 (Operand.tmp 3), type := 48, pos := "law.go:114", after := #[], guard := none }) (v := ?v1) rfl (by kernel_rfl) (by kernel_rfl) (by kernel_rfl) (fun _ _ _ h => h) (Or.inl ⟨by rfl, ?hy1⟩) (by assumption) ?rest1
  case hy1 => intro w hSw; (try dsimp only at hSw); go_simp <;> with_reducible rfl
  try simp only [Act.put, List.setIfInBounds_toArray, List.set_cons_zero, List.set_cons_succ]
  refine wpAnyH_take (i := 1) (oi := { dst := some 40, op := Op.load 48 (Operand.tmp 4), type := 48, pos := "law.go:114", after := #[], guard := none }) (v := ?v2) rfl (by kernel_rfl) (by kernel_rfl) (by kernel_rfl) (fun _ _ _ h => h) (Or.inl ⟨by rfl, ?hy2⟩) (by assumption) ?rest2
  case hy2 => intro w hSw; (try dsimp only at hSw); go_simp <;> with_reducible rfl
  try simp only [Act.put, List.setIfInBounds_toArray, List.set_cons_zero, List.set_cons_succ]
  refine wpAnyH_take (i := 3) (oi := { dst := some 42, op := Op.load 48 (Operand.tmp 3), type := 48, pos := "law.go:114", after := #[], guard := none }) (v := ?v3) rfl (by kernel_rfl) (by kernel_rfl) (by kernel_rfl) (fun _ _ _ h => h) (Or.inl ⟨by rfl, ?hy3⟩) (by assumption) ?rest3
  case hy3 => intro w hSw; (try dsimp only at hSw); go_simp <;> with_reducible rfl
  try simp only [Act.put, List.setIfInBounds_toArray, List.set_cons_zero, List.set_cons_succ]
  refine wpAnyH_take (i := 4) (oi := { dst := some 43, op := Op.load 48 (Operand.tmp 4), type := 48, pos := "law.go:114", after := #[], guard := none }) (v := ?v4) rfl (by kernel_rfl) (by kernel_rfl) (by kernel_rfl) (fun _ _ _ h => h) (Or.inl ⟨by rfl, ?hy4⟩) (by assumption) ?rest4
  case hy4 => intro w hSw; (try dsimp only at hSw); go_simp <;> with_reducible rfl
  try simp only [Act.put, List.setIfInBounds_toArray, List.set_cons_zero, List.set_cons_succ]
  refine wpAnyH_ready (rs := [2]) (by kernel_rfl) (by simp) ?_
  refine AllReadyH.cons (o := { dst := some 41, op := Op.call { callee := Callee.value (Operand.func 47), args := #[Operand.tmp 39, Operand.tmp 40], argTypes := #[48, 48] }, type := 4, pos := "law.go:114", after := #[{ on := 0, ground := Ground.data }, { on := 1, ground := Ground.data }], guard := none }) rfl (fun K hK => ?_) AllReadyH.nil
  go_simp
  go_at_call 47; with_reducible refine (cS _ (by assumption)).mono ?_; rintro e w' ⟨rfl, hq⟩
  (try go_wp2_with fail)
  refine hK.out _ _ ?_ (fun hHeld => ?_)
  ·exact heldKeep8 hq (by assumption)
  clear hK K
  try simp only [Act.put, List.setIfInBounds_toArray, List.set_cons_zero, List.set_cons_succ]
  refine wpAnyH_ready (rs := [5]) (by kernel_rfl) (by simp) ?_
  refine AllReadyH.cons (o := { dst := some 44, op := Op.call { callee := Callee.value (Operand.func 25), args := #[Operand.tmp 42, Operand.tmp 43], argTypes := #[48, 48] }, type := 4, pos := "law.go:114", after := #[{ on := 3, ground := Ground.data }, { on := 4, ground := Ground.data }, { on := 2, ground := Ground.chain }], guard := none }) rfl (fun K hK => ?_) AllReadyH.nil
  go_simp
  go_at_call 25; with_reducible refine (cR _ (by assumption)).mono ?_; rintro e w' ⟨rfl, hq⟩
  (try go_wp2_with fail)
  refine hK.out _ _ ?_ (fun hHeld => ?_)
  ·exact heldKeep8 hq (by assumption)
  clear hK K
  try simp only [Act.put, List.setIfInBounds_toArray, List.set_cons_zero, List.set_cons_succ]
  refine wpAnyH_take (i := 6) (oi := { dst := some 45, op := Op.binOp BinOp.neq 4 (Operand.tmp 41) (Operand.tmp 44) 4, type := 4, pos := "law.go:114", after := #[{ on := 2, ground := Ground.data }, { on := 5, ground := Ground.data }], guard := none }) (v := ?v5) rfl (by kernel_rfl) (by kernel_rfl) (by kernel_rfl) (fun _ _ _ h => h) (Or.inl ⟨by rfl, ?hy5⟩) (by assumption) ?rest5
  case hy5 => intro w hSw; (try dsimp only at hSw); go_simp <;> with_reducible rfl
  try simp only [Act.put, List.setIfInBounds_toArray, List.set_cons_zero, List.set_cons_succ]
  refine wpAnyH_take (i := 7) (oi := { dst := some 46, op := Op.move (Operand.tmp 45), type := 4, pos := "law.go:114", after := #[{ on := 6, ground := Ground.data }, { on := 5, ground := Ground.chain }], guard := none }) (v := ?v6) rfl (by kernel_rfl) (by kernel_rfl) (by kernel_rfl) (fun _ _ _ h => h) (Or.inl ⟨by rfl, ?hy6⟩) (by assumption) ?rest6
  case hy6 => intro w hSw; (try dsimp only at hSw); go_simp <;> with_reducible rfl
  try simp only [Act.put, List.setIfInBounds_toArray, List.set_cons_zero, List.set_cons_succ]
  refine wpAnyH_take (i := 8) (oi := { dst := some 47, op := Op.load 76 (Operand.tmp 7), type := 76, pos := "law.go:114", after := #[{ on := 7, ground := Ground.guard }], guard := some (7, false) }) (v := ?v7) rfl (by kernel_rfl) (by kernel_rfl) (by kernel_rfl) (fun _ _ _ h => h) (Or.inl ⟨by rfl, ?hy7⟩) (by assumption) ?rest7
  case hy7 => intro w hSw; (try dsimp only at hSw); go_simp <;> with_reducible rfl
  try simp only [Act.put, List.setIfInBounds_toArray, List.set_cons_zero, List.set_cons_succ]
  refine wpAnyH_take (i := 9) (oi := { dst := some 48, op := Op.load 76 (Operand.tmp 8), type := 76, pos := "law.go:114", after := #[{ on := 7, ground := Ground.guard }], guard := some (7, false) }) (v := ?v8) rfl (by kernel_rfl) (by kernel_rfl) (by kernel_rfl) (fun _ _ _ h => h) (Or.inl ⟨by rfl, ?hy8⟩) (by assumption) ?rest8
  case hy8 => intro w hSw; (try dsimp only at hSw); go_simp <;> with_reducible rfl
  try simp only [Act.put, List.setIfInBounds_toArray, List.set_cons_zero, List.set_cons_succ]
  refine wpAnyH_take (i := 11) (oi := { dst := some 50, op := Op.load 76 (Operand.tmp 7), type := 76, pos := "law.go:114", after := #[{ on := 7, ground := Ground.guard }], guard := some (7, false) }) (v := ?v9) rfl (by kernel_rfl) (by kernel_rfl) (by kernel_rfl) (fun _ _ _ h => h) (Or.inl ⟨by rfl, ?hy9⟩) (by assumption) ?rest9
  case hy9 => intro w hSw; (try dsimp only at hSw); go_simp <;> with_reducible rfl
  try simp only [Act.put, List.setIfInBounds_toArray, List.set_cons_zero, List.set_cons_succ]
  refine wpAnyH_take (i := 12) (oi := { dst := some 51, op := Op.load 76 (Operand.tmp 8), type := 76, pos := "law.go:114", after := #[{ on := 7, ground := Ground.guard }], guard := some (7, false) }) (v := ?v10) rfl (by kernel_rfl) (by kernel_rfl) (by kernel_rfl) (fun _ _ _ h => h) (Or.inl ⟨by rfl, ?hy10⟩) (by assumption) ?rest10
  case hy10 => intro w hSw; (try dsimp only at hSw); go_simp <;> with_reducible rfl
  try simp only [Act.put, List.setIfInBounds_toArray, List.set_cons_zero, List.set_cons_succ]
  refine wpAnyH_ready (rs := [10]) (by kernel_rfl) (by simp) ?_
  refine AllReadyH.cons (o := { dst := some 49, op := Op.call { callee := Callee.value (Operand.func 48), args := #[Operand.tmp 47, Operand.tmp 48], argTypes := #[76, 76] }, type := 4, pos := "law.go:114", after := #[{ on := 8, ground := Ground.data }, { on := 9, ground := Ground.data }, { on := 7, ground := Ground.chain }, { on := 7, ground := Ground.guard }], guard := some (7, false) }) rfl (fun K hK => ?_) AllReadyH.nil
  go_simp
  go_at_call 48; with_reducible refine (cL _ (by assumption)).mono ?_; rintro e w' ⟨rfl, hq⟩
  (try go_wp2_with fail)
  refine hK.out _ _ ?_ (fun hHeld => ?_)
  ·exact heldKeep8 hq (by assumption)
  clear hK K
  try simp only [Act.put, List.setIfInBounds_toArray, List.set_cons_zero, List.set_cons_succ]
  refine wpAnyH_ready (rs := [13]) (by kernel_rfl) (by simp) ?_
  refine AllReadyH.cons (o := { dst := some 52, op := Op.call { callee := Callee.value (Operand.func 49), args := #[Operand.tmp 50, Operand.tmp 51], argTypes := #[76, 76] }, type := 4, pos := "law.go:114", after := #[{ on := 11, ground := Ground.data }, { on := 12, ground := Ground.data }, { on := 10, ground := Ground.chain }, { on := 7, ground := Ground.guard }], guard := some (7, false) }) rfl (fun K hK => ?_) AllReadyH.nil
  go_simp
  go_at_call 49; with_reducible refine (cRL _ (by assumption)).mono ?_; rintro e w' ⟨rfl, hq⟩
  (try go_wp2_with fail)
  refine hK.out _ _ ?_ (fun hHeld => ?_)
  ·exact heldKeep8 hq (by assumption)
  clear hK K
  try simp only [Act.put, List.setIfInBounds_toArray, List.set_cons_zero, List.set_cons_succ]
  refine wpAnyH_take (i := 14) (oi := { dst := some 53, op := Op.binOp BinOp.neq 4 (Operand.tmp 49) (Operand.tmp 52) 4, type := 4, pos := "law.go:114", after := #[{ on := 10, ground := Ground.data }, { on := 13, ground := Ground.data }, { on := 7, ground := Ground.guard }], guard := some (7, false) }) (v := ?v11) rfl (by kernel_rfl) (by kernel_rfl) (by kernel_rfl) (fun _ _ _ h => h) (Or.inl ⟨by rfl, ?hy11⟩) (by assumption) ?rest11
  case hy11 => intro w hSw; (try dsimp only at hSw); go_simp <;> with_reducible rfl
  try simp only [Act.put, List.setIfInBounds_toArray, List.set_cons_zero, List.set_cons_succ]
  refine wpAnyH_take (i := 15) (oi := { dst := some 54, op := Op.pick (Operand.tmp 46) (Operand.const (Value.bool true)) (Operand.tmp 53), type := 4, pos := "law.go:114", after := #[{ on := 7, ground := Ground.data }, { on := 14, ground := Ground.data }], guard := none }) (v := ?v12) rfl (by kernel_rfl) (by kernel_rfl) (by kernel_rfl) (fun _ _ _ h => h) (Or.inl ⟨by rfl, ?hy12⟩) (by assumption) ?rest12
  case hy12 => intro w hSw; (try dsimp only at hSw); go_simp <;> with_reducible rfl
  try simp only [Act.put, List.setIfInBounds_toArray, List.set_cons_zero, List.set_cons_succ]
  refine wpAnyH_take (i := 16) (oi := { dst := some 55, op := Op.move (Operand.tmp 54), type := 4, pos := "law.go:114", after := #[{ on := 15, ground := Ground.data }, { on := 13, ground := Ground.chain }], guard := none }) (v := ?v13) rfl (by kernel_rfl) (by kernel_rfl) (by kernel_rfl) (fun _ _ _ h => h) (Or.inl ⟨by rfl, ?hy13⟩) (by assumption) ?rest13
  case hy13 => intro w hSw; (try dsimp only at hSw); go_simp <;> with_reducible rfl
  try simp only [Act.put, List.setIfInBounds_toArray, List.set_cons_zero, List.set_cons_succ]
  refine wpAnyH_take (i := 17) (oi := { dst := some 56, op := Op.load 76 (Operand.tmp 7), type := 76, pos := "law.go:114", after := #[{ on := 16, ground := Ground.guard }], guard := some (16, false) }) (v := ?v14) rfl (by kernel_rfl) (by kernel_rfl) (by kernel_rfl) (fun _ _ _ h => h) (Or.inl ⟨by rfl, ?hy14⟩) (by assumption) ?rest14
  case hy14 => intro w hSw; (try dsimp only at hSw); go_simp <;> with_reducible rfl
  try simp only [Act.put, List.setIfInBounds_toArray, List.set_cons_zero, List.set_cons_succ]
  refine wpAnyH_take (i := 18) (oi := { dst := some 57, op := Op.load 76 (Operand.tmp 7), type := 76, pos := "law.go:114", after := #[{ on := 16, ground := Ground.guard }], guard := some (16, false) }) (v := ?v15) rfl (by kernel_rfl) (by kernel_rfl) (by kernel_rfl) (fun _ _ _ h => h) (Or.inl ⟨by rfl, ?hy15⟩) (by assumption) ?rest15
  case hy15 => intro w hSw; (try dsimp only at hSw); go_simp <;> with_reducible rfl
  try simp only [Act.put, List.setIfInBounds_toArray, List.set_cons_zero, List.set_cons_succ]
  refine wpAnyH_ready (rs := [19]) (by kernel_rfl) (by simp) ?_
  refine AllReadyH.cons (o := { dst := some 58, op := Op.call { callee := Callee.value (Operand.func 48), args := #[Operand.tmp 56, Operand.tmp 57], argTypes := #[76, 76] }, type := 4, pos := "law.go:114", after := #[{ on := 17, ground := Ground.data }, { on := 18, ground := Ground.data }, { on := 16, ground := Ground.chain }, { on := 16, ground := Ground.guard }], guard := some (16, false) }) rfl (fun K hK => ?_) AllReadyH.nil
  go_simp
  go_at_call 48; with_reducible refine (cLX _ (by assumption)).mono ?_; rintro e w4 ⟨rfl, hq⟩
  (try go_wp2_with fail)
  refine hK.out _ _ ?_ (fun hHeld => ?_)
  ·exact heldKeep8 hq (by assumption)
  clear hK K
  try simp only [Act.put, List.setIfInBounds_toArray, List.set_cons_zero, List.set_cons_succ]
  refine wpAnyH_take (i := 20) (oi := { dst := some 59, op := Op.unOp UnOp.not 4 (Operand.tmp 58), type := 4, pos := "law.go:114", after := #[{ on := 19, ground := Ground.data }, { on := 16, ground := Ground.guard }], guard := some (16, false) }) (v := ?v16) rfl (by kernel_rfl) (by kernel_rfl) (by kernel_rfl) (fun _ _ _ h => h) (Or.inl ⟨by rfl, ?hy16⟩) (by assumption) ?rest16
  case hy16 => intro w hSw; (try dsimp only at hSw); go_simp <;> with_reducible rfl
  try simp only [Act.put, List.setIfInBounds_toArray, List.set_cons_zero, List.set_cons_succ]
  refine wpAnyH_take (i := 21) (oi := { dst := some 60, op := Op.pick (Operand.tmp 55) (Operand.const (Value.bool true)) (Operand.tmp 59), type := 4, pos := "law.go:114", after := #[{ on := 16, ground := Ground.data }, { on := 20, ground := Ground.data }], guard := none }) (v := ?v17) rfl (by kernel_rfl) (by kernel_rfl) (by kernel_rfl) (fun _ _ _ h => h) (Or.inl ⟨by rfl, ?hy17⟩) (by assumption) ?rest17
  case hy17 => intro w hSw; (try dsimp only at hSw); go_simp <;> with_reducible rfl
  try simp only [Act.put, List.setIfInBounds_toArray, List.set_cons_zero, List.set_cons_succ]
  refine wpAnyH_done (by kernel_rfl) ?_ _
  have hcur := Lib.hid hHeld.2.2.2.2.2.2.2.2.out
  clear hHeld hcurD cS cR cL cRL cLX hs11 hs22
  have hA4 := Lib.hid (hA3.out.cln hcur.out); have hX4 := hX3.out.cln hcur.out
  have hr4 := Lib.hid (hr3.out.cln hcur.out); have hx4 := Lib.hid (hx3.out.cln hcur.out)
  have hcl4 := Lib.hid (cln_trans hcl3.out hcur.out)
  clear hA3 hB3 hX3 hY3 hr3 hs3 hx3 hy3 hcl3 hcur hsb hlb hmyH hsy
  have z0 := hX4.cell 0; have z1 := hX4.cell 1; have z2 := hX4.cell 2
  have zl := hX4.lt
  replace hX4 := Lib.hid hX4
  go_wp2_with fail
  refine (copyo_any x.code x.at_ x.list C m e0 w4 hx4.out (by omega) (fun u hu => (hmxH.out u hu).1)).mono ?_
  rintro e w5 ⟨C', e1, Q, rfl, hQ, hO, hq⟩
  clear z0 z1 z2 zl
  have hA5 := Lib.hid (hA4.out.cln hq); have hX5 := hX4.out.cln hq
  have hr5 := Lib.hid (hr4.out.cln hq); have hx5 := Lib.hid (hx4.out.cln hq)
  have hcl5 := Lib.hid (cln_trans hcl4.out hq)
  have hsz4 : w.heap.size ≤ w4.heap.size := hcl4.out.size
  have hQH := Lib.hid hQ; have hOH := Lib.hid hO
  clear hA4 hX4 hr4 hx4 hcl4 hq hQ hO
  have z0 := hX5.cell 0; have z1 := hX5.cell 1; have z2 := hX5.cell 2
  have zl := hX5.lt
  replace hX5 := Lib.hid hX5
  have s76 : (Tryz.prog.info? 76).map (·.size) = some 3 := by kernel_rfl
  go_wp2_with fail
  have hkZ : Cln w5 (w5.alloc (.cells #[.int .i64 x.code, .int .i64 x.at_, .slice C' m e1] 76)) := by (repeat with_reducible first | exact cR _ | assumption | refine cA ?_ _ | refine cD ?_ | refine cN ?_ _ | refine cS ?_ (by first | omega | (simp <;> omega)) _)
  have hZ0 := Blk.new w5 76 #[.int .i64 x.code, .int .i64 x.at_, .slice C' m e1]
  have hst := ans_states hOH.out hQH.out hsz4 (fun u hu => (hmxH.out u hu).2)
  have hAl := ralike_any x x C' C m e1 m e0 hsx.out hsx.out (by omega) _ ((ans_rd hOH.out hQH.out).cln hkZ) (hx5.out.cln hkZ)
  rw [alike_refl] at hAl
  refine hAl.mono ?_; rintro e w6 ⟨rfl, hq⟩
  clear z0 z1 z2 zl hAl s76
  have hq5 := cln_trans hkZ hq
  have hA6 := Lib.hid (hA5.out.cln hq5); have hX6 := Lib.hid (hX5.out.cln hq5); have hZ6 := hZ0.cln hq
  have hcl6 := Lib.hid (cln_trans hcl5.out hq5)
  have hR6 := Lib.hid (hst.1.cln hq5)
  have hN6 : Hid (∀ j, j < m → NamesSt w6 w.heap.size 140737488351232 (sqAt Q j).A (ansAt x.list j).r.list.length (ansAt x.list j).r.list) := fun j hj => (hst.2 j hj).cln hq5
  clear hZ0 hst hq hq5 hkZ hA5 hX5 hr5 hx5 hcl5 hOH hQH
  have z2 := hZ6.cell 2
  have zl := hZ6.lt
  replace hZ6 := Lib.hid hZ6
  generalize w5.heap.size = zb at *
  go_wp2_with fail
  go_loopw [70] (fun v wr => ∃ i : Nat, i ≤ m ∧ v = .int .i64 (i : Nat) ∧ Hid (Cln w wr) ∧ Hid (Blk wr zb 76 #[.int .i64 x.code, .int .i64 x.at_, .slice C' m e1]) ∧ Hid (Blk wr xb 76 #[.int .i64 x.code, .int .i64 x.at_, .slice C m e0]) ∧ Hid (Blk wr w.heap.size 48 #[.slice A n c]) ∧ Hid (RowSt wr w.heap.size 85 10 1 9 C' m i (fun j => .int .i64 (ansAt x.list j).num) (fun j => .slice (sqAt Q j).A (ansAt x.list j).r.list.length (sqAt Q j).c)) ∧ Hid (∀ j, j < m → NamesSt wr w.heap.size (140737488351232 + i) (sqAt Q j).A (ansAt x.list j).r.list.length (ansAt x.list j).r.list)) (fun v _ => (m - intOf v).toNat)
  case atStart => exact ⟨0, Nat.zero_le _, rfl, Lib.hid (cln_trans hcl6.out (by (repeat with_reducible first | exact cR _ | assumption | refine cA ?_ _ | refine cD ?_ | refine cN ?_ _ | refine cS ?_ (by first | omega | (simp <;> omega)) _))), Lib.hid (hZ6.out.cln (by (repeat with_reducible first | exact cR _ | assumption | refine cA ?_ _ | refine cD ?_ | refine cN ?_ _ | refine cS ?_ (by first | omega | (simp <;> omega)) _))), Lib.hid (hX6.out.cln (by (repeat with_reducible first | exact cR _ | assumption | refine cA ?_ _ | refine cD ?_ | refine cN ?_ _ | refine cS ?_ (by first | omega | (simp <;> omega)) _))), Lib.hid (hA6.out.cln (by (repeat with_reducible first | exact cR _ | assumption | refine cA ?_ _ | refine cD ?_ | refine cN ?_ _ | refine cS ?_ (by first | omega | (simp <;> omega)) _))), Lib.hid (hR6.out.cln (by (repeat with_reducible first | exact cR _ | assumption | refine cA ?_ _ | refine cD ?_ | refine cN ?_ _ | refine cS ?_ (by first | omega | (simp <;> omega)) _))), fun j hj => (hN6.out j hj).cln (by (repeat with_reducible first | exact cR _ | assumption | refine cA ?_ _ | refine cD ?_ | refine cN ?_ _ | refine cS ?_ (by first | omega | (simp <;> omega)) _))⟩
  case round =>
   clear hcl6 hZ6 hX6 hA6 hR6 hN6 z2 zl
   obtain ⟨i, hi, rfl, hcl, hZ, hX, hA, hR, hN⟩ := hrel
   by_cases hlt : i < m
   ·obtain ⟨g, cur, rfl, hlo, hgB, hrow⟩ := hR.out (by omega)
    have h9 : cur[i * 10 + 9]? = some (.slice (sqAt Q i).A (ansAt x.list i).r.list.length (sqAt Q i).c) := (hrow i hlt).1
    have r9 : wr.cell? ⟨g, i * 10 + 9, none⟩ = some (.slice (sqAt Q i).A (ansAt x.list i).r.list.length (sqAt Q i).c) := (hgB.cell _).trans h9
    obtain ⟨b, o, rfl, hblt, hcell⟩ := hxL.out.rows (by omega)
    obtain ⟨Ao, no, co, hc0⟩ := hcell i hlt
    clear hcell hrow h9
    have hno : Hid ((ansAt x.list i).r.list.length = no) := hc0.it.len
    rw [hno.out] at r9
    have hno47 : no ≤ 140737488355328 := by rw [← hno.out]; exact hsx.out _ (by unfold ansAt; rw [List.getD_eq_getElem?_getD, List.getElem?_eq_getElem (by rw [hm.out]; exact hlt)]; exact List.getElem_mem _)
    have hc0H := Lib.hid hc0
    have z2 := hZ.out.cell 2
    have zl := hZ.out.lt
    have gl := hgB.lt
    have ig1 : (0 : Int) ≤ (i : Int) := by omega
    have ig2 : (i : Int) < (m : Int) := by omega
    have hgz : ¬ g = zb := hgB.ne_ hZ.out (by decide)
    have hN' : Hid (∀ j, j < m → NamesSt wr w.heap.size (140737488351232 + i + 1) (sqAt Q j).A (ansAt x.list j).r.list.length (ansAt x.list j).r.list) := fun j hj => (hN.out j hj).le (Nat.le_succ _)
    have hT : Hid (NamesTo wr (140737488351232 + i) (sqAt Q i).A (ansAt x.list i).r.list.length 0) := (hN.out i hlt).to
    clear hc0 hN hgB
    go_wp2_with fail
    go_loopw [81] (fun v wr => ∃ k : Nat, k ≤ no ∧ v = .int .i64 (k : Nat) ∧ Hid (Cln w wr) ∧ Hid (Blk wr zb 76 #[.int .i64 x.code, .int .i64 x.at_, .slice (some ⟨g, 0, none⟩) m e1]) ∧ Hid (Blk wr xb 76 #[.int .i64 x.code, .int .i64 x.at_, .slice (some ⟨b, o, none⟩) m e0]) ∧ Hid (Blk wr w.heap.size 48 #[.slice A n c]) ∧ Hid (RowSt wr w.heap.size 85 10 1 9 (some ⟨g, 0, none⟩) m i (fun j => .int .i64 (ansAt x.list j).num) (fun j => .slice (sqAt Q j).A (ansAt x.list j).r.list.length (sqAt Q j).c)) ∧ Hid (∀ j, j < m → NamesSt wr w.heap.size (140737488351232 + i + 1) (sqAt Q j).A (ansAt x.list j).r.list.length (ansAt x.list j).r.list) ∧ Hid (NamesTo wr (140737488351232 + i) (sqAt Q i).A (ansAt x.list i).r.list.length k)) (fun v _ => (no - intOf v).toNat)
    case atStart => exact ⟨0, Nat.zero_le _, rfl, Lib.hid (cln_trans hcl.out (by (repeat with_reducible first | exact cR _ | assumption | refine cA ?_ _ | refine cD ?_ | refine cN ?_ _ | refine cS ?_ (by first | omega | (simp <;> omega)) _))), Lib.hid (hZ.out.cln (by (repeat with_reducible first | exact cR _ | assumption | refine cA ?_ _ | refine cD ?_ | refine cN ?_ _ | refine cS ?_ (by first | omega | (simp <;> omega)) _))), Lib.hid (hX.out.cln (by (repeat with_reducible first | exact cR _ | assumption | refine cA ?_ _ | refine cD ?_ | refine cN ?_ _ | refine cS ?_ (by first | omega | (simp <;> omega)) _))), Lib.hid (hA.out.cln (by (repeat with_reducible first | exact cR _ | assumption | refine cA ?_ _ | refine cD ?_ | refine cN ?_ _ | refine cS ?_ (by first | omega | (simp <;> omega)) _))), Lib.hid (hR.out.cln (by (repeat with_reducible first | exact cR _ | assumption | refine cA ?_ _ | refine cD ?_ | refine cN ?_ _ | refine cS ?_ (by first | omega | (simp <;> omega)) _))), fun j hj => (hN'.out j hj).cln (by (repeat with_reducible first | exact cR _ | assumption | refine cA ?_ _ | refine cD ?_ | refine cN ?_ _ | refine cS ?_ (by first | omega | (simp <;> omega)) _)), hT⟩
    case round =>
     clear hcl hZ hX hA hR hN' hT z2 zl r9 gl
     obtain ⟨k, hk, rfl, hcl, hZ, hX, hA, hR, hN, hT⟩ := hrel
     have hc := hc0H.out.cln hcl.out
     obtain ⟨g', cur, eg, _, hgB, hrow⟩ := hR.out (by omega)
     obtain rfl : g = g' := by injection eg with eg; injection eg
     have gl := hgB.lt
     have z2 := hZ.out.cell 2
     have zl := hZ.out.lt
     have x2 := hX.out.cell 2
     have xl := hX.out.lt
     have bl : b < wr.heap.size := Nat.lt_of_lt_of_le hblt hcl.out.size
     by_cases hkn : k < no
     ·obtain ⟨g2, cur2, s, eA, hlo2, hg2, hcs, hle, hsM⟩ := (hN.out i hlt).at_ hT.out (by rw [hno.out]; exact hkn)
      have h9 : cur[i * 10 + 9]? = some (.slice (sqAt Q i).A (ansAt x.list i).r.list.length (sqAt Q i).c) := (hrow i hlt).1
      have r9 : wr.cell? ⟨g, i * 10 + 9, none⟩ = some (.slice (sqAt Q i).A (ansAt x.list i).r.list.length (sqAt Q i).c) := (hgB.cell _).trans h9
      rw [hno.out, eA] at r9
      have d9 := hc.c9
      obtain ⟨b1, o1, rfl, hb1, hci⟩ := hc.it.cells (by omega)
      obtain ⟨_, d1⟩ := hci k hkn
      have hb1w : b1 < w.heap.size := by have := hc0H.out.it.cells (by omega); obtain ⟨b', o', e', h', _⟩ := this; injection e' with e'; injection e' with e'; omega
      clear hci h9 hrow hc
      have g2l := hg2.lt
      have g2f := hg2.frozen (k * 2 + 1)
      have hz2 : ¬ zb = g2 := fun e => hg2.ne_ hZ.out (by decide) e.symm
      have hx2 : ¬ xb = g2 := fun e => hg2.ne_ hX.out (by decide) e.symm
      have ha2 : ¬ w.heap.size = g2 := fun e => hg2.ne_ hA.out (by decide) e.symm
      have hgg2 : ¬ g = g2 := fun e => hg2.ne_ hgB (by decide) e.symm
      have hbg2 : ¬ b = g2 := by omega
      have hb1g2 : ¬ b1 = g2 := by omega
      have hz2' : ¬ g2 = zb := fun e => hz2 e.symm
      have hx2' : ¬ g2 = xb := fun e => hx2 e.symm
      have hgg2' : ¬ g2 = g := fun e => hgg2 e.symm
      have hbg2' : ¬ g2 = b := fun e => hbg2 e.symm
      have hb1g2' : ¬ g2 = b1 := fun e => hb1g2 e.symm
      replace hg2 := Lib.hid hg2; replace hgB := Lib.hid hgB
      replace hcs' := hcs; replace hcs := Lib.hid hcs; replace eA := Lib.hid eA
      have hadd := add_b s 122 (by omega)
      have hsz : ¬ (9223372036854775807 < s.length + 1) := by omega
      have hsz1 : ByteArray.size ⟨#[122]⟩ = 1 := rfl
      generalize (itAt (ansAt x.list i).r.list k).name = nm at d1 hle
      have heq : (nm == s ++ [122]) = false := longer_ne nm s 122 hle
      have ik1 : (0 : Int) ≤ (k : Int) := by omega
      have ik2 : (k : Int) < (no : Int) := by omega
      have hclu := hcl.out
      go_wp2_with (simp only [hadd])
      go_quiet (fail)
      go_wp2_with fail
      go_roundw
      case rel => exact ⟨k + 1, hkn, by go_num, Lib.hid (by (repeat with_reducible first | exact cR _ | assumption | refine cA ?_ _ | refine cD ?_ | refine cN ?_ _ | refine cS ?_ (by first | omega | (simp <;> omega)) _)), Lib.hid ((hZ.out.far hz2 _).cln (by (repeat with_reducible first | exact cR _ | assumption | refine cA ?_ _ | refine cD ?_ | refine cN ?_ _ | refine cS ?_ (by first | omega | (simp <;> omega)) _))), Lib.hid ((hX.out.far hx2 _).cln (by (repeat with_reducible first | exact cR _ | assumption | refine cA ?_ _ | refine cD ?_ | refine cN ?_ _ | refine cS ?_ (by first | omega | (simp <;> omega)) _))), Lib.hid ((hA.out.far ha2 _).cln (by (repeat with_reducible first | exact cR _ | assumption | refine cA ?_ _ | refine cD ?_ | refine cN ?_ _ | refine cS ?_ (by first | omega | (simp <;> omega)) _))), Lib.hid ((hR.out.far hg2.out (by decide) _ _).cln (by (repeat with_reducible first | exact cR _ | assumption | refine cA ?_ _ | refine cD ?_ | refine cN ?_ _ | refine cS ?_ (by first | omega | (simp <;> omega)) _))), fun j hj => ((hN.out j hj).write (s' := s ++ [122]) hcs.out (by simp) (by simp; omega)).cln (by (repeat with_reducible first | exact cR _ | assumption | refine cA ?_ _ | refine cD ?_ | refine cN ?_ _ | refine cS ?_ (by first | omega | (simp <;> omega)) _)), fun g' e' j s' h1 h2 h3 => (hT.out.write eA.out _) g' e' j s' h1 h2 h3⟩
      case measure => simp [intOf]; omega
     ·obtain rfl : no = k := by omega
      have t2 : decide ((no : Int) < (no : Int)) = false := decide_eq_false (by omega)
      have h1 : cur[i * 10 + 1]? = some (.int .i64 (ansAt x.list i).num) := (hrow i hlt).2 (Nat.le_refl _)
      have r1 : wr.cell? ⟨g, i * 10 + 1, none⟩ = some (.int .i64 (ansAt x.list i).num) := (hgB.cell _).trans h1
      have d1 := hc.c1
      have gf := hgB.frozen (i * 10 + 1)
      have hzg : ¬ zb = g := fun e => hgB.ne_ hZ.out (by decide) e.symm
      have hxg : ¬ xb = g := fun e => hgB.ne_ hX.out (by decide) e.symm
      have hag : ¬ w.heap.size = g := fun e => hgB.ne_ hA.out (by decide) e.symm
      have hbg : ¬ b = g := by omega
      have hzg' : ¬ g = zb := fun e => hzg e.symm
      have hxg' : ¬ g = xb := fun e => hxg e.symm
      have hbg' : ¬ g = b := fun e => hbg e.symm
      have hclu := hcl.out
      clear h1 hrow hc
      replace hgB := Lib.hid hgB
      generalize (ansAt x.list i).num = nu at r1 d1
      have hne0 : ¬ nu = IntKind.i64.wrap (nu + 1) := next_ne nu
      have hne1 : (nu == IntKind.i64.wrap (nu + 1)) = false := by rw [beq_eq_false_iff_ne]; exact hne0
      have hne2 : decide (nu = IntKind.i64.wrap (nu + 1)) = false := decide_eq_false hne0
      have hne3 : ¬ nu = wrap64 (nu + 1) := next_ne64 nu
      have hne4 : (nu == wrap64 (nu + 1)) = false := by rw [beq_eq_false_iff_ne]; exact hne3
      have hne5 : decide (nu = wrap64 (nu + 1)) = false := decide_eq_false hne3
      go_wp2_with fail
      go_quiet (fail)
      go_wp2_with fail
      go_roundw
      case rel => exact ⟨i + 1, hlt, by go_num, Lib.hid (by (repeat with_reducible first | exact cR _ | assumption | refine cA ?_ _ | refine cD ?_ | refine cN ?_ _ | refine cS ?_ (by first | omega | (simp <;> omega)) _)), Lib.hid ((hZ.out.far hzg _).cln (by (repeat with_reducible first | exact cR _ | assumption | refine cA ?_ _ | refine cD ?_ | refine cN ?_ _ | refine cS ?_ (by first | omega | (simp <;> omega)) _))), Lib.hid ((hX.out.far hxg _).cln (by (repeat with_reducible first | exact cR _ | assumption | refine cA ?_ _ | refine cD ?_ | refine cN ?_ _ | refine cS ?_ (by first | omega | (simp <;> omega)) _))), Lib.hid ((hA.out.far hag _).cln (by (repeat with_reducible first | exact cR _ | assumption | refine cA ?_ _ | refine cD ?_ | refine cN ?_ _ | refine cS ?_ (by first | omega | (simp <;> omega)) _))), Lib.hid ((hR.out.write (by decide) (by decide) (by decide) rfl _).cln (by (repeat with_reducible first | exact cR _ | assumption | refine cA ?_ _ | refine cD ?_ | refine cN ?_ _ | refine cS ?_ (by first | omega | (simp <;> omega)) _))), fun j hj => ((hN.out j hj).far hgB.out (by decide) _ _).cln (by (repeat with_reducible first | exact cR _ | assumption | refine cA ?_ _ | refine cD ?_ | refine cN ?_ _ | refine cS ?_ (by first | omega | (simp <;> omega)) _))⟩
      case measure => simp [intOf]; omega
   ·obtain rfl : m = i := by omega
    have t3 : decide ((m : Int) < (m : Int)) = false := decide_eq_false (by omega)
    clear hZ hX hR hN
    have z2 := hA.out.cell 0
    have zl := hA.out.lt
    go_wp2_with fail
    refine (dcloneo_any a A n c wr (hrL.out.cln hcl.out) (by omega) hla.out).mono ?_
    rintro e w7 ⟨A', c1, P, rfl, hQ2, hO2, hq⟩
    clear z2 zl
    have hA8 := hA.out.cln hq
    have hcl8 := Lib.hid (cln_trans hcl.out hq)
    have hsz7 : w.heap.size ≤ wr.heap.size := hcl.out.size
    have hkey : Hid (∀ i, i < n → (actAt a i).key.length ≤ 200) := fun i hi => (bigA_le (hba'.out _ (actAt_mem a i (by rw [hn.out]; exact hi)))).1
    have hst := Lib.hid (act_states (M := 100) hO2 hQ2 hsz7 (fun u hu => bigN_nm _ (bigA_le (hba'.out u hu)).2.2))
    have hrd := Lib.hid (act_rd hO2 hQ2)
    clear hcl hA hq hQ2 hO2
    have z2 := hA8.cell 0
    have zl := hA8.lt
    replace hA8 := Lib.hid hA8
    have s48 : (Tryz.prog.info? 48).map (·.size) = some 1 := by kernel_rfl
    go_wp2_with fail
    have hkZ : Cln w7 (w7.alloc (.cells #[.slice A' n c1] 48)) := by (repeat with_reducible first | exact cR _ | assumption | refine cA ?_ _ | refine cD ?_ | refine cN ?_ _ | refine cS ?_ (by first | omega | (simp <;> omega)) _)
    have hZ0 := Blk.new w7 48 #[.slice A' n c1]
    have hSm := rdsame_any a a A' A n c1 n c hsa.out hsa.out (by omega) _ (hrd.out.cln hkZ) ((hrL.out.cln hcl8.out).cln hkZ)
    rw [sameActs_refl] at hSm
    refine hSm.mono ?_; rintro e w9 ⟨rfl, hq⟩
    clear z2 zl hSm s48
    have hq7 := cln_trans hkZ hq
    have hX9 := Lib.hid (hA8.out.cln hq7); have hZ9 := hZ0.cln hq
    have hcl9 := Lib.hid (cln_trans hcl8.out hq7)
    have hR9 := Lib.hid (hst.out.1.cln hq7)
    have hN9 : Hid (∀ j, j < n → NamesSt w9 w.heap.size 100 (aqAt P j).A (actAt a j).make.list.length (actAt a j).make.list) := fun j hj => (hst.out.2 j hj).cln hq7
    clear hZ0 hst hrd hq hq7 hkZ hA8 hcl8
    have z2 := hZ9.cell 0
    have zl := hZ9.lt
    replace hZ9 := Lib.hid hZ9
    generalize w7.heap.size = yc at *
    go_wp2_with fail
    go_loopw [154] (fun v wr => ∃ i : Nat, i ≤ n ∧ v = .int .i64 (i : Nat) ∧ Hid (Cln w wr) ∧ Hid (Blk wr yc 48 #[.slice A' n c1]) ∧ Hid (Blk wr w.heap.size 48 #[.slice A n c]) ∧ Hid (RowSt wr w.heap.size 90 14 1 12 A' n i (fun j => .string (str (actAt a j).key)) (fun j => .slice (aqAt P j).A (actAt a j).make.list.length (aqAt P j).c)) ∧ Hid (∀ j, j < n → NamesSt wr w.heap.size (100 + i) (aqAt P j).A (actAt a j).make.list.length (actAt a j).make.list)) (fun v _ => (n - intOf v).toNat)
    case atStart => exact ⟨0, Nat.zero_le _, rfl, Lib.hid (cln_trans hcl9.out (by (repeat with_reducible first | exact cR _ | assumption | refine cA ?_ _ | refine cD ?_ | refine cN ?_ _ | refine cS ?_ (by first | omega | (simp <;> omega)) _))), Lib.hid (hZ9.out.cln (by (repeat with_reducible first | exact cR _ | assumption | refine cA ?_ _ | refine cD ?_ | refine cN ?_ _ | refine cS ?_ (by first | omega | (simp <;> omega)) _))), Lib.hid (hX9.out.cln (by (repeat with_reducible first | exact cR _ | assumption | refine cA ?_ _ | refine cD ?_ | refine cN ?_ _ | refine cS ?_ (by first | omega | (simp <;> omega)) _))), Lib.hid (hR9.out.cln (by (repeat with_reducible first | exact cR _ | assumption | refine cA ?_ _ | refine cD ?_ | refine cN ?_ _ | refine cS ?_ (by first | omega | (simp <;> omega)) _))), fun j hj => (hN9.out j hj).cln (by (repeat with_reducible first | exact cR _ | assumption | refine cA ?_ _ | refine cD ?_ | refine cN ?_ _ | refine cS ?_ (by first | omega | (simp <;> omega)) _))⟩
    case round =>
     clear hcl9 hZ9 hX9 hR9 hN9 z2 zl
     obtain ⟨i, hi, rfl, hcl, hZ, hX, hR, hN⟩ := hrel
     by_cases hlt : i < n
     ·obtain ⟨g, cur, rfl, hlo, hgB, hrow⟩ := hR.out (by omega)
      have h9 : cur[i * 14 + 12]? = some (.slice (aqAt P i).A (actAt a i).make.list.length (aqAt P i).c) := (hrow i hlt).1
      have r9 : wr.cell? ⟨g, i * 14 + 12, none⟩ = some (.slice (aqAt P i).A (actAt a i).make.list.length (aqAt P i).c) := (hgB.cell _).trans h9
      obtain ⟨b, o, rfl, hblt, hcell⟩ := hrL.out.rows (by omega)
      obtain ⟨Ao, no, co, hc0⟩ := hcell i hlt
      clear hcell hrow h9
      have hno : Hid ((actAt a i).make.list.length = no) := hc0.it.len
      rw [hno.out] at r9
      have hno47 : no ≤ 140737488355328 := by rw [← hno.out]; exact hsa.out _ (actAt_mem a i (by rw [hn.out]; exact hlt))
      have hc0H := Lib.hid hc0
      have z2 := hZ.out.cell 0
      have zl := hZ.out.lt
      have gl := hgB.lt
      have ig1 : (0 : Int) ≤ (i : Int) := by omega
      have ig2 : (i : Int) < (n : Int) := by omega
      have hgz : ¬ g = yc := hgB.ne_ hZ.out (by decide)
      have hN' : Hid (∀ j, j < n → NamesSt wr w.heap.size (100 + i + 1) (aqAt P j).A (actAt a j).make.list.length (actAt a j).make.list) := fun j hj => (hN.out j hj).le (Nat.le_succ _)
      have hT : Hid (NamesTo wr (100 + i) (aqAt P i).A (actAt a i).make.list.length 0) := (hN.out i hlt).to
      clear hc0 hN hgB
      go_wp2_with fail
      go_loopw [165] (fun v wr => ∃ k : Nat, k ≤ no ∧ v = .int .i64 (k : Nat) ∧ Hid (Cln w wr) ∧ Hid (Blk wr yc 48 #[.slice (some ⟨g, 0, none⟩) n c1]) ∧ Hid (Blk wr w.heap.size 48 #[.slice (some ⟨b, o, none⟩) n c]) ∧ Hid (RowSt wr w.heap.size 90 14 1 12 (some ⟨g, 0, none⟩) n i (fun j => .string (str (actAt a j).key)) (fun j => .slice (aqAt P j).A (actAt a j).make.list.length (aqAt P j).c)) ∧ Hid (∀ j, j < n → NamesSt wr w.heap.size (100 + i + 1) (aqAt P j).A (actAt a j).make.list.length (actAt a j).make.list) ∧ Hid (NamesTo wr (100 + i) (aqAt P i).A (actAt a i).make.list.length k)) (fun v _ => (no - intOf v).toNat)
      case atStart => exact ⟨0, Nat.zero_le _, rfl, Lib.hid (cln_trans hcl.out (by (repeat with_reducible first | exact cR _ | assumption | refine cA ?_ _ | refine cD ?_ | refine cN ?_ _ | refine cS ?_ (by first | omega | (simp <;> omega)) _))), Lib.hid (hZ.out.cln (by (repeat with_reducible first | exact cR _ | assumption | refine cA ?_ _ | refine cD ?_ | refine cN ?_ _ | refine cS ?_ (by first | omega | (simp <;> omega)) _))), Lib.hid (hX.out.cln (by (repeat with_reducible first | exact cR _ | assumption | refine cA ?_ _ | refine cD ?_ | refine cN ?_ _ | refine cS ?_ (by first | omega | (simp <;> omega)) _))), Lib.hid (hR.out.cln (by (repeat with_reducible first | exact cR _ | assumption | refine cA ?_ _ | refine cD ?_ | refine cN ?_ _ | refine cS ?_ (by first | omega | (simp <;> omega)) _))), fun j hj => (hN'.out j hj).cln (by (repeat with_reducible first | exact cR _ | assumption | refine cA ?_ _ | refine cD ?_ | refine cN ?_ _ | refine cS ?_ (by first | omega | (simp <;> omega)) _)), hT⟩
      case round =>
       clear hcl hZ hX hR hN' hT z2 zl r9 gl
       obtain ⟨k, hk, rfl, hcl, hZ, hX, hR, hN, hT⟩ := hrel
       have hc := hc0H.out.cln hcl.out
       obtain ⟨g', cur, eg, _, hgB, hrow⟩ := hR.out (by omega)
       obtain rfl : g = g' := by injection eg with eg; injection eg
       have gl := hgB.lt
       have z2 := hZ.out.cell 0
       have zl := hZ.out.lt
       have x2 := hX.out.cell 0
       have xl := hX.out.lt
       have bl : b < wr.heap.size := Nat.lt_of_lt_of_le hblt hcl.out.size
       by_cases hkn : k < no
       ·obtain ⟨g2, cur2, s, eA, hlo2, hg2, hcs, hle, hsM⟩ := (hN.out i hlt).at_ hT.out (by rw [hno.out]; exact hkn)
        have h9 : cur[i * 14 + 12]? = some (.slice (aqAt P i).A (actAt a i).make.list.length (aqAt P i).c) := (hrow i hlt).1
        have r9 : wr.cell? ⟨g, i * 14 + 12, none⟩ = some (.slice (aqAt P i).A (actAt a i).make.list.length (aqAt P i).c) := (hgB.cell _).trans h9
        rw [hno.out, eA] at r9
        have d9 := hc.c12
        obtain ⟨b1, o1, rfl, hb1, hci⟩ := hc.it.cells (by omega)
        obtain ⟨_, d1⟩ := hci k hkn
        have hb1w : b1 < w.heap.size := by have := hc0H.out.it.cells (by omega); obtain ⟨b', o', e', h', _⟩ := this; injection e' with e'; injection e' with e'; omega
        clear hci h9 hrow hc
        have g2l := hg2.lt
        have g2f := hg2.frozen (k * 2 + 1)
        have hz2 : ¬ yc = g2 := fun e => hg2.ne_ hZ.out (by decide) e.symm
        have hx2 : ¬ w.heap.size = g2 := fun e => hg2.ne_ hX.out (by decide) e.symm
        skip
        have hgg2 : ¬ g = g2 := fun e => hg2.ne_ hgB (by decide) e.symm
        have hbg2 : ¬ b = g2 := by omega
        have hb1g2 : ¬ b1 = g2 := by omega
        have hz2' : ¬ g2 = yc := fun e => hz2 e.symm
        have hx2' : ¬ g2 = w.heap.size := fun e => hx2 e.symm
        have hgg2' : ¬ g2 = g := fun e => hgg2 e.symm
        have hbg2' : ¬ g2 = b := fun e => hbg2 e.symm
        have hb1g2' : ¬ g2 = b1 := fun e => hb1g2 e.symm
        replace hg2 := Lib.hid hg2; replace hgB := Lib.hid hgB
        replace hcs' := hcs; replace hcs := Lib.hid hcs; replace eA := Lib.hid eA
        have hadd := add_b s 120 (by omega)
        have hsz : ¬ (9223372036854775807 < s.length + 1) := by omega
        have hsz1 : ByteArray.size ⟨#[120]⟩ = 1 := rfl
        generalize (itAt (actAt a i).make.list k).name = nm at d1 hle
        have heq : (nm == s ++ [120]) = false := longer_ne nm s 120 hle
        have ik1 : (0 : Int) ≤ (k : Int) := by omega
        have ik2 : (k : Int) < (no : Int) := by omega
        have hclu := hcl.out
        go_wp2_with (simp only [hadd])
        go_quiet (fail)
        go_wp2_with fail
        go_roundw
        case rel => exact ⟨k + 1, hkn, by go_num, Lib.hid (by (repeat with_reducible first | exact cR _ | assumption | refine cA ?_ _ | refine cD ?_ | refine cN ?_ _ | refine cS ?_ (by first | omega | (simp <;> omega)) _)), Lib.hid ((hZ.out.far hz2 _).cln (by (repeat with_reducible first | exact cR _ | assumption | refine cA ?_ _ | refine cD ?_ | refine cN ?_ _ | refine cS ?_ (by first | omega | (simp <;> omega)) _))), Lib.hid ((hX.out.far hx2 _).cln (by (repeat with_reducible first | exact cR _ | assumption | refine cA ?_ _ | refine cD ?_ | refine cN ?_ _ | refine cS ?_ (by first | omega | (simp <;> omega)) _))), Lib.hid ((hR.out.far hg2.out (by decide) _ _).cln (by (repeat with_reducible first | exact cR _ | assumption | refine cA ?_ _ | refine cD ?_ | refine cN ?_ _ | refine cS ?_ (by first | omega | (simp <;> omega)) _))), fun j hj => ((hN.out j hj).write (s' := s ++ [120]) hcs.out (by simp) (by simp; omega)).cln (by (repeat with_reducible first | exact cR _ | assumption | refine cA ?_ _ | refine cD ?_ | refine cN ?_ _ | refine cS ?_ (by first | omega | (simp <;> omega)) _)), fun g' e' j s' h1 h2 h3 => (hT.out.write eA.out _) g' e' j s' h1 h2 h3⟩
        case measure => simp [intOf]; omega
       ·obtain rfl : no = k := by omega
        have t2 : decide ((no : Int) < (no : Int)) = false := decide_eq_false (by omega)
        have h1 : cur[i * 14 + 1]? = some (.string (str (actAt a i).key)) := (hrow i hlt).2 (Nat.le_refl _)
        have r1 : wr.cell? ⟨g, i * 14 + 1, none⟩ = some (.string (str (actAt a i).key)) := (hgB.cell _).trans h1
        have d1 := hc.c1
        have gf := hgB.frozen (i * 14 + 1)
        have hzg : ¬ yc = g := fun e => hgB.ne_ hZ.out (by decide) e.symm
        have hxg : ¬ w.heap.size = g := fun e => hgB.ne_ hX.out (by decide) e.symm
        skip
        have hbg : ¬ b = g := by omega
        have hzg' : ¬ g = yc := fun e => hzg e.symm
        have hxg' : ¬ g = w.heap.size := fun e => hxg e.symm
        have hbg' : ¬ g = b := fun e => hbg e.symm
        have hclu := hcl.out
        clear h1 hrow hc
        replace hgB := Lib.hid hgB
        have hkl : (actAt a i).key.length ≤ 200 := hkey.out i hlt
        generalize (actAt a i).key = ky at r1 d1 hkl
        have hadd := add_b ky 121 (by omega)
        have hsz : ¬ (9223372036854775807 < ky.length + 1) := by omega
        have hsz1 : ByteArray.size ⟨#[121]⟩ = 1 := rfl
        have heq : (ky == ky ++ [121]) = false := longer_ne ky ky 121 (Nat.le_refl _)
        go_wp2_with (simp only [hadd])
        go_quiet (fail)
        go_wp2_with fail
        go_roundw
        case rel => exact ⟨i + 1, hlt, by go_num, Lib.hid (by (repeat with_reducible first | exact cR _ | assumption | refine cA ?_ _ | refine cD ?_ | refine cN ?_ _ | refine cS ?_ (by first | omega | (simp <;> omega)) _)), Lib.hid ((hZ.out.far hzg _).cln (by (repeat with_reducible first | exact cR _ | assumption | refine cA ?_ _ | refine cD ?_ | refine cN ?_ _ | refine cS ?_ (by first | omega | (simp <;> omega)) _))), Lib.hid ((hX.out.far hxg _).cln (by (repeat with_reducible first | exact cR _ | assumption | refine cA ?_ _ | refine cD ?_ | refine cN ?_ _ | refine cS ?_ (by first | omega | (simp <;> omega)) _))), Lib.hid ((hR.out.write (by decide) (by decide) (by decide) rfl _).cln (by (repeat with_reducible first | exact cR _ | assumption | refine cA ?_ _ | refine cD ?_ | refine cN ?_ _ | refine cS ?_ (by first | omega | (simp <;> omega)) _))), fun j hj => ((hN.out j hj).far hgB.out (by decide) _ _).cln (by (repeat with_reducible first | exact cR _ | assumption | refine cA ?_ _ | refine cD ?_ | refine cN ?_ _ | refine cS ?_ (by first | omega | (simp <;> omega)) _))⟩
        case measure => simp [intOf]; omega
     ·obtain rfl : n = i := by omega
      have t3 : decide ((n : Int) < (n : Int)) = false := decide_eq_false (by omega)
      go_wp2_with fail
      go_ret
      exact ⟨rfl, cln_trans hcl.out (by (repeat with_reducible first | exact cR _ | assumption | refine cA ?_ _ | refine cD ?_ | refine cN ?_ _ | refine cS ?_ (by first | omega | (simp <;> omega)) _))⟩
 clear hKA
 go_region
 ·exact hJ _ _ _ _ _ _ _ (by (repeat with_reducible first | exact cR _ | assumption | refine cA ?_ _ | refine cD ?_ | refine cN ?_ _ | refine cS ?_ (by first | omega | (simp <;> omega)) _)) ((Blk.new _ _ _).alloc _).drew (by have := Blk.new (w1.alloc (.cells #[.int .i64 x.code, .int .i64 x.at_, .slice C m e0] 76)) 76 #[.int .i64 y.code, .int .i64 y.at_, .slice E q g0]; rw [World.size_alloc] at this; exact this.drew) (Nat.le_refl _) (Nat.le_succ _)
 ·exact hJ _ _ _ _ _ _ _ (by (repeat with_reducible first | exact cR _ | assumption | refine cA ?_ _ | refine cD ?_ | refine cN ?_ _ | refine cS ?_ (by first | omega | (simp <;> omega)) _)) (by have := Blk.new (w1.alloc (.cells #[.int .i64 y.code, .int .i64 y.at_, .slice E q g0] 76)) 76 #[.int .i64 x.code, .int .i64 x.at_, .slice C m e0]; rw [World.size_alloc] at this; exact this.drew) ((Blk.new _ _ _).alloc _).drew (Nat.le_succ _) (Nat.le_refl _)
end Go.Proofs.YtoeoodiifpoomaaGreatDoor
