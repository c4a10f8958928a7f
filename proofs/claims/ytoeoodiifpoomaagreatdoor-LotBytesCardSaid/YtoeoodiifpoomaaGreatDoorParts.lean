import Derived.Test.YtoeoodiifpoomaaGreatDoorDigs
import Derived.Test.YtoeoodiifpoomaaGreatDoorPlain
import Derived.Deep.RegionHeld3
import Derived.Deep.RegionLaw
/- The walks of the document's u, i, f and s: parts. -/
set_option linter.unusedSimpArgs false
set_option linter.unusedVariables false
set_option maxRecDepth 20000
namespace Go.Proofs.YtoeoodiifpoomaaGreatDoor
open Go.RowKit Moi
attribute [local go_sem] toList_str str_size less_ltB store_float
theorem Blk.store6 {w : World} {g : Nat} {t : TypeId} {a0 a1 a2 a3 a4 a5 v0 v1 v2 v3 v4 v5 : Value} (h : Blk w g t #[a0, a1, a2, a3, a4, a5]) : Blk ((((((w.setCell ⟨g, 0, none⟩ v0).setCell ⟨g, 1, none⟩ v1).setCell ⟨g, 2, none⟩ v2).setCell ⟨g, 3, none⟩ v3).setCell ⟨g, 4, none⟩ v4).setCell ⟨g, 5, none⟩ v5) g t #[v0, v1, v2, v3, v4, v5] := by
  have h0 : Blk _ g t #[v0, a1, a2, a3, a4, a5] := h.set_ 0 v0
  have h1 : Blk _ g t #[v0, v1, a2, a3, a4, a5] := h0.set_ 1 v1
  have h2 : Blk _ g t #[v0, v1, v2, a3, a4, a5] := h1.set_ 2 v2
  have h3 : Blk _ g t #[v0, v1, v2, v3, a4, a5] := h2.set_ 3 v3
  have h4 : Blk _ g t #[v0, v1, v2, v3, v4, a5] := h3.set_ 4 v4
  exact h4.set_ 5 v5
theorem size_part : (Tryz.prog.info? 132).map (·.size) = some 6 := by kernel_rfl
theorem pu_any (n : Nat) (hn : n < 9223372036854775808) (w : World) : Calls Tryz.prog 186 #[.int .i64 (n : Nat)] w fun e w' => e = .returned (.agg (partCells (.u n))) ∧ Cln w w' := by
  have hwr : IntKind.u64.wrap ((n : Nat) : Int) = ((n : Nat) : Int) := IntWalk.u64_in _ (by omega)
  go_enter Tryz.func186, Tryz.ntmps186
  go_wp2_with fail
  refine bodyPost_ret (v := .agg #[.int .u8 117, .int .u64 (n : Nat), .int .i64 0, .int .u64 0, .string ⟨#[]⟩, .bool false]) ?_ rfl ⟨rfl, ?_⟩
  · refine results_cell_row Tryz.results186 _ _ w.heap.size 132 #[.int .u8 117, .int .u64 (n : Nat), .int .i64 0, .int .u64 0, .string ⟨#[]⟩, .bool false] (0, 0) _ ?_ ?_ Tryz.underlying132 ?_ ?_
    · rfl
    · exact Blk.new w _ _
    · rfl
    · exact size_part
  · (repeat (first | (with_reducible exact Below.refl _ _) | (with_reducible assumption) | (with_reducible refine Below.setCell ?_ (by first | omega | (simp; done) | (simp; omega)) _) | (with_reducible refine Below.alloc ?_ (by first | omega | (simp; done) | (simp; omega)) _) | (with_reducible refine Below.drew ?_) | (with_reducible refine below_drewN ?_ _)))
theorem pi_any (n : Int) (w : World) : Calls Tryz.prog 188 #[.int .i64 n] w fun e w' => e = .returned (.agg (partCells (.i n))) ∧ Cln w w' := by
  go_enter Tryz.func188, Tryz.ntmps188
  go_wp2_with fail
  refine bodyPost_ret (v := .agg #[.int .u8 105, .int .u64 0, .int .i64 n, .int .u64 0, .string ⟨#[]⟩, .bool false]) ?_ rfl ⟨rfl, ?_⟩
  · refine results_cell_row Tryz.results188 _ _ w.heap.size 132 #[.int .u8 105, .int .u64 0, .int .i64 n, .int .u64 0, .string ⟨#[]⟩, .bool false] (0, 0) _ ?_ ?_ Tryz.underlying132 ?_ ?_
    · rfl
    · exact Blk.new w _ _
    · rfl
    · exact size_part
  · (repeat (first | (with_reducible exact Below.refl _ _) | (with_reducible assumption) | (with_reducible refine Below.setCell ?_ (by first | omega | (simp; done) | (simp; omega)) _) | (with_reducible refine Below.alloc ?_ (by first | omega | (simp; done) | (simp; omega)) _) | (with_reducible refine Below.drew ?_) | (with_reducible refine below_drewN ?_ _)))
theorem ps_any (x : List UInt8) (w : World) : Calls Tryz.prog 187 #[.string (str x)] w fun e w' => e = .returned (.agg (partCells (.s x))) ∧ Cln w w' := by
  go_enter Tryz.func187, Tryz.ntmps187
  go_wp2_with fail
  refine bodyPost_ret (v := .agg #[.int .u8 115, .int .u64 0, .int .i64 0, .int .u64 0, .string (str x), .bool false]) ?_ rfl ⟨rfl, ?_⟩
  · refine results_cell_row Tryz.results187 _ _ w.heap.size 132 #[.int .u8 115, .int .u64 0, .int .i64 0, .int .u64 0, .string (str x), .bool false] (0, 0) _ ?_ ?_ Tryz.underlying132 ?_ ?_
    · rfl
    · exact Blk.new w _ _
    · rfl
    · exact size_part
  · (repeat (first | (with_reducible exact Below.refl _ _) | (with_reducible assumption) | (with_reducible refine Below.setCell ?_ (by first | omega | (simp; done) | (simp; omega)) _) | (with_reducible refine Below.alloc ?_ (by first | omega | (simp; done) | (simp; omega)) _) | (with_reducible refine Below.drew ?_) | (with_reducible refine below_drewN ?_ _)))
theorem pf_any (x : Nat) (hx : x < 18446744073709551616) (w : World) : Calls Tryz.prog 189 #[.float .f64 x] w fun e w' => e = .returned (.agg (partCells (.f (fkey x)))) ∧ Cln w w' := by
  go_enter Tryz.func189, Tryz.ntmps189
  go_wp2_with (go_at_call 162; refine (place_any _ hx _).mono ?_; rintro e w' ⟨rfl, rfl⟩)
  refine bodyPost_ret (v := .agg #[.int .u8 102, .int .u64 0, .int .i64 0, .int .u64 (fkey x : Nat), .string ⟨#[]⟩, .bool false]) ?_ rfl ⟨rfl, ?_⟩
  · refine results_cell_row Tryz.results189 _ _ w.heap.size 132 #[.int .u8 102, .int .u64 0, .int .i64 0, .int .u64 (fkey x : Nat), .string ⟨#[]⟩, .bool false] (0, 0) _ ?_ ?_ Tryz.underlying132 ?_ ?_
    · rfl
    · exact Blk.new w _ _
    · rfl
    · exact size_part
  · (repeat (first | (with_reducible exact Below.refl _ _) | (with_reducible assumption) | (with_reducible refine Below.setCell ?_ (by first | omega | (simp; done) | (simp; omega)) _) | (with_reducible refine Below.alloc ?_ (by first | omega | (simp; done) | (simp; omega)) _) | (with_reducible refine Below.drew ?_) | (with_reducible refine below_drewN ?_ _)))
/-! Rows of parts. -/
theorem Tryz.info132 : (Tryz.prog.info? 132).map (fun i => (i.zero, i.size, i.bytes)) = some (some (.agg #[.int .u8 0, .int .u64 0, .int .i64 0, .int .u64 0, .string ⟨#[]⟩, .bool false]), 6, 56) := by kernel_rfl
def partVals (l : List MPart) : List Value := l.flatMap fun p => (partCells p).toList
theorem partCells_size (p : MPart) : (partCells p).toList.length = 6 := by cases p <;> rfl
theorem partVals_length (l : List MPart) : (partVals l).length = l.length * 6 := by
  induction l with
  | nil => rfl
  | cons p l ih => simp only [partVals, List.flatMap_cons, List.length_append, List.length_cons] at *; rw [ih, partCells_size]; omega
theorem partVals_append (a b : List MPart) : partVals (a ++ b) = partVals a ++ partVals b := by simp [partVals]
theorem partVals_one_cell (l : List MPart) : ∀ u ∈ partVals l, u.oneCell' = true := by
  intro u hu
  simp only [partVals, List.mem_flatMap] at hu
  obtain ⟨p, _, hp⟩ := hu
  cases p <;> simp [partCells] at hp <;> rcases hp with rfl | rfl | rfl | rfl | rfl | rfl <;> rfl
theorem partVals_get (l : List MPart) : ∀ i, i < l.length → ∀ j, j < 6 → (partVals l)[i * 6 + j]? = (partCells (partAt l i))[j]? := by
  induction l with
  | nil => intro i hi; simp at hi
  | cons p l ih =>
    intro i hi j hj
    have hs := partCells_size p
    rcases i with _ | i
    · simp only [partVals, List.flatMap_cons, Nat.zero_mul, Nat.zero_add]
      rw [List.getElem?_append_left (by omega)]
      simp [partAt]
    · have h1 := ih i (by simpa using hi) j hj
      simp only [partVals, List.flatMap_cons] at h1 ⊢
      rw [List.getElem?_append_right (by omega), hs, show (i + 1) * 6 + j - 6 = i * 6 + j from by omega, h1]
      simp [partAt]
theorem own_parts {w : World} {base n c : Nat} {A : Option Addr} {l : List MPart} (h : w.ownsRow base 132 6 (.slice A n c) n (partVals l)) : RdParts w A n l := by
  have hl : l.length = n := by have := h.1; rw [partVals_length] at this; omega
  refine ⟨hl, fun h0 => ?_⟩
  rcases h.2 with ⟨_, hn⟩ | ⟨g, cap, cur, hv, hb, hg, hn, hm, hs, ht⟩
  · omega
  · injection hv with h1 h2 h3
    refine ⟨g, 0, h1, lt_of_block hg, fun i hi j hj => ?_⟩
    rw [Nat.zero_add, cell_of_row w g (i * 6 + j) cur _ _ hg, ← partVals_get l i (by omega) j hj, ← ht, List.getElem?_take_of_lt (by omega), Array.getElem?_toList]
section
variable {w : World} {base n m c g : Nat} {v : Value} {l1 l2 : List MPart} {cs : Array Value}
theorem run_catP (t : TypeId) (hown : w.ownsRow base 132 6 v n (partVals l1)) (hlit : Blk w g 132 cs) (hcs : cs.toList = partVals l2) (hm : l2.length = m) (hb : n + m ≤ 1000000) (hbase : base ≤ w.heap.size) :
    ∃ A' c' w', (Builtin.append_ #[97, 97] t #[v, .slice (some ⟨g, 0, none⟩) m c]).run Tryz.prog w = .ok (.slice A' (n + m) c') w' ∧ w'.ownsRow base 132 6 (.slice A' (n + m) c') (n + m) (partVals (l1 ++ l2)) ∧ w.grownBy w' v.ownBlock := by
  obtain ⟨i0, hi, hz0, hz1, hz2⟩ := info_parts Tryz.info132
  have hl : (partVals l2).length = m * 6 := by rw [partVals_length, hm]
  have hsrc : ∀ j u, (partVals l2)[j]? = some u → w.cell? ((⟨g, 0, none⟩ : Addr).add j) = some u := by
    intro j u hu
    have hadd : (⟨g, 0, none⟩ : Addr).add j = ⟨g, j, none⟩ := by unfold Addr.add; split <;> simp_all
    rw [hadd, hlit.cell j, ← Array.getElem?_toList, hcs, hu]
  obtain ⟨v', w', h1, h2, h3, _⟩ := run_append_own w base 97 t 132 i0 (.agg #[.int .u8 0, .int .u64 0, .int .i64 0, .int .u64 0, .string ⟨#[]⟩, .bool false]) 6 56 Tryz.underlying97 hi hz0 hz1 hz2 rfl (by decide) v n (partVals l1) hown ⟨g, 0, none⟩ m c (partVals l2) hl hsrc (partVals_one_cell _) (by simp only [maxLen]; omega) (by omega) hbase
  obtain ⟨A', c', rfl, _⟩ := own_form h2
  exact ⟨A', c', w', h1, by rw [partVals_append]; exact h2, h3⟩
variable {ops : Array Oper} {rest : List Oper} {o : Oper} {a : Act} {K : Act → World → Prop} {Q : Exit → Act → World → Prop} {E : Prop}
theorem wp_catP (s x : Operand) (ho : o.op = .call { callee := .builtin .append, args := #[s, x], argTypes := #[97, 97] }) (hs : a.eval s = v) (hx : a.eval x = .slice (some ⟨g, 0, none⟩) m c)
    (hown : w.ownsRow base 132 6 v n (partVals l1)) (hlit : Blk w g 132 cs) (hcs : cs.toList = partVals l2) (hm : l2.length = m) (hb : n + m ≤ 1000000) (hbase : base ≤ w.heap.size)
    (h : ∀ A' c' w', w'.ownsRow base 132 6 (.slice A' (n + m) c') (n + m) (partVals (l1 ++ l2)) → w.grownBy w' v.ownBlock → K (a.put o.dst (.slice A' (n + m) c')) w') : o.wp Tryz.prog a w K Q := by
  obtain ⟨A', c', w', h1, h2, h3⟩ := run_catP (c := c) o.type hown hlit hcs hm hb hbase
  unfold Oper.wp execOp
  simp only [ho, resolve, invoke, builtin, Sem.run_bind, Sem.run_pure, Result.andThen_ok, List.map_toArray, List.map_cons, List.map_nil, hs, hx, h1]
  exact h A' c' w' h2 h3
theorem step_catP (hgd : o.guard = none) (s x : Operand) (ho : o.op = .call { callee := .builtin .append, args := #[s, x], argTypes := #[97, 97] }) (hs : a.eval s = v) (hx : a.eval x = .slice (some ⟨g, 0, none⟩) m c)
    (hown : w.ownsRow base 132 6 v n (partVals l1)) (hlit : Blk w g 132 cs) (hcs : cs.toList = partVals l2) (hm : l2.length = m) (hb : n + m ≤ 1000000) (hbase : base ≤ w.heap.size)
    (h : ∀ A' c' w', w'.ownsRow base 132 6 (.slice A' (n + m) c') (n + m) (partVals (l1 ++ l2)) → w.grownBy w' v.ownBlock → K (a.put o.dst (.slice A' (n + m) c')) w') :
    if Region.wanted o (yielded ops a.tmps) = true then Oper.wp Tryz.prog o a w K Q else E := by
  have hw : Region.wanted o (yielded ops a.tmps) = true := by simp [Region.wanted, hgd]
  rw [if_pos hw]
  exact wp_catP s x ho hs hx hown hlit hcs hm hb hbase h
theorem wpList_catP (hgd : o.guard = none) (s x : Operand) (ho : o.op = .call { callee := .builtin .append, args := #[s, x], argTypes := #[97, 97] }) (hs : a.eval s = v) (hx : a.eval x = .slice (some ⟨g, 0, none⟩) m c)
    (hown : w.ownsRow base 132 6 v n (partVals l1)) (hlit : Blk w g 132 cs) (hcs : cs.toList = partVals l2) (hm : l2.length = m) (hb : n + m ≤ 1000000) (hbase : base ≤ w.heap.size)
    (h : ∀ A' c' w', w'.ownsRow base 132 6 (.slice A' (n + m) c') (n + m) (partVals (l1 ++ l2)) → w.grownBy w' v.ownBlock → wpList Tryz.prog ops Q rest (a.put o.dst (.slice A' (n + m) c')) w') :
    wpList Tryz.prog ops Q (o :: rest) a w :=
  wpList_plain hgd fun _ hK => wp_catP s x ho hs hx hown hlit hcs hm hb hbase fun A' c' w' h2 h3 => hK _ _ (h A' c' w' h2 h3)
end
end Go.Proofs.YtoeoodiifpoomaaGreatDoor

/- The walk of the document's Parts: a record as parts. (Printed by wip/tools/gen_parts.py.) -/
set_option linter.unusedSimpArgs false
set_option linter.unusedVariables false
set_option maxRecDepth 20000
namespace Moi
/-- A record as parts. -/
def itemParts (top : Bool) (x : MItem) : List MPart := (if top then [.f (fkey x.score)] else []) ++ [.s x.name]
def recParts (r : MRec) : List MPart :=
  .u r.kind.toNat :: (if r.kind = 1 then [.s r.text] else if r.kind = 2 ∨ r.kind = 3 then [.i r.num] else if r.kind = 4 then [.i r.low, .i r.high, .i r.num]
    else if r.kind = 5 ∨ r.kind = 6 ∨ r.kind = 7 then [.f (fkey r.real)] else .u r.cap.toNat :: .u r.list.length :: r.list.flatMap (itemParts (decide (r.kind = 9))))
theorem catParts_items (top : Bool) (l : List MItem) : (l.flatMap (itemParts top)).flatMap wPart = wItems top l := by
  induction l with
  | nil => rfl
  | cons x l ih =>
    rw [List.flatMap_cons, List.flatMap_append, ih, wItems_cons]
    cases top <;> simp [itemParts, wPart, wF]
theorem catParts_rec (r : MRec) : (recParts r).flatMap wPart = wRec r := by
  unfold recParts wRec
  rw [List.flatMap_cons]
  simp only [wPart]
  congr 1
  split
  · simp [wPart]
  · split
    · simp [wPart]
    · split
      · simp [wPart]
      · split
        · simp [wPart, wF]
        · simp only [List.flatMap_cons, wPart, catParts_items]
end Moi
namespace Go.Proofs.YtoeoodiifpoomaaGreatDoor
open Go.RowKit Moi
attribute [local go_sem] toList_str str_size less_ltB store_float
theorem heldKeep3 {W W' : World} {p0 p1 p2 : Addr} {v0 v1 v2 : Value} (hq : Cln W W')
    (h : W.cell? p0 = some v0 ∧ W.cell? p1 = some v1 ∧ W.cell? p2 = some v2) :
    W'.cell? p0 = some v0 ∧ W'.cell? p1 = some v1 ∧ W'.cell? p2 = some v2 := by
  have k := Kept.of_below (S := fun _ => False) hq
  obtain ⟨h0, h1, h2⟩ := h
  exact ⟨k.cell h0 id, k.cell h1 id, k.cell h2 id⟩
theorem heldKeepG {W W' : World} {g : Option Nat} {p0 p1 p2 : Addr} {v0 v1 v2 : Value} (hq : W.grownBy W' g) (n0 : ∀ k, g = some k → p0.block ≠ k) (n1 : ∀ k, g = some k → p1.block ≠ k) (n2 : ∀ k, g = some k → p2.block ≠ k)
    (h : W.cell? p0 = some v0 ∧ W.cell? p1 = some v1 ∧ W.cell? p2 = some v2) :
    W'.cell? p0 = some v0 ∧ W'.cell? p1 = some v1 ∧ W'.cell? p2 = some v2 := by
  have k := (Kept.refl (fun j => g = some j) W).grown hq (fun k e _ => e)
  obtain ⟨h0, h1, h2⟩ := h
  exact ⟨k.cell h0 (fun e => n0 _ e rfl), k.cell h1 (fun e => n1 _ e rfl), k.cell h2 (fun e => n2 _ e rfl)⟩
def NewParts (w : World) (l : List MPart) (e : Ending) (w' : World) : Prop := ∃ A c n, e = .returned (.slice A n c) ∧ RdParts w' A n l ∧ Cln w w'
set_option maxHeartbeats 8000000 in
theorem parts_1 (r : MRec) (hk : r.kind = 1) (A : Option Addr) (n c : Nat) (hreal : r.real < 18446744073709551616) (w : World) :
    Calls Tryz.prog 163 #[.agg #[.int .i64 1, .int .i64 r.num, .int .i64 r.low, .int .i64 r.high, .float .f64 r.real, .int .i64 r.cap, .string (str r.text), .slice A n c]] w (NewParts w (recParts r)) := by
  have hb0 := Lib.hid (Blk.new w 83 #[.int .i64 1, .int .i64 r.num, .int .i64 r.low, .int .i64 r.high, .float .f64 r.real, .int .i64 r.cap, .string (str r.text), .slice A n c])
  have hcl0 := Lib.hid (show Cln w (w.alloc (.cells #[.int .i64 1, .int .i64 r.num, .int .i64 r.low, .int .i64 r.high, .float .f64 r.real, .int .i64 r.cap, .string (str r.text), .slice A n c] 83)) from by (repeat (first | (with_reducible exact Below.refl _ _) | (with_reducible assumption) | (with_reducible refine Below.setCell ?_ (by first | omega | (simp; done) | (simp; omega)) _) | (with_reducible refine Below.alloc ?_ (by first | omega | (simp; done) | (simp; omega)) _) | (with_reducible refine Below.drew ?_) | (with_reducible refine below_drewN ?_ _))))
  go_enter Tryz.func163, Tryz.ntmps163
  go_wp2_with fail
  refine (pu_any 1 (by decide) _).mono ?_; rintro e w1 ⟨rfl, hq⟩
  rw [show partCells (.u 1) = #[.int .u8 117, .int .u64 1, .int .i64 0, .int .u64 0, .string ⟨#[]⟩, .bool false] from rfl]
  have hcl1 := Lib.hid (cln_trans hcl0.out hq)
  have hb1 := hb0.out.cln hq
  have g0 := hb1.cell 0; have g1 := hb1.cell 1; have g2 := hb1.cell 2; have g3 := hb1.cell 3; have g4 := hb1.cell 4; have g5 := hb1.cell 5; have g6 := hb1.cell 6; have g7 := hb1.cell 7
  replace hb1 := Lib.hid hb1
  have hsz1 : w.heap.size < w1.heap.size := by have := hb1.out.lt; omega
  have hown1 := Lib.hid (World.ownsRow_lit (base := w.heap.size) (e := 132) (size := 6) w1 #[.int .u8 117, .int .u64 1, .int .i64 0, .int .u64 0, .string ⟨#[]⟩, .bool false] 1 (by omega) (by decide) rfl)
  clear hq hcl0 hb0
  have hne : ¬ w.heap.size = w1.heap.size := by omega
  have hne' : ¬ w1.heap.size = w.heap.size := by omega
  go_wp2_with fail
  refine (ps_any r.text _).mono ?_; rintro e w2 ⟨rfl, hq⟩
  rw [show partCells (.s r.text) = #[.int .u8 115, .int .u64 0, .int .i64 0, .int .u64 0, .string (str r.text), .bool false] from rfl]
  have hown2 := Lib.hid (own_cln hown1.out hq)
  have hcl2 := Lib.hid (cln_trans (show Cln w _ from hcl1.out.alloc (Nat.le_of_lt hsz1) _) hq)
  have hsz2 : w.heap.size ≤ w2.heap.size := hcl2.out.size
  clear hq g0 g1 g2 g3 g4 g5 g6 g7
  go_wp2_with (
    at_builtin
    refine wpList_catP (l1 := [.u 1]) (l2 := [.s r.text]) rfl _ _ rfl rfl rfl (own_cln hown2.out (by (repeat (first | (with_reducible exact Below.refl _ _) | (with_reducible assumption) | (with_reducible refine Below.setCell ?_ (by first | omega | (simp; done) | (simp; omega)) _) | (with_reducible refine Below.alloc ?_ (by first | omega | (simp; done) | (simp; omega)) _) | (with_reducible refine Below.drew ?_) | (with_reducible refine below_drewN ?_ _))))) (Blk.new w2 _ _) rfl rfl (by decide) (by simp; omega) ?_
    intro A5 c5 w5 hown5 hg5
    have hkeep := Lib.hid (And.intro hown5 ((hcl2.out.alloc hsz2 _).grown hg5 (by simp; omega) (fun q hq => own_lo hown2.out q hq)))
    clear hown5 hg5)
  go_ret
  refine ⟨A5, c5, 1 + 1, rfl, ?_, hkeep.out.2⟩
  rw [show recParts r = [.u 1] ++ [.s r.text] from by unfold recParts; rw [hk]; simp]
  exact own_parts hkeep.out.1
set_option maxHeartbeats 8000000 in
theorem parts_2 (r : MRec) (hk : r.kind = 2) (A : Option Addr) (n c : Nat) (hreal : r.real < 18446744073709551616) (w : World) :
    Calls Tryz.prog 163 #[.agg #[.int .i64 2, .int .i64 r.num, .int .i64 r.low, .int .i64 r.high, .float .f64 r.real, .int .i64 r.cap, .string (str r.text), .slice A n c]] w (NewParts w (recParts r)) := by
  have hb0 := Lib.hid (Blk.new w 83 #[.int .i64 2, .int .i64 r.num, .int .i64 r.low, .int .i64 r.high, .float .f64 r.real, .int .i64 r.cap, .string (str r.text), .slice A n c])
  have hcl0 := Lib.hid (show Cln w (w.alloc (.cells #[.int .i64 2, .int .i64 r.num, .int .i64 r.low, .int .i64 r.high, .float .f64 r.real, .int .i64 r.cap, .string (str r.text), .slice A n c] 83)) from by (repeat (first | (with_reducible exact Below.refl _ _) | (with_reducible assumption) | (with_reducible refine Below.setCell ?_ (by first | omega | (simp; done) | (simp; omega)) _) | (with_reducible refine Below.alloc ?_ (by first | omega | (simp; done) | (simp; omega)) _) | (with_reducible refine Below.drew ?_) | (with_reducible refine below_drewN ?_ _))))
  go_enter Tryz.func163, Tryz.ntmps163
  go_wp2_with fail
  refine (pu_any 2 (by decide) _).mono ?_; rintro e w1 ⟨rfl, hq⟩
  rw [show partCells (.u 2) = #[.int .u8 117, .int .u64 2, .int .i64 0, .int .u64 0, .string ⟨#[]⟩, .bool false] from rfl]
  have hcl1 := Lib.hid (cln_trans hcl0.out hq)
  have hb1 := hb0.out.cln hq
  have g0 := hb1.cell 0; have g1 := hb1.cell 1; have g2 := hb1.cell 2; have g3 := hb1.cell 3; have g4 := hb1.cell 4; have g5 := hb1.cell 5; have g6 := hb1.cell 6; have g7 := hb1.cell 7
  replace hb1 := Lib.hid hb1
  have hsz1 : w.heap.size < w1.heap.size := by have := hb1.out.lt; omega
  have hown1 := Lib.hid (World.ownsRow_lit (base := w.heap.size) (e := 132) (size := 6) w1 #[.int .u8 117, .int .u64 2, .int .i64 0, .int .u64 0, .string ⟨#[]⟩, .bool false] 1 (by omega) (by decide) rfl)
  clear hq hcl0 hb0
  have hne : ¬ w.heap.size = w1.heap.size := by omega
  have hne' : ¬ w1.heap.size = w.heap.size := by omega
  go_wp2_with fail
  refine (pi_any r.num _).mono ?_; rintro e w2 ⟨rfl, hq⟩
  rw [show partCells (.i r.num) = #[.int .u8 105, .int .u64 0, .int .i64 r.num, .int .u64 0, .string ⟨#[]⟩, .bool false] from rfl]
  have hown2 := Lib.hid (own_cln hown1.out hq)
  have hcl2 := Lib.hid (cln_trans (show Cln w _ from hcl1.out.alloc (Nat.le_of_lt hsz1) _) hq)
  have hsz2 : w.heap.size ≤ w2.heap.size := hcl2.out.size
  clear hq g0 g1 g2 g3 g4 g5 g6 g7
  go_wp2_with (
    at_builtin
    refine wpList_catP (l1 := [.u 2]) (l2 := [.i r.num]) rfl _ _ rfl rfl rfl (own_cln hown2.out (by (repeat (first | (with_reducible exact Below.refl _ _) | (with_reducible assumption) | (with_reducible refine Below.setCell ?_ (by first | omega | (simp; done) | (simp; omega)) _) | (with_reducible refine Below.alloc ?_ (by first | omega | (simp; done) | (simp; omega)) _) | (with_reducible refine Below.drew ?_) | (with_reducible refine below_drewN ?_ _))))) (Blk.new w2 _ _) rfl rfl (by decide) (by simp; omega) ?_
    intro A5 c5 w5 hown5 hg5
    have hkeep := Lib.hid (And.intro hown5 ((hcl2.out.alloc hsz2 _).grown hg5 (by simp; omega) (fun q hq => own_lo hown2.out q hq)))
    clear hown5 hg5)
  go_ret
  refine ⟨A5, c5, 1 + 1, rfl, ?_, hkeep.out.2⟩
  rw [show recParts r = [.u 2] ++ [.i r.num] from by unfold recParts; rw [hk]; simp]
  exact own_parts hkeep.out.1
set_option maxHeartbeats 8000000 in
theorem parts_3 (r : MRec) (hk : r.kind = 3) (A : Option Addr) (n c : Nat) (hreal : r.real < 18446744073709551616) (w : World) :
    Calls Tryz.prog 163 #[.agg #[.int .i64 3, .int .i64 r.num, .int .i64 r.low, .int .i64 r.high, .float .f64 r.real, .int .i64 r.cap, .string (str r.text), .slice A n c]] w (NewParts w (recParts r)) := by
  have hb0 := Lib.hid (Blk.new w 83 #[.int .i64 3, .int .i64 r.num, .int .i64 r.low, .int .i64 r.high, .float .f64 r.real, .int .i64 r.cap, .string (str r.text), .slice A n c])
  have hcl0 := Lib.hid (show Cln w (w.alloc (.cells #[.int .i64 3, .int .i64 r.num, .int .i64 r.low, .int .i64 r.high, .float .f64 r.real, .int .i64 r.cap, .string (str r.text), .slice A n c] 83)) from by (repeat (first | (with_reducible exact Below.refl _ _) | (with_reducible assumption) | (with_reducible refine Below.setCell ?_ (by first | omega | (simp; done) | (simp; omega)) _) | (with_reducible refine Below.alloc ?_ (by first | omega | (simp; done) | (simp; omega)) _) | (with_reducible refine Below.drew ?_) | (with_reducible refine below_drewN ?_ _))))
  go_enter Tryz.func163, Tryz.ntmps163
  go_wp2_with fail
  refine (pu_any 3 (by decide) _).mono ?_; rintro e w1 ⟨rfl, hq⟩
  rw [show partCells (.u 3) = #[.int .u8 117, .int .u64 3, .int .i64 0, .int .u64 0, .string ⟨#[]⟩, .bool false] from rfl]
  have hcl1 := Lib.hid (cln_trans hcl0.out hq)
  have hb1 := hb0.out.cln hq
  have g0 := hb1.cell 0; have g1 := hb1.cell 1; have g2 := hb1.cell 2; have g3 := hb1.cell 3; have g4 := hb1.cell 4; have g5 := hb1.cell 5; have g6 := hb1.cell 6; have g7 := hb1.cell 7
  replace hb1 := Lib.hid hb1
  have hsz1 : w.heap.size < w1.heap.size := by have := hb1.out.lt; omega
  have hown1 := Lib.hid (World.ownsRow_lit (base := w.heap.size) (e := 132) (size := 6) w1 #[.int .u8 117, .int .u64 3, .int .i64 0, .int .u64 0, .string ⟨#[]⟩, .bool false] 1 (by omega) (by decide) rfl)
  clear hq hcl0 hb0
  have hne : ¬ w.heap.size = w1.heap.size := by omega
  have hne' : ¬ w1.heap.size = w.heap.size := by omega
  go_wp2_with fail
  refine (pi_any r.num _).mono ?_; rintro e w2 ⟨rfl, hq⟩
  rw [show partCells (.i r.num) = #[.int .u8 105, .int .u64 0, .int .i64 r.num, .int .u64 0, .string ⟨#[]⟩, .bool false] from rfl]
  have hown2 := Lib.hid (own_cln hown1.out hq)
  have hcl2 := Lib.hid (cln_trans (show Cln w _ from hcl1.out.alloc (Nat.le_of_lt hsz1) _) hq)
  have hsz2 : w.heap.size ≤ w2.heap.size := hcl2.out.size
  clear hq g0 g1 g2 g3 g4 g5 g6 g7
  go_wp2_with (
    at_builtin
    refine wpList_catP (l1 := [.u 3]) (l2 := [.i r.num]) rfl _ _ rfl rfl rfl (own_cln hown2.out (by (repeat (first | (with_reducible exact Below.refl _ _) | (with_reducible assumption) | (with_reducible refine Below.setCell ?_ (by first | omega | (simp; done) | (simp; omega)) _) | (with_reducible refine Below.alloc ?_ (by first | omega | (simp; done) | (simp; omega)) _) | (with_reducible refine Below.drew ?_) | (with_reducible refine below_drewN ?_ _))))) (Blk.new w2 _ _) rfl rfl (by decide) (by simp; omega) ?_
    intro A5 c5 w5 hown5 hg5
    have hkeep := Lib.hid (And.intro hown5 ((hcl2.out.alloc hsz2 _).grown hg5 (by simp; omega) (fun q hq => own_lo hown2.out q hq)))
    clear hown5 hg5)
  go_ret
  refine ⟨A5, c5, 1 + 1, rfl, ?_, hkeep.out.2⟩
  rw [show recParts r = [.u 3] ++ [.i r.num] from by unfold recParts; rw [hk]; simp]
  exact own_parts hkeep.out.1
set_option maxHeartbeats 8000000 in
theorem parts_5 (r : MRec) (hk : r.kind = 5) (A : Option Addr) (n c : Nat) (hreal : r.real < 18446744073709551616) (w : World) :
    Calls Tryz.prog 163 #[.agg #[.int .i64 5, .int .i64 r.num, .int .i64 r.low, .int .i64 r.high, .float .f64 r.real, .int .i64 r.cap, .string (str r.text), .slice A n c]] w (NewParts w (recParts r)) := by
  have hb0 := Lib.hid (Blk.new w 83 #[.int .i64 5, .int .i64 r.num, .int .i64 r.low, .int .i64 r.high, .float .f64 r.real, .int .i64 r.cap, .string (str r.text), .slice A n c])
  have hcl0 := Lib.hid (show Cln w (w.alloc (.cells #[.int .i64 5, .int .i64 r.num, .int .i64 r.low, .int .i64 r.high, .float .f64 r.real, .int .i64 r.cap, .string (str r.text), .slice A n c] 83)) from by (repeat (first | (with_reducible exact Below.refl _ _) | (with_reducible assumption) | (with_reducible refine Below.setCell ?_ (by first | omega | (simp; done) | (simp; omega)) _) | (with_reducible refine Below.alloc ?_ (by first | omega | (simp; done) | (simp; omega)) _) | (with_reducible refine Below.drew ?_) | (with_reducible refine below_drewN ?_ _))))
  go_enter Tryz.func163, Tryz.ntmps163
  go_wp2_with fail
  refine (pu_any 5 (by decide) _).mono ?_; rintro e w1 ⟨rfl, hq⟩
  rw [show partCells (.u 5) = #[.int .u8 117, .int .u64 5, .int .i64 0, .int .u64 0, .string ⟨#[]⟩, .bool false] from rfl]
  have hcl1 := Lib.hid (cln_trans hcl0.out hq)
  have hb1 := hb0.out.cln hq
  have g0 := hb1.cell 0; have g1 := hb1.cell 1; have g2 := hb1.cell 2; have g3 := hb1.cell 3; have g4 := hb1.cell 4; have g5 := hb1.cell 5; have g6 := hb1.cell 6; have g7 := hb1.cell 7
  replace hb1 := Lib.hid hb1
  have hsz1 : w.heap.size < w1.heap.size := by have := hb1.out.lt; omega
  have hown1 := Lib.hid (World.ownsRow_lit (base := w.heap.size) (e := 132) (size := 6) w1 #[.int .u8 117, .int .u64 5, .int .i64 0, .int .u64 0, .string ⟨#[]⟩, .bool false] 1 (by omega) (by decide) rfl)
  clear hq hcl0 hb0
  have hne : ¬ w.heap.size = w1.heap.size := by omega
  have hne' : ¬ w1.heap.size = w.heap.size := by omega
  go_wp2_with fail
  refine (pf_any r.real hreal _).mono ?_; rintro e w2 ⟨rfl, hq⟩
  rw [show partCells (.f (fkey r.real)) = #[.int .u8 102, .int .u64 0, .int .i64 0, .int .u64 (fkey r.real : Nat), .string ⟨#[]⟩, .bool false] from rfl]
  have hown2 := Lib.hid (own_cln hown1.out hq)
  have hcl2 := Lib.hid (cln_trans (show Cln w _ from hcl1.out.alloc (Nat.le_of_lt hsz1) _) hq)
  have hsz2 : w.heap.size ≤ w2.heap.size := hcl2.out.size
  clear hq g0 g1 g2 g3 g4 g5 g6 g7
  go_wp2_with (
    at_builtin
    refine wpList_catP (l1 := [.u 5]) (l2 := [.f (fkey r.real)]) rfl _ _ rfl rfl rfl (own_cln hown2.out (by (repeat (first | (with_reducible exact Below.refl _ _) | (with_reducible assumption) | (with_reducible refine Below.setCell ?_ (by first | omega | (simp; done) | (simp; omega)) _) | (with_reducible refine Below.alloc ?_ (by first | omega | (simp; done) | (simp; omega)) _) | (with_reducible refine Below.drew ?_) | (with_reducible refine below_drewN ?_ _))))) (Blk.new w2 _ _) rfl rfl (by decide) (by simp; omega) ?_
    intro A5 c5 w5 hown5 hg5
    have hkeep := Lib.hid (And.intro hown5 ((hcl2.out.alloc hsz2 _).grown hg5 (by simp; omega) (fun q hq => own_lo hown2.out q hq)))
    clear hown5 hg5)
  go_ret
  refine ⟨A5, c5, 1 + 1, rfl, ?_, hkeep.out.2⟩
  rw [show recParts r = [.u 5] ++ [.f (fkey r.real)] from by unfold recParts; rw [hk]; simp]
  exact own_parts hkeep.out.1
set_option maxHeartbeats 8000000 in
theorem parts_6 (r : MRec) (hk : r.kind = 6) (A : Option Addr) (n c : Nat) (hreal : r.real < 18446744073709551616) (w : World) :
    Calls Tryz.prog 163 #[.agg #[.int .i64 6, .int .i64 r.num, .int .i64 r.low, .int .i64 r.high, .float .f64 r.real, .int .i64 r.cap, .string (str r.text), .slice A n c]] w (NewParts w (recParts r)) := by
  have hb0 := Lib.hid (Blk.new w 83 #[.int .i64 6, .int .i64 r.num, .int .i64 r.low, .int .i64 r.high, .float .f64 r.real, .int .i64 r.cap, .string (str r.text), .slice A n c])
  have hcl0 := Lib.hid (show Cln w (w.alloc (.cells #[.int .i64 6, .int .i64 r.num, .int .i64 r.low, .int .i64 r.high, .float .f64 r.real, .int .i64 r.cap, .string (str r.text), .slice A n c] 83)) from by (repeat (first | (with_reducible exact Below.refl _ _) | (with_reducible assumption) | (with_reducible refine Below.setCell ?_ (by first | omega | (simp; done) | (simp; omega)) _) | (with_reducible refine Below.alloc ?_ (by first | omega | (simp; done) | (simp; omega)) _) | (with_reducible refine Below.drew ?_) | (with_reducible refine below_drewN ?_ _))))
  go_enter Tryz.func163, Tryz.ntmps163
  go_wp2_with fail
  refine (pu_any 6 (by decide) _).mono ?_; rintro e w1 ⟨rfl, hq⟩
  rw [show partCells (.u 6) = #[.int .u8 117, .int .u64 6, .int .i64 0, .int .u64 0, .string ⟨#[]⟩, .bool false] from rfl]
  have hcl1 := Lib.hid (cln_trans hcl0.out hq)
  have hb1 := hb0.out.cln hq
  have g0 := hb1.cell 0; have g1 := hb1.cell 1; have g2 := hb1.cell 2; have g3 := hb1.cell 3; have g4 := hb1.cell 4; have g5 := hb1.cell 5; have g6 := hb1.cell 6; have g7 := hb1.cell 7
  replace hb1 := Lib.hid hb1
  have hsz1 : w.heap.size < w1.heap.size := by have := hb1.out.lt; omega
  have hown1 := Lib.hid (World.ownsRow_lit (base := w.heap.size) (e := 132) (size := 6) w1 #[.int .u8 117, .int .u64 6, .int .i64 0, .int .u64 0, .string ⟨#[]⟩, .bool false] 1 (by omega) (by decide) rfl)
  clear hq hcl0 hb0
  have hne : ¬ w.heap.size = w1.heap.size := by omega
  have hne' : ¬ w1.heap.size = w.heap.size := by omega
  go_wp2_with fail
  refine (pf_any r.real hreal _).mono ?_; rintro e w2 ⟨rfl, hq⟩
  rw [show partCells (.f (fkey r.real)) = #[.int .u8 102, .int .u64 0, .int .i64 0, .int .u64 (fkey r.real : Nat), .string ⟨#[]⟩, .bool false] from rfl]
  have hown2 := Lib.hid (own_cln hown1.out hq)
  have hcl2 := Lib.hid (cln_trans (show Cln w _ from hcl1.out.alloc (Nat.le_of_lt hsz1) _) hq)
  have hsz2 : w.heap.size ≤ w2.heap.size := hcl2.out.size
  clear hq g0 g1 g2 g3 g4 g5 g6 g7
  go_wp2_with (
    at_builtin
    refine wpList_catP (l1 := [.u 6]) (l2 := [.f (fkey r.real)]) rfl _ _ rfl rfl rfl (own_cln hown2.out (by (repeat (first | (with_reducible exact Below.refl _ _) | (with_reducible assumption) | (with_reducible refine Below.setCell ?_ (by first | omega | (simp; done) | (simp; omega)) _) | (with_reducible refine Below.alloc ?_ (by first | omega | (simp; done) | (simp; omega)) _) | (with_reducible refine Below.drew ?_) | (with_reducible refine below_drewN ?_ _))))) (Blk.new w2 _ _) rfl rfl (by decide) (by simp; omega) ?_
    intro A5 c5 w5 hown5 hg5
    have hkeep := Lib.hid (And.intro hown5 ((hcl2.out.alloc hsz2 _).grown hg5 (by simp; omega) (fun q hq => own_lo hown2.out q hq)))
    clear hown5 hg5)
  go_ret
  refine ⟨A5, c5, 1 + 1, rfl, ?_, hkeep.out.2⟩
  rw [show recParts r = [.u 6] ++ [.f (fkey r.real)] from by unfold recParts; rw [hk]; simp]
  exact own_parts hkeep.out.1
set_option maxHeartbeats 8000000 in
theorem parts_7 (r : MRec) (hk : r.kind = 7) (A : Option Addr) (n c : Nat) (hreal : r.real < 18446744073709551616) (w : World) :
    Calls Tryz.prog 163 #[.agg #[.int .i64 7, .int .i64 r.num, .int .i64 r.low, .int .i64 r.high, .float .f64 r.real, .int .i64 r.cap, .string (str r.text), .slice A n c]] w (NewParts w (recParts r)) := by
  have hb0 := Lib.hid (Blk.new w 83 #[.int .i64 7, .int .i64 r.num, .int .i64 r.low, .int .i64 r.high, .float .f64 r.real, .int .i64 r.cap, .string (str r.text), .slice A n c])
  have hcl0 := Lib.hid (show Cln w (w.alloc (.cells #[.int .i64 7, .int .i64 r.num, .int .i64 r.low, .int .i64 r.high, .float .f64 r.real, .int .i64 r.cap, .string (str r.text), .slice A n c] 83)) from by (repeat (first | (with_reducible exact Below.refl _ _) | (with_reducible assumption) | (with_reducible refine Below.setCell ?_ (by first | omega | (simp; done) | (simp; omega)) _) | (with_reducible refine Below.alloc ?_ (by first | omega | (simp; done) | (simp; omega)) _) | (with_reducible refine Below.drew ?_) | (with_reducible refine below_drewN ?_ _))))
  go_enter Tryz.func163, Tryz.ntmps163
  go_wp2_with fail
  refine (pu_any 7 (by decide) _).mono ?_; rintro e w1 ⟨rfl, hq⟩
  rw [show partCells (.u 7) = #[.int .u8 117, .int .u64 7, .int .i64 0, .int .u64 0, .string ⟨#[]⟩, .bool false] from rfl]
  have hcl1 := Lib.hid (cln_trans hcl0.out hq)
  have hb1 := hb0.out.cln hq
  have g0 := hb1.cell 0; have g1 := hb1.cell 1; have g2 := hb1.cell 2; have g3 := hb1.cell 3; have g4 := hb1.cell 4; have g5 := hb1.cell 5; have g6 := hb1.cell 6; have g7 := hb1.cell 7
  replace hb1 := Lib.hid hb1
  have hsz1 : w.heap.size < w1.heap.size := by have := hb1.out.lt; omega
  have hown1 := Lib.hid (World.ownsRow_lit (base := w.heap.size) (e := 132) (size := 6) w1 #[.int .u8 117, .int .u64 7, .int .i64 0, .int .u64 0, .string ⟨#[]⟩, .bool false] 1 (by omega) (by decide) rfl)
  clear hq hcl0 hb0
  have hne : ¬ w.heap.size = w1.heap.size := by omega
  have hne' : ¬ w1.heap.size = w.heap.size := by omega
  go_wp2_with fail
  refine (pf_any r.real hreal _).mono ?_; rintro e w2 ⟨rfl, hq⟩
  rw [show partCells (.f (fkey r.real)) = #[.int .u8 102, .int .u64 0, .int .i64 0, .int .u64 (fkey r.real : Nat), .string ⟨#[]⟩, .bool false] from rfl]
  have hown2 := Lib.hid (own_cln hown1.out hq)
  have hcl2 := Lib.hid (cln_trans (show Cln w _ from hcl1.out.alloc (Nat.le_of_lt hsz1) _) hq)
  have hsz2 : w.heap.size ≤ w2.heap.size := hcl2.out.size
  clear hq g0 g1 g2 g3 g4 g5 g6 g7
  go_wp2_with (
    at_builtin
    refine wpList_catP (l1 := [.u 7]) (l2 := [.f (fkey r.real)]) rfl _ _ rfl rfl rfl (own_cln hown2.out (by (repeat (first | (with_reducible exact Below.refl _ _) | (with_reducible assumption) | (with_reducible refine Below.setCell ?_ (by first | omega | (simp; done) | (simp; omega)) _) | (with_reducible refine Below.alloc ?_ (by first | omega | (simp; done) | (simp; omega)) _) | (with_reducible refine Below.drew ?_) | (with_reducible refine below_drewN ?_ _))))) (Blk.new w2 _ _) rfl rfl (by decide) (by simp; omega) ?_
    intro A5 c5 w5 hown5 hg5
    have hkeep := Lib.hid (And.intro hown5 ((hcl2.out.alloc hsz2 _).grown hg5 (by simp; omega) (fun q hq => own_lo hown2.out q hq)))
    clear hown5 hg5)
  go_ret
  refine ⟨A5, c5, 1 + 1, rfl, ?_, hkeep.out.2⟩
  rw [show recParts r = [.u 7] ++ [.f (fkey r.real)] from by unfold recParts; rw [hk]; simp]
  exact own_parts hkeep.out.1
set_option maxHeartbeats 8000000 in
theorem parts_4 (r : MRec) (hk : r.kind = 4) (A : Option Addr) (n c : Nat) (hreal : r.real < 18446744073709551616) (w : World) :
    Calls Tryz.prog 163 #[.agg #[.int .i64 4, .int .i64 r.num, .int .i64 r.low, .int .i64 r.high, .float .f64 r.real, .int .i64 r.cap, .string (str r.text), .slice A n c]] w (NewParts w (recParts r)) := by
  have hb0 := Lib.hid (Blk.new w 83 #[.int .i64 4, .int .i64 r.num, .int .i64 r.low, .int .i64 r.high, .float .f64 r.real, .int .i64 r.cap, .string (str r.text), .slice A n c])
  have hcl0 := Lib.hid (show Cln w (w.alloc (.cells #[.int .i64 4, .int .i64 r.num, .int .i64 r.low, .int .i64 r.high, .float .f64 r.real, .int .i64 r.cap, .string (str r.text), .slice A n c] 83)) from by (repeat (first | (with_reducible exact Below.refl _ _) | (with_reducible assumption) | (with_reducible refine Below.setCell ?_ (by first | omega | (simp; done) | (simp; omega)) _) | (with_reducible refine Below.alloc ?_ (by first | omega | (simp; done) | (simp; omega)) _) | (with_reducible refine Below.drew ?_) | (with_reducible refine below_drewN ?_ _))))
  go_enter Tryz.func163, Tryz.ntmps163
  go_wp2_with fail
  refine (pu_any 4 (by decide) _).mono ?_; rintro e w1 ⟨rfl, hq⟩
  rw [show partCells (.u 4) = #[.int .u8 117, .int .u64 4, .int .i64 0, .int .u64 0, .string ⟨#[]⟩, .bool false] from rfl]
  have hcl1 := Lib.hid (cln_trans hcl0.out hq)
  have hb1 := hb0.out.cln hq
  have g0 := hb1.cell 0; have g1 := hb1.cell 1; have g2 := hb1.cell 2; have g3 := hb1.cell 3; have g4 := hb1.cell 4; have g5 := hb1.cell 5; have g6 := hb1.cell 6; have g7 := hb1.cell 7
  replace hb1 := Lib.hid hb1
  have hsz1 : w.heap.size < w1.heap.size := by have := hb1.out.lt; omega
  have hown1 := Lib.hid (World.ownsRow_lit (base := w.heap.size) (e := 132) (size := 6) w1 #[.int .u8 117, .int .u64 4, .int .i64 0, .int .u64 0, .string ⟨#[]⟩, .bool false] 1 (by omega) (by decide) rfl)
  clear hq hcl0 hb0
  have hne : ¬ w.heap.size = w1.heap.size := by omega
  have hne' : ¬ w1.heap.size = w.heap.size := by omega
  go_wp2_with fail
  have cL : ∀ (x : Int) (W : World), Calls Tryz.prog 188 #[.int .i64 x] W fun e w' => e = .returned (.agg #[.int .u8 105, .int .u64 0, .int .i64 x, .int .u64 0, .string ⟨#[]⟩, .bool false]) ∧ Cln W w' := fun x W => pi_any x W
  have hcl2 := Lib.hid (show Cln w (w1.alloc (.cells #[.int .u8 117, .int .u64 4, .int .i64 0, .int .u64 0, .string ⟨#[]⟩, .bool false] 132)) from hcl1.out.alloc (Nat.le_of_lt hsz1) _)
  have hb2 := Lib.hid (hb1.out.alloc (.cells #[.int .u8 117, .int .u64 4, .int .i64 0, .int .u64 0, .string ⟨#[]⟩, .bool false] 132))
  have k1 := hb2.out.cell 1; have k2 := hb2.out.cell 2; have k3 := hb2.out.cell 3
  have hcur := Lib.hid (show Cln (w1.alloc (.cells #[.int .u8 117, .int .u64 4, .int .i64 0, .int .u64 0, .string ⟨#[]⟩, .bool false] 132)) (w1.alloc (.cells #[.int .u8 117, .int .u64 4, .int .i64 0, .int .u64 0, .string ⟨#[]⟩, .bool false] 132)).drew from Below.drew (Below.refl _ _))
  have hle1 : w.heap.size ≤ (w1.alloc (.cells #[.int .u8 117, .int .u64 4, .int .i64 0, .int .u64 0, .string ⟨#[]⟩, .bool false] 132)).heap.size := hcl2.out.size
  clear g0 g1 g2 g3 g4 g5 g6 g7
  have hnb : ∀ q, (Value.slice (some ⟨w1.heap.size, 0, none⟩) 1 1).ownBlock = some q → w.heap.size ≠ q := fun q e => by simp [Value.ownBlock] at e; omega
  go_region_held3 (fun W => W.cell? ⟨w.heap.size, 1, none⟩ = some (.int .i64 r.num) ∧ W.cell? ⟨w.heap.size, 2, none⟩ = some (.int .i64 r.low) ∧ W.cell? ⟨w.heap.size, 3, none⟩ = some (.int .i64 r.high))
    (first | with_reducible exact hd5 | with_reducible exact heldKeep3 hq (by assumption) | with_reducible exact heldKeep3 ((Below.refl _ _).alloc (Nat.le_refl _) _) (by assumption) | exact ⟨k1, k2, k3⟩)
    (first
      | (go_at_call 188; with_reducible refine (cL _ _).mono ?_; rintro e w' ⟨rfl, hq⟩; have hcur := Lib.hid (cln_trans hcur.out hq))
      | (refine step_catP (l1 := [.u 4]) (l2 := [.i r.low, .i r.high, .i r.num]) rfl _ _ rfl rfl rfl (own_cln hown1.out (hcur.out.alloc hcur.out.size _)) (Blk.new _ _ _) rfl rfl (by decide) (Nat.le_trans hle1 (hcur.out.alloc hcur.out.size _).size) ?_
         intro A5 c5 w5 hown5 hg5
         have hd5 := heldKeepG (p0 := ⟨w.heap.size, 1, none⟩) (p1 := ⟨w.heap.size, 2, none⟩) (p2 := ⟨w.heap.size, 3, none⟩) hg5 hnb hnb hnb (by assumption)
         have hkeep := Lib.hid (And.intro hown5 ((cln_trans hcl2.out (hcur.out.alloc hcur.out.size _)).grown hg5 (Nat.le_trans hle1 (hcur.out.alloc hcur.out.size _).size) (fun q hq => own_lo hown1.out q hq)))
         clear hg5))
  go_wp2_with fail
  go_ret
  refine ⟨A5, c5, 1 + 3, rfl, ?_, hkeep.out.2⟩
  rw [show recParts r = [.u 4] ++ [.i r.low, .i r.high, .i r.num] from by unfold recParts; rw [hk]; simp]
  exact own_parts hkeep.out.1
set_option maxHeartbeats 8000000 in
theorem parts_8 (r : MRec) (hk : r.kind = 8) (A : Option Addr) (n c : Nat) (hreal : r.real < 18446744073709551616) (w : World) (cp : Nat) (hcp : r.cap = ((cp : Nat) : Int)) (hcp2 : cp < 9223372036854775808) (hn : n ≤ 32) (hit : RdItems w A n r.list) :
    Calls Tryz.prog 163 #[.agg #[.int .i64 8, .int .i64 r.num, .int .i64 r.low, .int .i64 r.high, .float .f64 r.real, .int .i64 (cp : Nat), .string (str r.text), .slice A n c]] w (NewParts w (recParts r)) := by
  have hb0 := Lib.hid (Blk.new w 83 #[.int .i64 8, .int .i64 r.num, .int .i64 r.low, .int .i64 r.high, .float .f64 r.real, .int .i64 (cp : Nat), .string (str r.text), .slice A n c])
  have hcl0 := Lib.hid (show Cln w (w.alloc (.cells #[.int .i64 8, .int .i64 r.num, .int .i64 r.low, .int .i64 r.high, .float .f64 r.real, .int .i64 (cp : Nat), .string (str r.text), .slice A n c] 83)) from by (repeat (first | (with_reducible exact Below.refl _ _) | (with_reducible assumption) | (with_reducible refine Below.setCell ?_ (by first | omega | (simp; done) | (simp; omega)) _) | (with_reducible refine Below.alloc ?_ (by first | omega | (simp; done) | (simp; omega)) _) | (with_reducible refine Below.drew ?_) | (with_reducible refine below_drewN ?_ _))))
  go_enter Tryz.func163, Tryz.ntmps163
  go_wp2_with fail
  refine (pu_any 8 (by decide) _).mono ?_; rintro e w1 ⟨rfl, hq⟩
  rw [show partCells (.u 8) = #[.int .u8 117, .int .u64 8, .int .i64 0, .int .u64 0, .string ⟨#[]⟩, .bool false] from rfl]
  have hcl1 := Lib.hid (cln_trans hcl0.out hq)
  have hb1 := hb0.out.cln hq
  have g0 := hb1.cell 0; have g1 := hb1.cell 1; have g2 := hb1.cell 2; have g3 := hb1.cell 3; have g4 := hb1.cell 4; have g5 := hb1.cell 5; have g6 := hb1.cell 6; have g7 := hb1.cell 7
  replace hb1 := Lib.hid hb1
  have hsz1 : w.heap.size < w1.heap.size := by have := hb1.out.lt; omega
  have hown1 := Lib.hid (World.ownsRow_lit (base := w.heap.size) (e := 132) (size := 6) w1 #[.int .u8 117, .int .u64 8, .int .i64 0, .int .u64 0, .string ⟨#[]⟩, .bool false] 1 (by omega) (by decide) rfl)
  clear hq hcl0 hb0
  have hne : ¬ w.heap.size = w1.heap.size := by omega
  have hne' : ¬ w1.heap.size = w.heap.size := by omega
  go_wp2_with fail
  have cU : ∀ (W : World), Calls Tryz.prog 186 #[.int .i64 (cp : Nat)] W fun e w' => e = .returned (.agg #[.int .u8 117, .int .u64 (cp : Nat), .int .i64 0, .int .u64 0, .string ⟨#[]⟩, .bool false]) ∧ Cln W w' := fun W => pu_any cp hcp2 W
  replace hcp := Lib.hid hcp
  have cN : ∀ (W : World), Calls Tryz.prog 186 #[.int .i64 (n : Nat)] W fun e w' => e = .returned (.agg #[.int .u8 117, .int .u64 (n : Nat), .int .i64 0, .int .u64 0, .string ⟨#[]⟩, .bool false]) ∧ Cln W w' := fun W => pu_any n (by omega) W
  have hcl2 := Lib.hid (show Cln w (w1.alloc (.cells #[.int .u8 117, .int .u64 8, .int .i64 0, .int .u64 0, .string ⟨#[]⟩, .bool false] 132)) from hcl1.out.alloc (Nat.le_of_lt hsz1) _)
  have hb2 := Lib.hid (hb1.out.alloc (.cells #[.int .u8 117, .int .u64 8, .int .i64 0, .int .u64 0, .string ⟨#[]⟩, .bool false] 132))
  have k0 := hb2.out.cell 0; have k5 := hb2.out.cell 5; have k7 := hb2.out.cell 7
  have hcur := Lib.hid (show Cln (w1.alloc (.cells #[.int .u8 117, .int .u64 8, .int .i64 0, .int .u64 0, .string ⟨#[]⟩, .bool false] 132)) (w1.alloc (.cells #[.int .u8 117, .int .u64 8, .int .i64 0, .int .u64 0, .string ⟨#[]⟩, .bool false] 132)).drew from Below.drew (Below.refl _ _))
  have hle1 : w.heap.size ≤ (w1.alloc (.cells #[.int .u8 117, .int .u64 8, .int .i64 0, .int .u64 0, .string ⟨#[]⟩, .bool false] 132)).heap.size := hcl2.out.size
  have hnb : ∀ q, (Value.slice (some ⟨w1.heap.size, 0, none⟩) 1 1).ownBlock = some q → w.heap.size ≠ q := fun q e => by simp [Value.ownBlock] at e; omega
  clear g0 g1 g2 g3 g4 g5 g6 g7
  go_region_held3 (fun W => W.cell? ⟨w.heap.size, 0, none⟩ = some (.int .i64 8) ∧ W.cell? ⟨w.heap.size, 5, none⟩ = some (.int .i64 (cp : Nat)) ∧ W.cell? ⟨w.heap.size, 7, none⟩ = some (.slice A n c))
    (first | with_reducible exact hd5 | with_reducible exact heldKeep3 hq (by assumption) | with_reducible exact heldKeep3 ((Below.refl _ _).alloc (Nat.le_refl _) _) (by assumption) | exact ⟨k0, k5, k7⟩)
    (first
      | (go_at_call 186; with_reducible refine (cU _).mono ?_; rintro e w' ⟨rfl, hq⟩; have hcur := Lib.hid (cln_trans hcur.out hq))
      | (go_at_call 186; with_reducible refine (cN _).mono ?_; rintro e w' ⟨rfl, hq⟩; have hcur := Lib.hid (cln_trans hcur.out hq))
      | (refine step_catP (l1 := [.u 8]) (l2 := [.u cp, .u n]) rfl _ _ rfl rfl rfl (own_cln hown1.out (hcur.out.alloc hcur.out.size _)) (Blk.new _ _ _) rfl rfl (by decide) (Nat.le_trans hle1 (hcur.out.alloc hcur.out.size _).size) ?_
         intro A5 c5 w5 hown5 hg5
         have hd5 := heldKeepG (p0 := ⟨w.heap.size, 0, none⟩) (p1 := ⟨w.heap.size, 5, none⟩) (p2 := ⟨w.heap.size, 7, none⟩) hg5 hnb hnb hnb (by assumption)
         have hkeep := Lib.hid (And.intro hown5 ((cln_trans hcl2.out (hcur.out.alloc hcur.out.size _)).grown hg5 (Nat.le_trans hle1 (hcur.out.alloc hcur.out.size _).size) (fun q hq => own_lo hown1.out q hq)))
         have hbx := Lib.hid (show Blk w5 w.heap.size 83 #[.int .i64 8, .int .i64 r.num, .int .i64 r.low, .int .i64 r.high, .float .f64 r.real, .int .i64 (cp : Nat), .string (str r.text), .slice A n c] from (hg5.block _ ((hb2.out.cln hcur.out).alloc _).lt (fun e => hnb _ e.symm rfl)).trans ((hb2.out.cln hcur.out).alloc _))
         clear hg5))
  have hitH := Lib.hid hit
  have hlenH := Lib.hid hit.len
  have hAlo := Lib.hid hit.lo
  clear hit hcur hb2 k0 k5 k7 hown1 hcl1 hb1 cU cN hnb hd5 hcl2
  have hcl5 := Lib.hid hkeep.out.2
  have hown5' := Lib.hid hkeep.out.1
  clear hkeep hown5
  go_wp2_with fail
  go_loopw [3, 4] (fun v3 v4 wr => ∃ (i : Nat) (A' : Option Addr) (c' m : Nat), i ≤ n ∧ v4 = .int .i64 (i : Nat) ∧ v3 = .slice A' m c' ∧ m ≤ 3 + 2 * i ∧ Hid (Cln w wr) ∧ Hid (Blk wr w.heap.size 83 #[.int .i64 8, .int .i64 r.num, .int .i64 r.low, .int .i64 r.high, .float .f64 r.real, .int .i64 (cp : Nat), .string (str r.text), .slice A n c]) ∧ Hid (wr.ownsRow w.heap.size 132 6 (.slice A' m c') m (partVals ([.u 8] ++ [.u cp, .u n] ++ (r.list.take i).flatMap (itemParts false))))) (fun _ v4 _ => (n - intOf v4).toNat)
  case atStart => exact ⟨0, A5, c5, 1 + 2, Nat.zero_le _, rfl, rfl, by omega, Lib.hid (cln_trans hcl5.out (by (repeat (first | (with_reducible exact Below.refl _ _) | (with_reducible assumption) | (with_reducible refine Below.setCell ?_ (by first | omega | (simp; done) | (simp; omega)) _) | (with_reducible refine Below.alloc ?_ (by first | omega | (simp; done) | (simp; omega)) _) | (with_reducible refine Below.drew ?_) | (with_reducible refine below_drewN ?_ _))))), Lib.hid (hbx.out.cln (by (repeat (first | (with_reducible exact Below.refl _ _) | (with_reducible assumption) | (with_reducible refine Below.setCell ?_ (by first | omega | (simp; done) | (simp; omega)) _) | (with_reducible refine Below.alloc ?_ (by first | omega | (simp; done) | (simp; omega)) _) | (with_reducible refine Below.drew ?_) | (with_reducible refine below_drewN ?_ _))))), Lib.hid (by simpa using own_cln hown5'.out (by (repeat (first | (with_reducible exact Below.refl _ _) | (with_reducible assumption) | (with_reducible refine Below.setCell ?_ (by first | omega | (simp; done) | (simp; omega)) _) | (with_reducible refine Below.alloc ?_ (by first | omega | (simp; done) | (simp; omega)) _) | (with_reducible refine Below.drew ?_) | (with_reducible refine below_drewN ?_ _)))))⟩
  case round =>
    clear hbx hcl5 hown5'
    obtain ⟨i, A', c', m, hi, rfl, rfl, hm, hcl, hbx, hown⟩ := hrel
    have g0 := hbx.out.cell 0; have g7 := hbx.out.cell 7
    have hz := hcl.out.size
    have hbl := hbx.out.lt
    by_cases hlt : i < n
    · obtain ⟨b, o, hAe, hblt0, hcell⟩ := hitH.out.cells (by omega)
      have hblt : b < wr.heap.size := by omega
      have hbA : b < w.heap.size := hAlo.out (by omega) _ hAe
      subst hAe
      have hwf := hitH.out.wf i
      obtain ⟨hc0w, hc1w⟩ := hcell i hlt
      have htk : Hid ((r.list.take (i + 1)).flatMap (itemParts false) = (r.list.take i).flatMap (itemParts false) ++ itemParts false (itAt r.list i)) := by
        unfold Hid
        have hl : i < r.list.length := by rw [hlenH.out]; exact hlt
        have : r.list.take (i + 1) = r.list.take i ++ [itAt r.list i] := by
          rw [List.take_add_one, List.getElem?_eq_getElem hl]; simp [itAt, List.getD, hl]
        rw [this]; simp
      generalize itAt r.list i = x at hwf hc0w hc1w htk
      clear hcell
      have hc0 := (Kept.of_below (S := fun _ => False) hcl.out).cell hc0w id
      have hc1 := (Kept.of_below (S := fun _ => False) hcl.out).cell hc1w id
      replace hc0w := Lib.hid hc0w; replace hc1w := Lib.hid hc1w
      have cS : ∀ (W : World), Calls Tryz.prog 187 #[.string (str x.name)] W fun e w' => e = .returned (.agg #[.int .u8 115, .int .u64 0, .int .i64 0, .int .u64 0, .string (str x.name), .bool false]) ∧ Cln W w' := fun W => ps_any x.name W
      have cF : ∀ (W : World), Calls Tryz.prog 189 #[.float .f64 x.score] W fun e w' => e = .returned (.agg #[.int .u8 102, .int .u64 0, .int .i64 0, .int .u64 (fkey x.score : Nat), .string ⟨#[]⟩, .bool false]) ∧ Cln W w' := fun W => pf_any x.score hwf W
      go_wp2_with fail
      refine (cS _).mono ?_; rintro e w6 ⟨rfl, hq⟩
      have hown6 := own_cln hown.out hq
      have hbx6 := (hbx.out).cln hq
      have hcl6 := cln_trans hcl.out hq
      have hz6 := hcl6.size
      have hlt6 := hbx6.lt
      replace hown6 := Lib.hid hown6; replace hbx6 := Lib.hid hbx6; replace hcl6 := Lib.hid hcl6
      clear hq
      clear g0 g7 hc0 hc1 hblt hbl
      go_wp2_with (
        at_builtin
        refine wpList_catP (l1 := [.u 8] ++ [.u cp, .u n] ++ (r.list.take i).flatMap (itemParts false)) (l2 := [.s x.name]) rfl _ _ rfl rfl rfl (own_cln hown6.out (by (repeat (first | (with_reducible exact Below.refl _ _) | (with_reducible assumption) | (with_reducible refine Below.setCell ?_ (by first | omega | (simp; done) | (simp; omega)) _) | (with_reducible refine Below.alloc ?_ (by first | omega | (simp; done) | (simp; omega)) _) | (with_reducible refine Below.drew ?_) | (with_reducible refine below_drewN ?_ _))))) (Blk.new _ _ _) rfl rfl (by omega) (by simp; omega) ?_
        intro A7 c7 w7 hownX hg
        have hcl7 := Lib.hid ((hcl6.out.alloc hz6 _).grown hg (by simp; omega) (fun q hq => own_lo hown6.out q hq))
        have hne7 := own_ne hown6.out hbx6.out (by decide)
        have hbk7 := hg.block w.heap.size (hbx6.out.alloc _).lt (fun e => hne7 e.symm)
        have hbx7 := Lib.hid (show Blk w7 w.heap.size 83 #[.int .i64 8, .int .i64 r.num, .int .i64 r.low, .int .i64 r.high, .float .f64 r.real, .int .i64 (cp : Nat), .string (str r.text), .slice (some ⟨b, o, none⟩) n c] from Eq.trans hbk7 (hbx6.out.alloc _))
        have hown7 := Lib.hid hownX
        have hz7 := hcl7.out.size
        
        clear hg hownX hne7 hbk7)
      refine ⟨?_, by simp [intOf]; omega⟩
      repeat (apply Exists.intro)
      refine And.intro ?_ rfl
      exact ⟨i + 1, A7, c7, m + 1, hlt, by go_num, rfl, by omega, hcl7, hbx7, Lib.hid (by rw [htk.out]; simpa [itemParts] using hown7.out)⟩
    · obtain rfl : i = n := by omega
      have t2 : decide ((i : Int) < (i : Int)) = false := decide_eq_false (by omega)
      rw [List.take_of_length_le (by rw [hlenH.out]; exact Nat.le_refl _)] at hown
      go_wp2_with fail
      go_ret
      refine ⟨A', c', m, rfl, ?_, hcl.out⟩
      rw [show recParts r = [.u 8] ++ [.u cp, .u i] ++ r.list.flatMap (itemParts false) from by unfold recParts; rw [hk, hcp.out, hlenH.out]; simp]
      exact own_parts hown.out
set_option maxHeartbeats 8000000 in
theorem parts_9 (r : MRec) (hk : r.kind = 9) (A : Option Addr) (n c : Nat) (hreal : r.real < 18446744073709551616) (w : World) (cp : Nat) (hcp : r.cap = ((cp : Nat) : Int)) (hcp2 : cp < 9223372036854775808) (hn : n ≤ 32) (hit : RdItems w A n r.list) :
    Calls Tryz.prog 163 #[.agg #[.int .i64 9, .int .i64 r.num, .int .i64 r.low, .int .i64 r.high, .float .f64 r.real, .int .i64 (cp : Nat), .string (str r.text), .slice A n c]] w (NewParts w (recParts r)) := by
  have hb0 := Lib.hid (Blk.new w 83 #[.int .i64 9, .int .i64 r.num, .int .i64 r.low, .int .i64 r.high, .float .f64 r.real, .int .i64 (cp : Nat), .string (str r.text), .slice A n c])
  have hcl0 := Lib.hid (show Cln w (w.alloc (.cells #[.int .i64 9, .int .i64 r.num, .int .i64 r.low, .int .i64 r.high, .float .f64 r.real, .int .i64 (cp : Nat), .string (str r.text), .slice A n c] 83)) from by (repeat (first | (with_reducible exact Below.refl _ _) | (with_reducible assumption) | (with_reducible refine Below.setCell ?_ (by first | omega | (simp; done) | (simp; omega)) _) | (with_reducible refine Below.alloc ?_ (by first | omega | (simp; done) | (simp; omega)) _) | (with_reducible refine Below.drew ?_) | (with_reducible refine below_drewN ?_ _))))
  go_enter Tryz.func163, Tryz.ntmps163
  go_wp2_with fail
  refine (pu_any 9 (by decide) _).mono ?_; rintro e w1 ⟨rfl, hq⟩
  rw [show partCells (.u 9) = #[.int .u8 117, .int .u64 9, .int .i64 0, .int .u64 0, .string ⟨#[]⟩, .bool false] from rfl]
  have hcl1 := Lib.hid (cln_trans hcl0.out hq)
  have hb1 := hb0.out.cln hq
  have g0 := hb1.cell 0; have g1 := hb1.cell 1; have g2 := hb1.cell 2; have g3 := hb1.cell 3; have g4 := hb1.cell 4; have g5 := hb1.cell 5; have g6 := hb1.cell 6; have g7 := hb1.cell 7
  replace hb1 := Lib.hid hb1
  have hsz1 : w.heap.size < w1.heap.size := by have := hb1.out.lt; omega
  have hown1 := Lib.hid (World.ownsRow_lit (base := w.heap.size) (e := 132) (size := 6) w1 #[.int .u8 117, .int .u64 9, .int .i64 0, .int .u64 0, .string ⟨#[]⟩, .bool false] 1 (by omega) (by decide) rfl)
  clear hq hcl0 hb0
  have hne : ¬ w.heap.size = w1.heap.size := by omega
  have hne' : ¬ w1.heap.size = w.heap.size := by omega
  go_wp2_with fail
  have cU : ∀ (W : World), Calls Tryz.prog 186 #[.int .i64 (cp : Nat)] W fun e w' => e = .returned (.agg #[.int .u8 117, .int .u64 (cp : Nat), .int .i64 0, .int .u64 0, .string ⟨#[]⟩, .bool false]) ∧ Cln W w' := fun W => pu_any cp hcp2 W
  replace hcp := Lib.hid hcp
  have cN : ∀ (W : World), Calls Tryz.prog 186 #[.int .i64 (n : Nat)] W fun e w' => e = .returned (.agg #[.int .u8 117, .int .u64 (n : Nat), .int .i64 0, .int .u64 0, .string ⟨#[]⟩, .bool false]) ∧ Cln W w' := fun W => pu_any n (by omega) W
  have hcl2 := Lib.hid (show Cln w (w1.alloc (.cells #[.int .u8 117, .int .u64 9, .int .i64 0, .int .u64 0, .string ⟨#[]⟩, .bool false] 132)) from hcl1.out.alloc (Nat.le_of_lt hsz1) _)
  have hb2 := Lib.hid (hb1.out.alloc (.cells #[.int .u8 117, .int .u64 9, .int .i64 0, .int .u64 0, .string ⟨#[]⟩, .bool false] 132))
  have k0 := hb2.out.cell 0; have k5 := hb2.out.cell 5; have k7 := hb2.out.cell 7
  have hcur := Lib.hid (show Cln (w1.alloc (.cells #[.int .u8 117, .int .u64 9, .int .i64 0, .int .u64 0, .string ⟨#[]⟩, .bool false] 132)) (w1.alloc (.cells #[.int .u8 117, .int .u64 9, .int .i64 0, .int .u64 0, .string ⟨#[]⟩, .bool false] 132)).drew from Below.drew (Below.refl _ _))
  have hle1 : w.heap.size ≤ (w1.alloc (.cells #[.int .u8 117, .int .u64 9, .int .i64 0, .int .u64 0, .string ⟨#[]⟩, .bool false] 132)).heap.size := hcl2.out.size
  have hnb : ∀ q, (Value.slice (some ⟨w1.heap.size, 0, none⟩) 1 1).ownBlock = some q → w.heap.size ≠ q := fun q e => by simp [Value.ownBlock] at e; omega
  clear g0 g1 g2 g3 g4 g5 g6 g7
  go_region_held3 (fun W => W.cell? ⟨w.heap.size, 0, none⟩ = some (.int .i64 9) ∧ W.cell? ⟨w.heap.size, 5, none⟩ = some (.int .i64 (cp : Nat)) ∧ W.cell? ⟨w.heap.size, 7, none⟩ = some (.slice A n c))
    (first | with_reducible exact hd5 | with_reducible exact heldKeep3 hq (by assumption) | with_reducible exact heldKeep3 ((Below.refl _ _).alloc (Nat.le_refl _) _) (by assumption) | exact ⟨k0, k5, k7⟩)
    (first
      | (go_at_call 186; with_reducible refine (cU _).mono ?_; rintro e w' ⟨rfl, hq⟩; have hcur := Lib.hid (cln_trans hcur.out hq))
      | (go_at_call 186; with_reducible refine (cN _).mono ?_; rintro e w' ⟨rfl, hq⟩; have hcur := Lib.hid (cln_trans hcur.out hq))
      | (refine step_catP (l1 := [.u 9]) (l2 := [.u cp, .u n]) rfl _ _ rfl rfl rfl (own_cln hown1.out (hcur.out.alloc hcur.out.size _)) (Blk.new _ _ _) rfl rfl (by decide) (Nat.le_trans hle1 (hcur.out.alloc hcur.out.size _).size) ?_
         intro A5 c5 w5 hown5 hg5
         have hd5 := heldKeepG (p0 := ⟨w.heap.size, 0, none⟩) (p1 := ⟨w.heap.size, 5, none⟩) (p2 := ⟨w.heap.size, 7, none⟩) hg5 hnb hnb hnb (by assumption)
         have hkeep := Lib.hid (And.intro hown5 ((cln_trans hcl2.out (hcur.out.alloc hcur.out.size _)).grown hg5 (Nat.le_trans hle1 (hcur.out.alloc hcur.out.size _).size) (fun q hq => own_lo hown1.out q hq)))
         have hbx := Lib.hid (show Blk w5 w.heap.size 83 #[.int .i64 9, .int .i64 r.num, .int .i64 r.low, .int .i64 r.high, .float .f64 r.real, .int .i64 (cp : Nat), .string (str r.text), .slice A n c] from (hg5.block _ ((hb2.out.cln hcur.out).alloc _).lt (fun e => hnb _ e.symm rfl)).trans ((hb2.out.cln hcur.out).alloc _))
         clear hg5))
  have hitH := Lib.hid hit
  have hlenH := Lib.hid hit.len
  have hAlo := Lib.hid hit.lo
  clear hit hcur hb2 k0 k5 k7 hown1 hcl1 hb1 cU cN hnb hd5 hcl2
  have hcl5 := Lib.hid hkeep.out.2
  have hown5' := Lib.hid hkeep.out.1
  clear hkeep hown5
  go_wp2_with fail
  go_loopw [3, 4] (fun v3 v4 wr => ∃ (i : Nat) (A' : Option Addr) (c' m : Nat), i ≤ n ∧ v4 = .int .i64 (i : Nat) ∧ v3 = .slice A' m c' ∧ m ≤ 3 + 2 * i ∧ Hid (Cln w wr) ∧ Hid (Blk wr w.heap.size 83 #[.int .i64 9, .int .i64 r.num, .int .i64 r.low, .int .i64 r.high, .float .f64 r.real, .int .i64 (cp : Nat), .string (str r.text), .slice A n c]) ∧ Hid (wr.ownsRow w.heap.size 132 6 (.slice A' m c') m (partVals ([.u 9] ++ [.u cp, .u n] ++ (r.list.take i).flatMap (itemParts true))))) (fun _ v4 _ => (n - intOf v4).toNat)
  case atStart => exact ⟨0, A5, c5, 1 + 2, Nat.zero_le _, rfl, rfl, by omega, Lib.hid (cln_trans hcl5.out (by (repeat (first | (with_reducible exact Below.refl _ _) | (with_reducible assumption) | (with_reducible refine Below.setCell ?_ (by first | omega | (simp; done) | (simp; omega)) _) | (with_reducible refine Below.alloc ?_ (by first | omega | (simp; done) | (simp; omega)) _) | (with_reducible refine Below.drew ?_) | (with_reducible refine below_drewN ?_ _))))), Lib.hid (hbx.out.cln (by (repeat (first | (with_reducible exact Below.refl _ _) | (with_reducible assumption) | (with_reducible refine Below.setCell ?_ (by first | omega | (simp; done) | (simp; omega)) _) | (with_reducible refine Below.alloc ?_ (by first | omega | (simp; done) | (simp; omega)) _) | (with_reducible refine Below.drew ?_) | (with_reducible refine below_drewN ?_ _))))), Lib.hid (by simpa using own_cln hown5'.out (by (repeat (first | (with_reducible exact Below.refl _ _) | (with_reducible assumption) | (with_reducible refine Below.setCell ?_ (by first | omega | (simp; done) | (simp; omega)) _) | (with_reducible refine Below.alloc ?_ (by first | omega | (simp; done) | (simp; omega)) _) | (with_reducible refine Below.drew ?_) | (with_reducible refine below_drewN ?_ _)))))⟩
  case round =>
    clear hbx hcl5 hown5'
    obtain ⟨i, A', c', m, hi, rfl, rfl, hm, hcl, hbx, hown⟩ := hrel
    have g0 := hbx.out.cell 0; have g7 := hbx.out.cell 7
    have hz := hcl.out.size
    have hbl := hbx.out.lt
    by_cases hlt : i < n
    · obtain ⟨b, o, hAe, hblt0, hcell⟩ := hitH.out.cells (by omega)
      have hblt : b < wr.heap.size := by omega
      have hbA : b < w.heap.size := hAlo.out (by omega) _ hAe
      subst hAe
      have hwf := hitH.out.wf i
      obtain ⟨hc0w, hc1w⟩ := hcell i hlt
      have htk : Hid ((r.list.take (i + 1)).flatMap (itemParts true) = (r.list.take i).flatMap (itemParts true) ++ itemParts true (itAt r.list i)) := by
        unfold Hid
        have hl : i < r.list.length := by rw [hlenH.out]; exact hlt
        have : r.list.take (i + 1) = r.list.take i ++ [itAt r.list i] := by
          rw [List.take_add_one, List.getElem?_eq_getElem hl]; simp [itAt, List.getD, hl]
        rw [this]; simp
      generalize itAt r.list i = x at hwf hc0w hc1w htk
      clear hcell
      have hc0 := (Kept.of_below (S := fun _ => False) hcl.out).cell hc0w id
      have hc1 := (Kept.of_below (S := fun _ => False) hcl.out).cell hc1w id
      replace hc0w := Lib.hid hc0w; replace hc1w := Lib.hid hc1w
      have cS : ∀ (W : World), Calls Tryz.prog 187 #[.string (str x.name)] W fun e w' => e = .returned (.agg #[.int .u8 115, .int .u64 0, .int .i64 0, .int .u64 0, .string (str x.name), .bool false]) ∧ Cln W w' := fun W => ps_any x.name W
      have cF : ∀ (W : World), Calls Tryz.prog 189 #[.float .f64 x.score] W fun e w' => e = .returned (.agg #[.int .u8 102, .int .u64 0, .int .i64 0, .int .u64 (fkey x.score : Nat), .string ⟨#[]⟩, .bool false]) ∧ Cln W w' := fun W => pf_any x.score hwf W
      go_wp2_with fail
      refine (cF _).mono ?_; rintro e w6 ⟨rfl, hq⟩
      have hown6 := own_cln hown.out hq
      have hbx6 := (hbx.out).cln hq
      have hcl6 := cln_trans hcl.out hq
      have hz6 := hcl6.size
      have hlt6 := hbx6.lt
      replace hown6 := Lib.hid hown6; replace hbx6 := Lib.hid hbx6; replace hcl6 := Lib.hid hcl6
      clear hq
      clear g0 g7 hc0 hc1 hblt hbl
      go_wp2_with (
        at_builtin
        refine wpList_catP (l1 := [.u 9] ++ [.u cp, .u n] ++ (r.list.take i).flatMap (itemParts true)) (l2 := [.f (fkey x.score)]) rfl _ _ rfl rfl rfl (own_cln hown6.out (by (repeat (first | (with_reducible exact Below.refl _ _) | (with_reducible assumption) | (with_reducible refine Below.setCell ?_ (by first | omega | (simp; done) | (simp; omega)) _) | (with_reducible refine Below.alloc ?_ (by first | omega | (simp; done) | (simp; omega)) _) | (with_reducible refine Below.drew ?_) | (with_reducible refine below_drewN ?_ _))))) (Blk.new _ _ _) rfl rfl (by omega) (by simp; omega) ?_
        intro A7 c7 w7 hownX hg
        have hcl7 := Lib.hid ((hcl6.out.alloc hz6 _).grown hg (by simp; omega) (fun q hq => own_lo hown6.out q hq))
        have hne7 := own_ne hown6.out hbx6.out (by decide)
        have hbk7 := hg.block w.heap.size (hbx6.out.alloc _).lt (fun e => hne7 e.symm)
        have hbx7 := Lib.hid (show Blk w7 w.heap.size 83 #[.int .i64 9, .int .i64 r.num, .int .i64 r.low, .int .i64 r.high, .float .f64 r.real, .int .i64 (cp : Nat), .string (str r.text), .slice (some ⟨b, o, none⟩) n c] from Eq.trans hbk7 (hbx6.out.alloc _))
        have hown7 := Lib.hid hownX
        have hz7 := hcl7.out.size
        have g7 := Blk.cell hbx7.out 7; have hc1 := (Kept.of_below (S := fun _ => False) hcl7.out).cell hc1w.out id; have hblt : b < w7.heap.size := (by omega); have hlt7 := Blk.lt hbx7.out
        clear hg hownX hne7 hbk7)
      go_wp2_with fail
      refine (cS _).mono ?_; rintro e w8 ⟨rfl, hq⟩
      have hown8 := own_cln hown7.out hq
      have hbx8 := (hbx7.out).cln hq
      have hcl8 := cln_trans hcl7.out hq
      have hz8 := hcl8.size
      have hlt8 := hbx8.lt
      replace hown8 := Lib.hid hown8; replace hbx8 := Lib.hid hbx8; replace hcl8 := Lib.hid hcl8
      clear hq
      clear g7 hc1 hblt hlt7
      go_wp2_with (
        at_builtin
        refine wpList_catP (l1 := ([.u 9] ++ [.u cp, .u n] ++ (r.list.take i).flatMap (itemParts true)) ++ [.f (fkey x.score)]) (l2 := [.s x.name]) rfl _ _ rfl rfl rfl (own_cln hown8.out (by (repeat (first | (with_reducible exact Below.refl _ _) | (with_reducible assumption) | (with_reducible refine Below.setCell ?_ (by first | omega | (simp; done) | (simp; omega)) _) | (with_reducible refine Below.alloc ?_ (by first | omega | (simp; done) | (simp; omega)) _) | (with_reducible refine Below.drew ?_) | (with_reducible refine below_drewN ?_ _))))) (Blk.new _ _ _) rfl rfl (by omega) (by simp; omega) ?_
        intro A9 c9 w9 hownX hg
        have hcl9 := Lib.hid ((hcl8.out.alloc hz8 _).grown hg (by simp; omega) (fun q hq => own_lo hown8.out q hq))
        have hne9 := own_ne hown8.out hbx8.out (by decide)
        have hbk9 := hg.block w.heap.size (hbx8.out.alloc _).lt (fun e => hne9 e.symm)
        have hbx9 := Lib.hid (show Blk w9 w.heap.size 83 #[.int .i64 9, .int .i64 r.num, .int .i64 r.low, .int .i64 r.high, .float .f64 r.real, .int .i64 (cp : Nat), .string (str r.text), .slice (some ⟨b, o, none⟩) n c] from Eq.trans hbk9 (hbx8.out.alloc _))
        have hown9 := Lib.hid hownX
        have hz9 := hcl9.out.size
        
        clear hg hownX hne9 hbk9)
      refine ⟨?_, by simp [intOf]; omega⟩
      repeat (apply Exists.intro)
      refine And.intro ?_ rfl
      exact ⟨i + 1, A9, c9, m + 1 + 1, hlt, by go_num, rfl, by omega, hcl9, hbx9, Lib.hid (by rw [htk.out]; simpa [itemParts] using hown9.out)⟩
    · obtain rfl : i = n := by omega
      have t2 : decide ((i : Int) < (i : Int)) = false := decide_eq_false (by omega)
      rw [List.take_of_length_le (by rw [hlenH.out]; exact Nat.le_refl _)] at hown
      go_wp2_with fail
      go_ret
      refine ⟨A', c', m, rfl, ?_, hcl.out⟩
      rw [show recParts r = [.u 9] ++ [.u cp, .u i] ++ r.list.flatMap (itemParts true) from by unfold recParts; rw [hk, hcp.out, hlenH.out]; simp]
      exact own_parts hown.out
end Go.Proofs.YtoeoodiifpoomaaGreatDoor
