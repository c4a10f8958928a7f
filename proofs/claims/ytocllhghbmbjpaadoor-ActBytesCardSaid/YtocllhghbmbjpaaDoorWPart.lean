/- The walks of the document's u, i, f and s: parts. -/
import Derived.Test.YtocllhghbmbjpaaDoorWWrite
set_option linter.unusedSimpArgs false
set_option linter.unusedVariables false
set_option maxRecDepth 20000
namespace Go.Proofs.YtocllhghbmbjpaaDoor
open Go.RowKit Moi
attribute [local go_sem] toList_str str_size less_ltB store_float
theorem Blk.store6 {w : World} {g : Nat} {t : TypeId} {a0 a1 a2 a3 a4 a5 v0 v1 v2 v3 v4 v5 : Value} (h : Blk w g t #[a0, a1, a2, a3, a4, a5]) : Blk ((((((w.setCell ⟨g, 0, none⟩ v0).setCell ⟨g, 1, none⟩ v1).setCell ⟨g, 2, none⟩ v2).setCell ⟨g, 3, none⟩ v3).setCell ⟨g, 4, none⟩ v4).setCell ⟨g, 5, none⟩ v5) g t #[v0, v1, v2, v3, v4, v5] := by
  have h0 : Blk _ g t #[v0, a1, a2, a3, a4, a5] := h.set_ 0 v0
  have h1 : Blk _ g t #[v0, v1, a2, a3, a4, a5] := h0.set_ 1 v1
  have h2 : Blk _ g t #[v0, v1, v2, a3, a4, a5] := h1.set_ 2 v2
  have h3 : Blk _ g t #[v0, v1, v2, v3, a4, a5] := h2.set_ 3 v3
  have h4 : Blk _ g t #[v0, v1, v2, v3, v4, a5] := h3.set_ 4 v4
  exact h4.set_ 5 v5
theorem size_part : (Tryd.prog.info? 107).map (·.size) = some 6 := by kernel_rfl
theorem pu_any (n : Nat) (hn : n < 9223372036854775808) (w : World) : Calls Tryd.prog 97 #[.int .i64 (n : Nat)] w fun e w' => e = .returned (.agg (partCells (.u n))) ∧ Cln w w' := by
  have hwr : IntKind.u64.wrap ((n : Nat) : Int) = ((n : Nat) : Int) := IntWalk.u64_in _ (by omega)
  go_enter Tryd.func97, Tryd.ntmps97
  go_wp2_with fail
  refine bodyPost_ret (v := .agg #[.int .u8 117, .int .u64 (n : Nat), .int .i64 0, .int .u64 0, .string ⟨#[]⟩, .bool false]) ?_ rfl ⟨rfl, ?_⟩
  · refine results_cell_row Tryd.results97 _ _ w.heap.size 107 #[.int .u8 117, .int .u64 (n : Nat), .int .i64 0, .int .u64 0, .string ⟨#[]⟩, .bool false] (0, 0) _ ?_ ?_ Tryd.underlying107 ?_ ?_
    · rfl
    · exact Blk.new w _ _
    · rfl
    · exact size_part
  · (repeat (first | (with_reducible exact Below.refl _ _) | (with_reducible assumption) | (with_reducible refine Below.setCell ?_ (by first | omega | (simp; done) | (simp; omega)) _) | (with_reducible refine Below.alloc ?_ (by first | omega | (simp; done) | (simp; omega)) _) | (with_reducible refine Below.drew ?_) | (with_reducible refine below_drewN ?_ _)))
theorem pi_any (n : Int) (w : World) : Calls Tryd.prog 99 #[.int .i64 n] w fun e w' => e = .returned (.agg (partCells (.i n))) ∧ Cln w w' := by
  go_enter Tryd.func99, Tryd.ntmps99
  go_wp2_with fail
  refine bodyPost_ret (v := .agg #[.int .u8 105, .int .u64 0, .int .i64 n, .int .u64 0, .string ⟨#[]⟩, .bool false]) ?_ rfl ⟨rfl, ?_⟩
  · refine results_cell_row Tryd.results99 _ _ w.heap.size 107 #[.int .u8 105, .int .u64 0, .int .i64 n, .int .u64 0, .string ⟨#[]⟩, .bool false] (0, 0) _ ?_ ?_ Tryd.underlying107 ?_ ?_
    · rfl
    · exact Blk.new w _ _
    · rfl
    · exact size_part
  · (repeat (first | (with_reducible exact Below.refl _ _) | (with_reducible assumption) | (with_reducible refine Below.setCell ?_ (by first | omega | (simp; done) | (simp; omega)) _) | (with_reducible refine Below.alloc ?_ (by first | omega | (simp; done) | (simp; omega)) _) | (with_reducible refine Below.drew ?_) | (with_reducible refine below_drewN ?_ _)))
theorem ps_any (x : List UInt8) (w : World) : Calls Tryd.prog 98 #[.string (str x)] w fun e w' => e = .returned (.agg (partCells (.s x))) ∧ Cln w w' := by
  go_enter Tryd.func98, Tryd.ntmps98
  go_wp2_with fail
  refine bodyPost_ret (v := .agg #[.int .u8 115, .int .u64 0, .int .i64 0, .int .u64 0, .string (str x), .bool false]) ?_ rfl ⟨rfl, ?_⟩
  · refine results_cell_row Tryd.results98 _ _ w.heap.size 107 #[.int .u8 115, .int .u64 0, .int .i64 0, .int .u64 0, .string (str x), .bool false] (0, 0) _ ?_ ?_ Tryd.underlying107 ?_ ?_
    · rfl
    · exact Blk.new w _ _
    · rfl
    · exact size_part
  · (repeat (first | (with_reducible exact Below.refl _ _) | (with_reducible assumption) | (with_reducible refine Below.setCell ?_ (by first | omega | (simp; done) | (simp; omega)) _) | (with_reducible refine Below.alloc ?_ (by first | omega | (simp; done) | (simp; omega)) _) | (with_reducible refine Below.drew ?_) | (with_reducible refine below_drewN ?_ _)))
theorem pf_any (x : Nat) (hx : x < 18446744073709551616) (w : World) : Calls Tryd.prog 100 #[.float .f64 x] w fun e w' => e = .returned (.agg (partCells (.f (fkey x)))) ∧ Cln w w' := by
  go_enter Tryd.func100, Tryd.ntmps100
  go_wp2_with (go_at_call 76; refine (place_any _ hx _).mono ?_; rintro e w' ⟨rfl, rfl⟩)
  refine bodyPost_ret (v := .agg #[.int .u8 102, .int .u64 0, .int .i64 0, .int .u64 (fkey x : Nat), .string ⟨#[]⟩, .bool false]) ?_ rfl ⟨rfl, ?_⟩
  · refine results_cell_row Tryd.results100 _ _ w.heap.size 107 #[.int .u8 102, .int .u64 0, .int .i64 0, .int .u64 (fkey x : Nat), .string ⟨#[]⟩, .bool false] (0, 0) _ ?_ ?_ Tryd.underlying107 ?_ ?_
    · rfl
    · exact Blk.new w _ _
    · rfl
    · exact size_part
  · (repeat (first | (with_reducible exact Below.refl _ _) | (with_reducible assumption) | (with_reducible refine Below.setCell ?_ (by first | omega | (simp; done) | (simp; omega)) _) | (with_reducible refine Below.alloc ?_ (by first | omega | (simp; done) | (simp; omega)) _) | (with_reducible refine Below.drew ?_) | (with_reducible refine below_drewN ?_ _)))
/-! Rows of parts. -/
theorem Tryd.info107 : (Tryd.prog.info? 107).map (fun i => (i.zero, i.size, i.bytes)) = some (some (.agg #[.int .u8 0, .int .u64 0, .int .i64 0, .int .u64 0, .string ⟨#[]⟩, .bool false]), 6, 56) := by kernel_rfl
def partVals (l : List MPart) : List Value := l.flatMap fun p => (partCells p).toList
theorem partCells_size (p : MPart) : (partCells p).toList.length = 6 := by cases p <;> rfl
theorem partVals_length (l : List MPart) : (partVals l).length = l.length * 6 := by
  induction l with
  | nil => rfl
  | cons p l ih => simp only [partVals, List.flatMap_cons, List.length_append, List.length_cons] at *; rw [ih, partCells_size]; omega
theorem partVals_append (a b : List MPart) : partVals (a ++ b) = partVals a ++ partVals b := by simp [partVals]
theorem partVals_one_cell (l : List MPart) : ∀ u ∈ partVals l, u.oneCell' = true := by
  intro u hu
  simp only [partVals, List.mem_flatMap] at hu
  obtain ⟨p, _, hp⟩ := hu
  cases p <;> simp [partCells] at hp <;> rcases hp with rfl | rfl | rfl | rfl | rfl | rfl <;> rfl
theorem partVals_get (l : List MPart) : ∀ i, i < l.length → ∀ j, j < 6 → (partVals l)[i * 6 + j]? = (partCells (partAt l i))[j]? := by
  induction l with
  | nil => intro i hi; simp at hi
  | cons p l ih =>
    intro i hi j hj
    have hs := partCells_size p
    rcases i with _ | i
    · simp only [partVals, List.flatMap_cons, Nat.zero_mul, Nat.zero_add]
      rw [List.getElem?_append_left (by omega)]
      simp [partAt]
    · have h1 := ih i (by simpa using hi) j hj
      simp only [partVals, List.flatMap_cons] at h1 ⊢
      rw [List.getElem?_append_right (by omega), hs, show (i + 1) * 6 + j - 6 = i * 6 + j from by omega, h1]
      simp [partAt]
theorem own_parts {w : World} {base n c : Nat} {A : Option Addr} {l : List MPart} (h : w.ownsRow base 107 6 (.slice A n c) n (partVals l)) : RdParts w A n l := by
  have hl : l.length = n := by have := h.1; rw [partVals_length] at this; omega
  refine ⟨hl, fun h0 => ?_⟩
  rcases h.2 with ⟨_, hn⟩ | ⟨g, cap, cur, hv, hb, hg, hn, hm, hs, ht⟩
  · omega
  · injection hv with h1 h2 h3
    refine ⟨g, 0, h1, lt_of_block hg, fun i hi j hj => ?_⟩
    rw [Nat.zero_add, cell_of_row w g (i * 6 + j) cur _ _ hg, ← partVals_get l i (by omega) j hj, ← ht, List.getElem?_take_of_lt (by omega), Array.getElem?_toList]
section
variable {w : World} {base n m c g : Nat} {v : Value} {l1 l2 : List MPart} {cs : Array Value}
theorem run_catP (t : TypeId) (hown : w.ownsRow base 107 6 v n (partVals l1)) (hlit : Blk w g 107 cs) (hcs : cs.toList = partVals l2) (hm : l2.length = m) (hb : n + m ≤ 1000000) (hbase : base ≤ w.heap.size) :
    ∃ A' c' w', (Builtin.append_ #[73, 73] t #[v, .slice (some ⟨g, 0, none⟩) m c]).run Tryd.prog w = .ok (.slice A' (n + m) c') w' ∧ w'.ownsRow base 107 6 (.slice A' (n + m) c') (n + m) (partVals (l1 ++ l2)) ∧ w.grownBy w' v.ownBlock := by
  obtain ⟨i0, hi, hz0, hz1, hz2⟩ := info_parts Tryd.info107
  have hl : (partVals l2).length = m * 6 := by rw [partVals_length, hm]
  have hsrc : ∀ j u, (partVals l2)[j]? = some u → w.cell? ((⟨g, 0, none⟩ : Addr).add j) = some u := by
    intro j u hu
    have hadd : (⟨g, 0, none⟩ : Addr).add j = ⟨g, j, none⟩ := by unfold Addr.add; split <;> simp_all
    rw [hadd, hlit.cell j, ← Array.getElem?_toList, hcs, hu]
  obtain ⟨v', w', h1, h2, h3, _⟩ := run_append_own w base 73 t 107 i0 (.agg #[.int .u8 0, .int .u64 0, .int .i64 0, .int .u64 0, .string ⟨#[]⟩, .bool false]) 6 56 Tryd.underlying73 hi hz0 hz1 hz2 rfl (by decide) v n (partVals l1) hown ⟨g, 0, none⟩ m c (partVals l2) hl hsrc (partVals_one_cell _) (by simp only [maxLen]; omega) (by omega) hbase
  obtain ⟨A', c', rfl, _⟩ := own_form h2
  exact ⟨A', c', w', h1, by rw [partVals_append]; exact h2, h3⟩
variable {ops : Array Oper} {rest : List Oper} {o : Oper} {a : Act} {K : Act → World → Prop} {Q : Exit → Act → World → Prop} {E : Prop}
theorem wp_catP (s x : Operand) (ho : o.op = .call { callee := .builtin .append, args := #[s, x], argTypes := #[73, 73] }) (hs : a.eval s = v) (hx : a.eval x = .slice (some ⟨g, 0, none⟩) m c)
    (hown : w.ownsRow base 107 6 v n (partVals l1)) (hlit : Blk w g 107 cs) (hcs : cs.toList = partVals l2) (hm : l2.length = m) (hb : n + m ≤ 1000000) (hbase : base ≤ w.heap.size)
    (h : ∀ A' c' w', w'.ownsRow base 107 6 (.slice A' (n + m) c') (n + m) (partVals (l1 ++ l2)) → w.grownBy w' v.ownBlock → K (a.put o.dst (.slice A' (n + m) c')) w') : o.wp Tryd.prog a w K Q := by
  obtain ⟨A', c', w', h1, h2, h3⟩ := run_catP (c := c) o.type hown hlit hcs hm hb hbase
  unfold Oper.wp execOp
  simp only [ho, resolve, invoke, builtin, Sem.run_bind, Sem.run_pure, Result.andThen_ok, List.map_toArray, List.map_cons, List.map_nil, hs, hx, h1]
  exact h A' c' w' h2 h3
theorem step_catP (hgd : o.guard = none) (s x : Operand) (ho : o.op = .call { callee := .builtin .append, args := #[s, x], argTypes := #[73, 73] }) (hs : a.eval s = v) (hx : a.eval x = .slice (some ⟨g, 0, none⟩) m c)
    (hown : w.ownsRow base 107 6 v n (partVals l1)) (hlit : Blk w g 107 cs) (hcs : cs.toList = partVals l2) (hm : l2.length = m) (hb : n + m ≤ 1000000) (hbase : base ≤ w.heap.size)
    (h : ∀ A' c' w', w'.ownsRow base 107 6 (.slice A' (n + m) c') (n + m) (partVals (l1 ++ l2)) → w.grownBy w' v.ownBlock → K (a.put o.dst (.slice A' (n + m) c')) w') :
    if Region.wanted o (yielded ops a.tmps) = true then Oper.wp Tryd.prog o a w K Q else E := by
  have hw : Region.wanted o (yielded ops a.tmps) = true := by simp [Region.wanted, hgd]
  rw [if_pos hw]
  exact wp_catP s x ho hs hx hown hlit hcs hm hb hbase h
theorem wpList_catP (hgd : o.guard = none) (s x : Operand) (ho : o.op = .call { callee := .builtin .append, args := #[s, x], argTypes := #[73, 73] }) (hs : a.eval s = v) (hx : a.eval x = .slice (some ⟨g, 0, none⟩) m c)
    (hown : w.ownsRow base 107 6 v n (partVals l1)) (hlit : Blk w g 107 cs) (hcs : cs.toList = partVals l2) (hm : l2.length = m) (hb : n + m ≤ 1000000) (hbase : base ≤ w.heap.size)
    (h : ∀ A' c' w', w'.ownsRow base 107 6 (.slice A' (n + m) c') (n + m) (partVals (l1 ++ l2)) → w.grownBy w' v.ownBlock → wpList Tryd.prog ops Q rest (a.put o.dst (.slice A' (n + m) c')) w') :
    wpList Tryd.prog ops Q (o :: rest) a w :=
  wpList_plain hgd fun _ hK => wp_catP s x ho hs hx hown hlit hcs hm hb hbase fun A' c' w' h2 h3 => hK _ _ (h A' c' w' h2 h3)
end
end Go.Proofs.YtocllhghbmbjpaaDoor
