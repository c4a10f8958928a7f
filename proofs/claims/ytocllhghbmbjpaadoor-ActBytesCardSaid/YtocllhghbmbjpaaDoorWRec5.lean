/- The walks of rec.Same and of slices.EqualFunc over items. -/
import Derived.Test.YtocllhghbmbjpaaDoorWRec
import Derived.Lib.SliceRun
set_option linter.unusedSimpArgs false
set_option linter.unusedVariables false
set_option maxRecDepth 20000
namespace Go.Proofs.YtocllhghbmbjpaaDoor
open Go.RowKit Moi
attribute [local go_sem] toList_str str_size less_ltB store_float

def sameItem (x y : MItem) : Bool := (x.name == y.name) && fsame x.score y.score
theorem same1_any (x y : MItem) (hx : x.score < 18446744073709551616) (hy : y.score < 18446744073709551616) (w : World) :
    Calls Tryd.prog 85 #[itemVal x, itemVal y] w fun e w' => e = .returned (.bool (sameItem x y)) ∧ Cln w w' := by
  unfold itemVal
  cases h : (x.name == y.name) with
  | true =>
    go_enter Tryd.func85, Tryd.ntmps85
    go_wp2_with (go_at_call 49; refine (fsame_any _ _ hx hy _).mono ?_; rintro e w' ⟨rfl, rfl⟩)
    go_ret
    exact ⟨ret_bool (by unfold sameItem; rw [h]; rfl), by (repeat (first | (with_reducible exact Below.refl _ _) | (with_reducible assumption) | (with_reducible refine Below.setCell ?_ (by first | omega | (simp; done) | (simp; omega)) _) | (with_reducible refine Below.alloc ?_ (by first | omega | (simp; done) | (simp; omega)) _) | (with_reducible refine Below.drew ?_) | (with_reducible refine below_drewN ?_ _)))⟩
  | false =>
    go_enter Tryd.func85, Tryd.ntmps85
    go_wp2_with fail
    go_ret
    exact ⟨ret_bool (by unfold sameItem; rw [h]; rfl), by (repeat (first | (with_reducible exact Below.refl _ _) | (with_reducible assumption) | (with_reducible refine Below.setCell ?_ (by first | omega | (simp; done) | (simp; omega)) _) | (with_reducible refine Below.alloc ?_ (by first | omega | (simp; done) | (simp; omega)) _) | (with_reducible refine Below.drew ?_) | (with_reducible refine below_drewN ?_ _)))⟩

theorem sameItems_take (l m : List MItem) (i : Nat) (hl : i < l.length) (hm : i < m.length) :
    sameItems (l.drop i) (m.drop i) = (sameItem (itAt l i) (itAt m i) && sameItems (l.drop (i + 1)) (m.drop (i + 1))) := by
  have e1 : l.drop i = itAt l i :: l.drop (i + 1) := by rw [List.drop_eq_getElem_cons hl]; simp [itAt, List.getD, hl]
  have e2 : m.drop i = itAt m i :: m.drop (i + 1) := by rw [List.drop_eq_getElem_cons hm]; simp [itAt, List.getD, hm]
  rw [e1, e2, sameItems]
  rfl
theorem sameItems_len : ∀ l m : List MItem, l.length ≠ m.length → sameItems l m = false
  | [], [], h => absurd rfl h
  | [], _ :: _, _ => rfl
  | _ :: _, [], _ => rfl
  | x :: l, y :: m, h => by rw [sameItems, sameItems_len l m (by simpa using h)]; simp

set_option maxHeartbeats 800000 in
theorem eqf_any (l m : List MItem) (A B : Option Addr) (n c k d : Nat) (w : World) (hr : RdItems w A n l) (hs : RdItems w B k m) (hn : n ≤ 140737488355328) (hk : k ≤ 140737488355328) :
    Calls Tryd.prog 84 #[.slice A n c, .slice B k d, .func (.func 85) #[] #[]] w fun e w' => e = .returned (.bool (sameItems l m)) ∧ Cln w w' := by
  by_cases hne : n = k
  · subst hne
    have t1 : ((n : Int) != (n : Int)) = false := by simp
    go_enter Tryd.func84, Tryd.ntmps84
    go_wp2_with fail
    go_loopw [17] (fun v wr => ∃ i : Nat, i ≤ n ∧ v = .int .i64 (i : Nat) ∧ Cln w wr ∧ Hid (sameItems l m = sameItems (l.drop i) (m.drop i))) (fun v _ => (n - intOf v).toNat)
    case atStart => exact ⟨0, Nat.zero_le _, rfl, Below.refl _ _, rfl⟩
    case round =>
      obtain ⟨i, hi, rfl, hq, hH⟩ := hrel
      by_cases hlt : i < n
      · obtain ⟨b, o, rfl, hblt, hcell⟩ := (hr.cln hq).cells (by omega)
        obtain ⟨b2, o2, rfl, hblt2, hcell2⟩ := (hs.cln hq).cells (by omega)
        obtain ⟨hc0, hc1⟩ := hcell i hlt
        obtain ⟨hd0, hd1⟩ := hcell2 i hlt
        have hstep := Lib.hid (hH.out.trans (sameItems_take l m i (by rw [hr.len]; exact hlt) (by rw [hs.len]; exact hlt)))
        have hx := hr.wf i
        have hy := hs.wf i
        clear hcell hcell2 hH
        generalize itAt l i = x at hc0 hc1 hstep hx
        generalize itAt m i = y at hd0 hd1 hstep hy
        have hsz : b < wr.heap.size + 1 := by omega
        have hsz2 : b2 < wr.heap.size + 1 := by omega
        have hn2 : ¬ b2 = wr.heap.size := by omega
        cases hE : sameItem x y with
        | true =>
          have hE' := Lib.hid hE
          go_wp2_with fail
          refine (same1_any x y hx hy _).mono ?_; rintro e w1 ⟨rfl, hq2⟩; rw [hE]
          clear hE
          go_wp2_with fail
          go_roundw
          case rel => exact ⟨i + 1, hlt, by go_num, cln_trans hq (cln_trans (by (repeat (first | (with_reducible exact Below.refl _ _) | (with_reducible assumption) | (with_reducible refine Below.setCell ?_ (by first | omega | (simp; done) | (simp; omega)) _) | (with_reducible refine Below.alloc ?_ (by first | omega | (simp; done) | (simp; omega)) _) | (with_reducible refine Below.drew ?_) | (with_reducible refine below_drewN ?_ _)))) hq2), by unfold Hid; rw [hstep.out, hE'.out, Bool.true_and]⟩
          case measure => simp [intOf]; omega
        | false =>
          have hE' := Lib.hid hE
          go_wp2_with fail
          refine (same1_any x y hx hy _).mono ?_; rintro e w1 ⟨rfl, hq2⟩; rw [hE]
          clear hE
          go_wp2_with fail
          go_ret
          exact ⟨ret_bool (by rw [hstep.out, hE'.out, Bool.false_and]), cln_trans hq (cln_trans (by (repeat (first | (with_reducible exact Below.refl _ _) | (with_reducible assumption) | (with_reducible refine Below.setCell ?_ (by first | omega | (simp; done) | (simp; omega)) _) | (with_reducible refine Below.alloc ?_ (by first | omega | (simp; done) | (simp; omega)) _) | (with_reducible refine Below.drew ?_) | (with_reducible refine below_drewN ?_ _)))) hq2)⟩
      · obtain rfl : i = n := by omega
        have t2 : decide ((i : Int) < (i : Int)) = false := decide_eq_false (by omega)
        go_wp2_with fail
        go_ret
        exact ⟨ret_bool (by rw [hH.out, List.drop_of_length_le (by rw [hr.len]; exact Nat.le_refl _), List.drop_of_length_le (by rw [hs.len]; exact Nat.le_refl _)]; rfl), hq⟩
  · have t1 : ((n : Int) != (k : Int)) = true := by rw [bne_iff_ne]; omega
    have hf := Lib.hid (sameItems_len l m (by rw [hr.len, hs.len]; exact hne))
    go_enter Tryd.func84, Tryd.ntmps84
    go_wp2_with fail
    go_ret
    exact ⟨ret_bool hf.out.symm, Below.refl _ _⟩

set_option maxHeartbeats 4000000 in
theorem same_any (a b : MRec) (A B : Option Addr) (n c k d : Nat) (w : World) (hr : RdItems w A n a.list) (hs : RdItems w B k b.list) (hn : n ≤ 140737488355328) (hk : k ≤ 140737488355328)
    (ha : a.real < 18446744073709551616) (hb : b.real < 18446744073709551616) :
    Calls Tryd.prog 50 #[recVal a A n c, recVal b B k d] w fun e w' => e = .returned (.bool (sameRec a b)) ∧ Cln w w' := by
  unfold recVal
  have hend : ∀ (v : Bool) (w' : World), v = sameRec a b → Cln w w' → (Ending.returned (.bool v) = .returned (.bool (sameRec a b)) ∧ Cln w w') := fun v w' h h2 => ⟨by rw [h], h2⟩
  go_enter Tryd.func50, Tryd.ntmps50
  go_wp2_with (first
    | (go_at_call 49; refine (fsame_any _ _ ha hb _).mono ?_; rintro e w' ⟨rfl, rfl⟩)
    | (go_at_call 84; refine (eqf_any a.list b.list A B n c k d _ (hr.cln (by (repeat (first | (with_reducible exact Below.refl _ _) | (with_reducible assumption) | (with_reducible refine Below.setCell ?_ (by first | omega | (simp; done) | (simp; omega)) _) | (with_reducible refine Below.alloc ?_ (by first | omega | (simp; done) | (simp; omega)) _) | (with_reducible refine Below.drew ?_) | (with_reducible refine below_drewN ?_ _))))) (hs.cln (by (repeat (first | (with_reducible exact Below.refl _ _) | (with_reducible assumption) | (with_reducible refine Below.setCell ?_ (by first | omega | (simp; done) | (simp; omega)) _) | (with_reducible refine Below.alloc ?_ (by first | omega | (simp; done) | (simp; omega)) _) | (with_reducible refine Below.drew ?_) | (with_reducible refine below_drewN ?_ _))))) hn hk).mono ?_; rintro e w1 ⟨rfl, hq⟩))
  all_goals
    go_ret
    refine hend _ _ ?_ (by first | (exact cln_trans (by (repeat (first | (with_reducible exact Below.refl _ _) | (with_reducible assumption) | (with_reducible refine Below.setCell ?_ (by first | omega | (simp; done) | (simp; omega)) _) | (with_reducible refine Below.alloc ?_ (by first | omega | (simp; done) | (simp; omega)) _) | (with_reducible refine Below.drew ?_) | (with_reducible refine below_drewN ?_ _)))) hq) | (repeat (first | (with_reducible exact Below.refl _ _) | (with_reducible assumption) | (with_reducible refine Below.setCell ?_ (by first | omega | (simp; done) | (simp; omega)) _) | (with_reducible refine Below.alloc ?_ (by first | omega | (simp; done) | (simp; omega)) _) | (with_reducible refine Below.drew ?_) | (with_reducible refine below_drewN ?_ _))))
    simp_all [sameRec]

/-! Clones. -/
theorem Tryd.info94 : (Tryd.prog.info? 94).map (fun i => (i.zero, i.size, i.bytes)) = some (some (.agg #[.float .f64 0, .string ⟨#[]⟩]), 2, 24) := by kernel_rfl
theorem itemVals_length (l : List MItem) : (itemVals l).length = l.length * 2 := by
  induction l with
  | nil => rfl
  | cons x l ih => simp only [itemVals, List.flatMap_cons, List.length_append, List.length_cons, List.length_nil] at *; omega
theorem itemVals_get (l : List MItem) : ∀ i, i < l.length → (itemVals l)[i * 2]? = some (.float .f64 (itAt l i).score) ∧ (itemVals l)[i * 2 + 1]? = some (.string (str (itAt l i).name)) := by
  induction l with
  | nil => intro i hi; simp at hi
  | cons x l ih =>
    intro i hi
    have e : itemVals (x :: l) = .float .f64 x.score :: .string (str x.name) :: itemVals l := rfl
    cases i with
    | zero => rw [e]; exact ⟨rfl, rfl⟩
    | succ i =>
      have := ih i (by simpa using hi)
      rw [e, show (i + 1) * 2 = i * 2 + 2 from by omega]
      exact this
theorem itemVals_cells {w : World} {A : Option Addr} {n : Nat} {l : List MItem} (h : RdItems w A n l) :
    (∀ ad, A = some ad → ∀ j u, (itemVals l)[j]? = some u → w.cell? (ad.add j) = some u) ∧ (A = none → n = 0) := by
  constructor
  · rintro ad rfl j u hj
    have hl : j < l.length * 2 := by
      rcases Nat.lt_or_ge j (l.length * 2) with h2 | h2
      · exact h2
      · rw [List.getElem?_eq_none (by rw [itemVals_length]; exact h2)] at hj; cases hj
    have hlen := h.len
    obtain ⟨b, o, hA, _, hc⟩ := h.cells (by omega)
    injection hA with hA; subst hA
    have hi : j / 2 < n := by omega
    obtain ⟨g0, g1⟩ := itemVals_get l (j / 2) (by omega)
    obtain ⟨c0, c1⟩ := hc (j / 2) hi
    have e2 : (⟨b, o, none⟩ : Addr).add j = ⟨b, o + j, none⟩ := by unfold Addr.add; split <;> simp_all
    rw [e2]
    by_cases hp : j % 2 = 0
    · have : j / 2 * 2 = j := by omega
      rw [this] at g0 c0
      rw [g0] at hj; injection hj with hj; subst hj; exact c0
    · have : j / 2 * 2 + 1 = j := by omega
      rw [this] at g1
      rw [Nat.add_assoc, this] at c1
      rw [g1] at hj; injection hj with hj; subst hj; exact c1
  · rintro rfl
    rcases Nat.eq_zero_or_pos n with h0 | h0
    · exact h0
    · obtain ⟨b, o, hA, _⟩ := h.cells h0; cases hA
theorem itemVals_one_cell (l : List MItem) : ∀ u ∈ itemVals l, u.oneCell' = true := by
  intro u hu
  obtain ⟨x, _, hx⟩ := List.mem_flatMap.1 hu
  simp at hx
  rcases hx with rfl | rfl <;> rfl
theorem own_items {w : World} {base n c : Nat} {A : Option Addr} {l : List MItem} (h : w.ownsRow base 94 2 (.slice A n c) n (itemVals l)) (hwf : ∀ i, (itAt l i).score < 18446744073709551616) : RdItems w A n l := by
  obtain ⟨A', c', hv, hA, _⟩ := own_form h
  injection hv with h1 h2 h3
  subst h1
  have hl := h.1
  rw [itemVals_length] at hl
  refine ⟨by omega, hwf, fun h0 => ?_⟩
  rcases h.2 with ⟨hv, h00⟩ | ⟨g, cap, cur, hv, _, hg, _⟩
  · omega
  · injection hv with h1 h2 h3
    subst h1
    refine ⟨g, 0, rfl, lt_of_block hg, fun i hi => ?_⟩
    obtain ⟨g0, g1⟩ := itemVals_get l i (by omega)
    have c0 := h.cells (g := g) rfl _ _ g0
    have c1 := h.cells (g := g) rfl _ _ g1
    have e : ∀ j, (⟨g, 0, none⟩ : Addr).add j = ⟨g, 0 + j, none⟩ := fun j => by unfold Addr.add; split <;> simp_all
    rw [e] at c0 c1
    exact ⟨c0, by rw [Nat.add_assoc]; exact c1⟩

end Go.Proofs.YtocllhghbmbjpaaDoor
