/- The walk of the document's One: a part as bytes. -/
import Derived.Test.YtocllhghbmbjpaaDoorWDig
import Derived.Deep.RegionLaw
set_option linter.unusedSimpArgs false
set_option linter.unusedVariables false
set_option maxRecDepth 20000
namespace Moi
/-- A part of the document's form. -/
inductive MPart where
  | u (n : Nat)
  | i (n : Int)
  | f (k : Nat)
  | s (x : List UInt8)
  | b (y : Bool)
def wPart : MPart → List UInt8
  | .u n => wU n
  | .i n => wI n
  | .f k => wPlace k
  | .s x => wS x
  | .b y => wFlag y
def MPart.WF : MPart → Prop
  | .u n => n < 18446744073709551616
  | .i n => -9223372036854775808 ≤ n ∧ n < 9223372036854775808
  | .f k => k < 18446744073709551616
  | .s x => x.length ≤ 1000000
  | .b _ => True
end Moi
namespace Go.Proofs.YtocllhghbmbjpaaDoor
open Go.RowKit Moi
attribute [local go_sem] toList_str str_size less_ltB store_float
def partCells : MPart → Array Value
  | .u n => #[.int .u8 117, .int .u64 (n : Nat), .int .i64 0, .int .u64 0, .string ⟨#[]⟩, .bool false]
  | .i n => #[.int .u8 105, .int .u64 0, .int .i64 n, .int .u64 0, .string ⟨#[]⟩, .bool false]
  | .f k => #[.int .u8 102, .int .u64 0, .int .i64 0, .int .u64 (k : Nat), .string ⟨#[]⟩, .bool false]
  | .s x => #[.int .u8 115, .int .u64 0, .int .i64 0, .int .u64 0, .string (str x), .bool false]
  | .b y => #[.int .u8 98, .int .u64 0, .int .i64 0, .int .u64 0, .string ⟨#[]⟩, .bool y]
section
variable {w : World} {base n m c : Nat} {v : Value} {A : Option Addr} {b1 b2 : List UInt8}
/-- Bytes that are appended to a row of one's own. -/
theorem run_catB (t : TypeId) (hown : w.ownsRow base 5 1 v n (byteVals b1)) (hr : RdBytes w A m b2) (hb : n + m ≤ 140737488355328) (hbase : base ≤ w.heap.size) :
    ∃ A' c' w', (Builtin.append_ #[38, 38] t #[v, .slice A m c]).run Tryd.prog w = .ok (.slice A' (n + m) c') w' ∧ w'.ownsRow base 5 1 (.slice A' (n + m) c') (n + m) (byteVals (b1 ++ b2)) ∧ w.grownBy w' v.ownBlock := by
  obtain ⟨i0, hi, hz0, hz1, hz2⟩ := info_parts Tryd.info5
  obtain ⟨hs1, hs2⟩ := bytes_src hr
  have hl : (byteVals b2).length = m * 1 := by rw [byteVals_length, hr.len, Nat.mul_one]
  rcases A with _ | ad
  · obtain rfl := hs2 rfl
    have hn : b2 = [] := List.eq_nil_of_length_eq_zero hr.len
    subst hn
    obtain ⟨A', c', rfl, _⟩ := own_form hown
    exact ⟨A', c', w, run_append_of_none Tryd.underlying38 hi hown c, by simpa using hown, World.grownBy.refl _ _⟩
  · obtain ⟨v', w', h1, h2, h3, _⟩ := run_append_own w base 38 t 5 i0 (.int .u8 0) 1 1 Tryd.underlying38 hi hz0 hz1 hz2 rfl (by decide) v n (byteVals b1) hown ad m c (byteVals b2) hl (hs1 ad rfl) (bytes_one_cell _) (by simp only [maxLen]; omega) (by omega) hbase
    obtain ⟨A', c', rfl, _⟩ := own_form h2
    exact ⟨A', c', w', h1, by rw [byteVals_append]; exact h2, h3⟩
variable {ops : Array Oper} {rest : List Oper} {o : Oper} {a : Act} {K : Act → World → Prop} {Q : Exit → Act → World → Prop} {E : Prop}
theorem wp_catB (s x : Operand) (ho : o.op = .call { callee := .builtin .append, args := #[s, x], argTypes := #[38, 38] }) (hs : a.eval s = v) (hx : a.eval x = .slice A m c)
    (hown : w.ownsRow base 5 1 v n (byteVals b1)) (hr : RdBytes w A m b2) (hb : n + m ≤ 140737488355328) (hbase : base ≤ w.heap.size)
    (h : ∀ A' c' w', w'.ownsRow base 5 1 (.slice A' (n + m) c') (n + m) (byteVals (b1 ++ b2)) → w.grownBy w' v.ownBlock → K (a.put o.dst (.slice A' (n + m) c')) w') : o.wp Tryd.prog a w K Q := by
  obtain ⟨A', c', w', h1, h2, h3⟩ := run_catB (c := c) o.type hown hr hb hbase
  unfold Oper.wp execOp
  simp only [ho, resolve, invoke, builtin, Sem.run_bind, Sem.run_pure, Result.andThen_ok, List.map_toArray, List.map_cons, List.map_nil, hs, hx, h1]
  exact h A' c' w' h2 h3
theorem step_catB (hgd : o.guard = none) (s x : Operand) (ho : o.op = .call { callee := .builtin .append, args := #[s, x], argTypes := #[38, 38] }) (hs : a.eval s = v) (hx : a.eval x = .slice A m c)
    (hown : w.ownsRow base 5 1 v n (byteVals b1)) (hr : RdBytes w A m b2) (hb : n + m ≤ 140737488355328) (hbase : base ≤ w.heap.size)
    (h : ∀ A' c' w', w'.ownsRow base 5 1 (.slice A' (n + m) c') (n + m) (byteVals (b1 ++ b2)) → w.grownBy w' v.ownBlock → K (a.put o.dst (.slice A' (n + m) c')) w') :
    if Region.wanted o (yielded ops a.tmps) = true then Oper.wp Tryd.prog o a w K Q else E := by
  have hw : Region.wanted o (yielded ops a.tmps) = true := by simp [Region.wanted, hgd]
  rw [if_pos hw]
  exact wp_catB s x ho hs hx hown hr hb hbase h
theorem wpList_catB (hgd : o.guard = none) (s x : Operand) (ho : o.op = .call { callee := .builtin .append, args := #[s, x], argTypes := #[38, 38] }) (hs : a.eval s = v) (hx : a.eval x = .slice A m c)
    (hown : w.ownsRow base 5 1 v n (byteVals b1)) (hr : RdBytes w A m b2) (hb : n + m ≤ 140737488355328) (hbase : base ≤ w.heap.size)
    (h : ∀ A' c' w', w'.ownsRow base 5 1 (.slice A' (n + m) c') (n + m) (byteVals (b1 ++ b2)) → w.grownBy w' v.ownBlock → wpList Tryd.prog ops Q rest (a.put o.dst (.slice A' (n + m) c')) w') :
    wpList Tryd.prog ops Q (o :: rest) a w :=
  wpList_plain hgd fun _ hK => wp_catB s x ho hs hx hown hr hb hbase fun A' c' w' h2 h3 => hK _ _ (h A' c' w' h2 h3)
end
/-- The world behind a text's turning into bytes. -/
def cwOf (s : ByteArray) (W : World) : World := W.drew.alloc (.cells (bytesRow s (grownCap W s.size 0 5)) 5 ((bytesRow s (grownCap W s.size 0 5)).size, (bytesRow s (grownCap W s.size 0 5)).size + 1))
theorem run_cw (s : ByteArray) (W : World) : (convert 9 38 (.string s)).run Tryd.prog W = .ok (.slice (some ⟨W.heap.size, 0, none⟩) s.size (grownCap W s.size 0 5)) (cwOf s W) :=
  run_bytes_of_string W _ _ 5 s Tryd.underlying9 Tryd.underlying38 Tryd.underlying5
theorem cw_cln (s : ByteArray) (W : World) : Cln W (cwOf s W) := by unfold cwOf; exact ((Below.refl _ _).drew).alloc (Nat.le_refl _) _
theorem cw_rd (x : List UInt8) (W : World) : RdBytes (cwOf (str x) W) (some ⟨W.heap.size, 0, none⟩) x.length x := by
  have hn : (str x).size = x.length := str_size x
  refine ⟨rfl, fun ad e => ?_, fun _ => ⟨W.heap.size, 0, rfl, ?_, fun i hi => ?_⟩⟩
  · injection e with e; subst e; rfl
  · unfold cwOf; simp
  · have hh : (cwOf (str x) W).heap[W.heap.size]? = some (.cells (bytesRow (str x) (grownCap W (str x).size 0 5)) 5 ((bytesRow (str x) (grownCap W (str x).size 0 5)).size, (bytesRow (str x) (grownCap W (str x).size 0 5)).size + 1)) := heap_alloc_new W.drew _
    have hi' : i < (str x).data.size := by show i < (str x).size; omega
    rw [Nat.zero_add, cell_of_row _ _ i _ _ _ hh, bytesRow_at _ _ i hi']
    have hx : i < x.length := by omega
    simp [byteAt, str, List.getD, hx]
theorem own_lo {w : World} {base e size m : Nat} {v : Value} {xs : List Value} (h : w.ownsRow base e size v m xs) : ∀ g, v.ownBlock = some g → base ≤ g := by
  intro g hg
  rcases h.2 with ⟨h1, _⟩ | ⟨g', cap, cur, hv, hb, hh, r⟩
  · rw [h1] at hg; cases hg
  · rw [hv] at hg
    simp [Value.ownBlock] at hg
    omega
set_option maxHeartbeats 4000000 in
theorem one_u (n : Nat) (hn : n < 18446744073709551616) (w : World) : Calls Tryd.prog 75 #[.agg (partCells (.u n))] w (NewBytes w (wU n)) := by
  rw [show partCells (.u n) = #[.int .u8 117, .int .u64 (n : Nat), .int .i64 0, .int .u64 0, .string ⟨#[]⟩, .bool false] from rfl]
  go_enter Tryd.func75, Tryd.ntmps75
  go_wp2_with fail
  refine (digits_any n hn _).mono ?_
  rintro e w2 ⟨A, c, m, hm, rfl, hown, hq⟩
  replace hown := Lib.hid (own_base hown (show w.heap.size ≤ _ from by simp))
  replace hq := Lib.hid (show Cln w w2 from cln_trans (by (repeat (first | (with_reducible exact Below.refl _ _) | (with_reducible assumption) | (with_reducible refine Below.setCell ?_ (by first | omega | (simp; done) | (simp; omega)) _) | (with_reducible refine Below.alloc ?_ (by first | omega | (simp; done) | (simp; omega)) _) | (with_reducible refine Below.drew ?_) | (with_reducible refine below_drewN ?_ _)))) hq)
  go_wp2_with fail
  go_ret
  exact ⟨A, c, m, hm, rfl, hown.out, hq.out⟩
set_option maxHeartbeats 4000000 in
theorem one_i (n : Int) (hn : -9223372036854775808 ≤ n ∧ n < 9223372036854775808) (w : World) : Calls Tryd.prog 75 #[.agg (partCells (.i n))] w (NewBytes w (wI n)) := by
  rw [show partCells (.i n) = #[.int .u8 105, .int .u64 0, .int .i64 n, .int .u64 0, .string ⟨#[]⟩, .bool false] from rfl]
  go_enter Tryd.func75, Tryd.ntmps75
  go_wp2_with fail
  refine (zig_any n hn.1 hn.2 _).mono ?_
  rintro e w1 ⟨rfl, rfl⟩
  go_wp2_with fail
  refine (digits_any (zig n) (zig_lt' n hn) _).mono ?_
  rintro e w2 ⟨A, c, m, hm, rfl, hown, hq⟩
  replace hown := Lib.hid (own_base hown (show w.heap.size ≤ _ from by simp))
  replace hq := Lib.hid (show Cln w w2 from cln_trans (by (repeat (first | (with_reducible exact Below.refl _ _) | (with_reducible assumption) | (with_reducible refine Below.setCell ?_ (by first | omega | (simp; done) | (simp; omega)) _) | (with_reducible refine Below.alloc ?_ (by first | omega | (simp; done) | (simp; omega)) _) | (with_reducible refine Below.drew ?_) | (with_reducible refine below_drewN ?_ _)))) hq)
  go_wp2_with fail
  go_ret
  exact ⟨A, c, m, hm, rfl, hown.out, hq.out⟩
set_option maxHeartbeats 4000000 in
theorem one_f (k : Nat) (hk : k < 18446744073709551616) (w : World) : Calls Tryd.prog 75 #[.agg (partCells (.f k))] w (NewBytes w (wPlace k)) := by
  rw [show partCells (.f k) = #[.int .u8 102, .int .u64 0, .int .i64 0, .int .u64 (k : Nat), .string ⟨#[]⟩, .bool false] from rfl]
  go_enter Tryd.func75, Tryd.ntmps75
  go_wp2_with fail
  refine (placeB_any k hk _).mono ?_
  rintro e w2 ⟨A, c, m, hm, rfl, hown, hq⟩
  replace hown := Lib.hid (own_base hown (show w.heap.size ≤ _ from by simp))
  replace hq := Lib.hid (show Cln w w2 from cln_trans (by (repeat (first | (with_reducible exact Below.refl _ _) | (with_reducible assumption) | (with_reducible refine Below.setCell ?_ (by first | omega | (simp; done) | (simp; omega)) _) | (with_reducible refine Below.alloc ?_ (by first | omega | (simp; done) | (simp; omega)) _) | (with_reducible refine Below.drew ?_) | (with_reducible refine below_drewN ?_ _)))) hq)
  go_wp2_with fail
  go_ret
  exact ⟨A, c, m, hm, rfl, hown.out, hq.out⟩
set_option maxHeartbeats 4000000 in
theorem one_b (y : Bool) (w : World) : Calls Tryd.prog 75 #[.agg (partCells (.b y))] w (NewBytes w (wFlag y)) := by
  cases y with
  | true =>
    rw [show partCells (.b true) = #[.int .u8 98, .int .u64 0, .int .i64 0, .int .u64 0, .string ⟨#[]⟩, .bool true] from rfl]
    go_enter Tryd.func75, Tryd.ntmps75
    go_wp2_with fail
    go_ret
    refine ⟨_, _, 1, rfl, rfl, ?_, by (repeat (first | (with_reducible exact Below.refl _ _) | (with_reducible assumption) | (with_reducible refine Below.setCell ?_ (by first | omega | (simp; done) | (simp; omega)) _) | (with_reducible refine Below.alloc ?_ (by first | omega | (simp; done) | (simp; omega)) _) | (with_reducible refine Below.drew ?_) | (with_reducible refine below_drewN ?_ _)))⟩
    have h := World.ownsRow_lit (base := w.heap.size) (e := 5) (size := 1) (w.alloc (.cells #[.int .u8 98, .int .u64 0, .int .i64 0, .int .u64 0, .string ⟨#[]⟩, .bool true] 107)) #[.int .u8 1] 1 (by simp) (by decide) rfl
    rw [World.size_alloc] at h
    exact h
  | false =>
    rw [show partCells (.b false) = #[.int .u8 98, .int .u64 0, .int .i64 0, .int .u64 0, .string ⟨#[]⟩, .bool false] from rfl]
    go_enter Tryd.func75, Tryd.ntmps75
    go_wp2_with fail
    go_ret
    refine ⟨_, _, 1, rfl, rfl, ?_, by (repeat (first | (with_reducible exact Below.refl _ _) | (with_reducible assumption) | (with_reducible refine Below.setCell ?_ (by first | omega | (simp; done) | (simp; omega)) _) | (with_reducible refine Below.alloc ?_ (by first | omega | (simp; done) | (simp; omega)) _) | (with_reducible refine Below.drew ?_) | (with_reducible refine below_drewN ?_ _)))⟩
    have h := World.ownsRow_lit (base := w.heap.size) (e := 5) (size := 1) (w.alloc (.cells #[.int .u8 98, .int .u64 0, .int .i64 0, .int .u64 0, .string ⟨#[]⟩, .bool false] 107)) #[.int .u8 0] 1 (by simp) (by decide) rfl
    rw [World.size_alloc] at h
    exact h
set_option maxHeartbeats 8000000 in
theorem one_s (x : List UInt8) (hx : x.length ≤ 1000000) (w : World) : Calls Tryd.prog 75 #[.agg (partCells (.s x))] w (NewBytes w (wS x)) := by
  rw [show partCells (.s x) = #[.int .u8 115, .int .u64 0, .int .i64 0, .int .u64 0, .string (str x), .bool false] from rfl]
  have hcw := run_cw (str x)
  have hb0 := Blk.new w 107 #[.int .u8 115, .int .u64 0, .int .i64 0, .int .u64 0, .string (str x), .bool false]
  have hb0' := Lib.hid hb0
  have hc0 := hb0.cell
  have hsz := str_size x
  have cD : ∀ W : World, Calls Tryd.prog 94 #[.int .u64 ((x.length : Nat) : Int)] W fun e w' => ∃ A c m, Hid (m = (wU x.length).length) ∧ e = .returned (.slice A m c) ∧ w'.ownsRow W.heap.size 5 1 (.slice A m c) m (byteVals (wU x.length)) ∧ Cln W w' := fun W => digits_any x.length (by omega) W
  have hc1 := (hb0.drew.cln (cw_cln (str x) (w.alloc (.cells #[.int .u8 115, .int .u64 0, .int .i64 0, .int .u64 0, .string (str x), .bool false] 107)).drew)).cell
  have hrd2 : ∀ W' : World, Cln (cwOf (str x) (w.alloc (.cells #[.int .u8 115, .int .u64 0, .int .i64 0, .int .u64 0, .string (str x), .bool false] 107)).drew) W' → RdBytes W' (some ⟨w.heap.size + 1, 0, none⟩) x.length x := fun W' k => by
    have h := (cw_rd x (w.alloc (.cells #[.int .u8 115, .int .u64 0, .int .i64 0, .int .u64 0, .string (str x), .bool false] 107)).drew).cln k
    rw [show (w.alloc (.cells #[.int .u8 115, .int .u64 0, .int .i64 0, .int .u64 0, .string (str x), .bool false] 107)).drew.heap.size = w.heap.size + 1 from by show (w.alloc _).heap.size = _; rw [World.size_alloc]] at h
    exact h
  clear hb0
  have hlen10 := wU_len10 x.length (by omega)
  have hwr : IntKind.u64.wrap ((x.length : Nat) : Int) = ((x.length : Nat) : Int) := IntWalk.u64_in _ (by omega)
  go_enter Tryd.func75, Tryd.ntmps75
  go_wp2_with fail
  go_region_law (first
    | (go_simp; go_at_call 94; with_reducible refine (cD _).mono ?_; rintro e wd ⟨Ad, cd, md, hmd, rfl, hownd, hqd⟩; have hcd := (hb0'.out.cln (by first | exact cln_trans (Below.drew (Below.refl _ _)) hqd | exact cln_trans (cln_trans (Below.drew (Below.refl _ _)) (cw_cln _ _)) hqd)).cell; have hod := own_base hownd (show w.heap.size ≤ _ from by first | exact (Below.drew ((Below.refl w.heap.size w).alloc (Nat.le_refl _) _)).size | exact (cln_trans (Below.drew ((Below.refl w.heap.size w).alloc (Nat.le_refl _) _)) (cw_cln _ _)).size); have hcld := Lib.hid (show Cln w wd from by first | exact cln_trans (Below.drew ((Below.refl _ _).alloc (Nat.le_refl _) _)) hqd | exact cln_trans (cln_trans (Below.drew ((Below.refl _ _).alloc (Nat.le_refl _) _)) (cw_cln _ _)) hqd))
    | (refine step_catB (m := x.length) (b2 := x) rfl _ _ rfl rfl rfl (own_cln hod (cw_cln (str x) wd)) (cw_rd x wd) (by have := hmd.out; omega) (Nat.le_trans hcld.out.size (cw_cln (str x) wd).size) ?_; intro A5 c5 w5 hown5 hg5; have hkeep := Lib.hid (And.intro hown5 ((cln_trans hcld.out (cw_cln (str x) wd)).grown hg5 (Nat.le_trans hcld.out.size (cw_cln (str x) wd).size) (fun k hk => own_lo hod k hk))))
    | (refine step_catB (m := x.length) (b2 := x) rfl _ _ rfl rfl rfl hod (hrd2 _ hqd) (by have := hmd.out; omega) hcld.out.size ?_; intro A5 c5 w5 hown5 hg5; have hkeep := Lib.hid (And.intro hown5 (hcld.out.grown hg5 hcld.out.size (fun k hk => own_lo hod k hk)))))
  all_goals
    (try go_wp2_with fail)
    go_ret
    exact ⟨A5, c5, md + x.length, by unfold Hid; rw [hmd.out, wS, List.length_append], rfl, hkeep.out.1, hkeep.out.2⟩
theorem partOne_any (p : MPart) (hp : p.WF) (w : World) : Calls Tryd.prog 75 #[.agg (partCells p)] w (NewBytes w (wPart p)) := by
  cases p with
  | u n => exact one_u n hp w
  | i n => exact one_i n hp w
  | f k => exact one_f k hp w
  | s x => exact one_s x hp w
  | b y => exact one_b y w
end Go.Proofs.YtocllhghbmbjpaaDoor
