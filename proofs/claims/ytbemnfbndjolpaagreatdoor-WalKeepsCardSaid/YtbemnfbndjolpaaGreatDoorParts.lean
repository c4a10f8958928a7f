import Derived.Test.YtbemnfbndjolpaaGreatDoorWBytes
import Derived.Deep.RegionWith
import Derived.StillTailTactics
import Derived.Deep.RegionLaw
import Derived.Test.YtbemnfbndjolpaaGreatDoorPlain
import Derived.Deep.RegionHeld3
/- The walks of the document's digits, zig and place: numbers as bytes. -/
set_option linter.unusedSimpArgs false
set_option linter.unusedVariables false
set_option maxRecDepth 20000
namespace Go.Proofs.YtbemnfbndjolpaaGreatDoor
open Go.RowKit Moi
attribute [local go_sem] toList_str str_size less_ltB store_float
theorem bytes_src {w : World} {A : Option Addr} {n : Nat} {bs : List UInt8} (h : RdBytes w A n bs) :
  (∀ ad, A = some ad → ∀ j u, (byteVals bs)[j]? = some u → w.cell? (ad.add j) = some u) ∧ (A = none → n = 0) := by
 refine ⟨fun ad e j u hu => ?_, fun e => ?_⟩
 ·have hl := h.len
  have hj : j < bs.length := by
   have := (List.getElem?_eq_some_iff.1 hu).1
   rw [byteVals_length] at this; exact this
  obtain ⟨b, o, hA, _, hc⟩ := h.cells (by omega)
  rw [e] at hA; injection hA with hA; subst hA
  have h1 := hc j (by omega)
  have e2 : (⟨b, o, none⟩ : Addr).add j = ⟨b, o + j, none⟩ := by
   unfold Addr.add
   split
   ·rename_i hz; subst hz; rfl
   ·rfl
  rw [e2, h1, ← hu]
  simp [byteVals, byteAt, hj, List.getD]
 ·rcases Nat.eq_zero_or_pos n with h0 | h0
  ·exact h0
  ·obtain ⟨b, o, hA, _⟩ := h.cells h0
   rw [e] at hA; cases hA
theorem bytes_one_cell (l : List UInt8) : ∀ u ∈ byteVals l, u.oneCell' = true := by
 intro u hu
 simp only [byteVals, List.mem_map] at hu
 obtain ⟨x, _, rfl⟩ := hu
 rfl
theorem own_cln {w w' : World} {base e size m : Nat} {v : Value} {xs : List Value} (h : w.ownsRow base e size v m xs) (hq : Cln w w') : w'.ownsRow base e size v m xs := by
 refine ⟨h.1, ?_⟩
 rcases h.2 with h1 | ⟨g, cap, cur, hv, hg, hh, r⟩
 ·exact .inl h1
 ·exact .inr ⟨g, cap, cur, hv, hg, (hq.block g (lt_of_block hh)).trans hh, r⟩
set_option maxHeartbeats 2000000 in
theorem digits_any (n : Nat) : n < 18446744073709551616 → ∀ w : World, Calls Tryz.prog 87 #[.int .u64 (n : Nat)] w (NewBytes w (wU n)) := by
 induction n using Nat.strongRecOn with
 | ind n ih =>
 intro hn w
 obtain ⟨i0, hi, hz0, hz1, hz2⟩ := info_parts Tryz.info5
 by_cases h : n < 128
 ·have t1 : decide ((n : Int) < 128) = true := decide_eq_true (by omega)
  have hE : Hid (byteVals (wU n) = [.int .u8 ((n : Int) % 256)]) := by
   unfold Hid; rw [wU_small n h, byteVals_one]
   have e : (((UInt8.ofNat n).toNat : Nat) : Int) = (n : Int) % 256 := by rw [UInt8.toNat_ofNat']; omega
   rw [e]
  have hL : Hid (1 = (wU n).length) := by unfold Hid; rw [wU_small n h]; rfl
  clear ih h
  go_enter Tryz.func87, Tryz.ntmps87
  go_wp2_with fail
  go_ret
  refine ⟨_, _, 1, hL, rfl, ?_, ?_⟩
  ·rw [hE.out]
   exact World.ownsRow_lit w #[.int .u8 ((n : Int) % 256)] 1 (Nat.le_refl _) (by decide) rfl
  ·(repeat with_reducible first | exact cR _ | assumption | refine cA ?_ _ | refine cD ?_ | refine cN ?_ _ | refine cS ?_ (by first | omega | (simp <;> omega)) _)
 ·have t1 : decide ((n : Int) < 128) = false := decide_eq_false (by omega)
  have ihn := ih (n / 128) (by omega) (by omega)
  have hE : Hid (byteVals (wU n) = [.int .u8 ((n : Int) % 128 + 128)] ++ byteVals (wU (n / 128))) := by
   unfold Hid; rw [wU_big n (by omega)]
   rw [show (UInt8.ofNat (n % 128 + 128) :: wU (n / 128)) = [UInt8.ofNat (n % 128 + 128)] ++ wU (n / 128) from rfl, byteVals_append, byteVals_one]
   have e : (((UInt8.ofNat (n % 128 + 128)).toNat : Nat) : Int) = (n : Int) % 128 + 128 := by rw [UInt8.toNat_ofNat']; omega
   rw [e]
  have hL : Hid (1 + (wU (n / 128)).length = (wU n).length) := by unfold Hid; rw [wU_big n (by omega), List.length_cons]; omega
  have hlen := wU_len10 (n / 128) (by omega)
  clear ih h
  go_enter Tryz.func87, Tryz.ntmps87
  go_wp2_with fail
  rw [show ((n : Int) / 128) = ((n / 128 : Nat) : Int) from by omega]
  refine (ihn _).mono ?_
  rintro e w2 ⟨A, c, m, hm, rfl, hown, hq⟩
  have hlit := own_cln (World.ownsRow_lit (base := w.heap.size) (e := 5) (size := 1) w #[.int .u8 ((n : Int) % 128 + 128)] 1 (Nat.le_refl _) (by decide) rfl) hq
  have hcl : Cln w w2 := cln_trans (by (repeat with_reducible first | exact cR _ | assumption | refine cA ?_ _ | refine cD ?_ | refine cN ?_ _ | refine cS ?_ (by first | omega | (simp <;> omega)) _)) hq
  obtain ⟨hs1, hs2⟩ := bytes_src (own_rd hown)
  have hnl : (byteVals (wU (n / 128))).length = m * 1 := by rw [byteVals_length, hm.out, Nat.mul_one]
  have hm10 : m ≤ 10 := by rw [hm.out]; exact hlen
  have hsz := hcl.size
  replace hs1 := Lib.hid hs1; replace hs2 := Lib.hid hs2; replace hnl := Lib.hid hnl
  clear hown hq hlen t1
  go_wp2_with (
   at_builtin
   refine wpList_cat rfl _ _ 33 rfl w.heap.size 5 i0 (.int .u8 0) 1 1 Tryz.underlying33 hi hz0 hz1 hz2 rfl (by decide) (by decide) (.slice (some ⟨w.heap.size, 0, none⟩) 1 1) 1 _ A m c (byteVals (wU (n / 128))) hnl.out (bytes_one_cell _) hs1.out hs2.out rfl rfl hlit (by omega) hsz ?_
   intro v' w3 hown3 hg3
   obtain ⟨A', c', rfl, hA', _⟩ := own_form hown3
   have hkeep := Lib.hid (And.intro hown3 (hcl.grown hg3 hsz (fun k hk => by simp [Value.ownBlock] at hk; omega)))
   clear hown3 hg3 hA' hlit)
  go_ret
  refine ⟨A', c', 1 + m, by unfold Hid; rw [← hL.out, hm.out], rfl, ?_, hkeep.out.2⟩
  rw [hE.out]
  exact hkeep.out.1
theorem zig_any (n : Int) (h1 : -9223372036854775808 ≤ n) (h2 : n < 9223372036854775808) (w : World) :
  Calls Tryz.prog 88 #[.int .i64 n] w fun e w' => e = .returned (.int .u64 (zig n : Nat)) ∧ w = w' := by
 by_cases h : n < 0
 ·have t1 : decide (n < 0) = true := decide_eq_true h
  have hE : Hid ((zig n : Int) = (-(n + 1)) * 2 + 1) := by unfold Hid zig; rw [if_pos h]; omega
  go_enter Tryz.func88, Tryz.ntmps88
  go_wp2_with fail
  go_ret
  refine ⟨ret_int ?_, rfl⟩
  rw [hE.out]
 ·have t1 : decide (n < 0) = false := decide_eq_false h
  have hE : Hid ((zig n : Int) = n * 2) := by unfold Hid zig; rw [if_neg h]; omega
  go_enter Tryz.func88, Tryz.ntmps88
  go_wp2_with fail
  go_ret
  refine ⟨ret_int ?_, rfl⟩
  rw [hE.out]
def placeArr (k i : Nat) : Array Value := ((List.range 8).map fun j => if 8 ≤ i + j then Value.int .u8 (((k / 256 ^ (7 - j)) % 256 : Nat) : Int) else .int .u8 0).toArray
theorem placeArr_set (k i : Nat) (h : i < 8) : (placeArr k i).setIfInBounds (7 - i) (.int .u8 (((k / 256 ^ i) % 256 : Nat) : Int)) = placeArr k (i + 1) := by
 have : i = 0 ∨ i = 1 ∨ i = 2 ∨ i = 3 ∨ i = 4 ∨ i = 5 ∨ i = 6 ∨ i = 7 := by omega
 rcases this with rfl | rfl | rfl | rfl | rfl | rfl | rfl | rfl <;> rfl
theorem placeArr_full (k : Nat) : (placeArr k 8).toList = byteVals (wPlace k) := by
 have e : ∀ n : Nat, (((UInt8.ofNat n).toNat : Nat) : Int) = ((n % 256 : Nat) : Int) := fun n => by rw [UInt8.toNat_ofNat']
 simp only [placeArr, byteVals, wPlace, List.map_cons, List.map_nil, e]
 simp [List.range, List.range.loop]
theorem placeArr_at (k i : Nat) (h : i < 8) : (placeArr k i)[7 - i]? = some (.int .u8 0) := by
 have : i = 0 ∨ i = 1 ∨ i = 2 ∨ i = 3 ∨ i = 4 ∨ i = 5 ∨ i = 6 ∨ i = 7 := by omega
 rcases this with rfl | rfl | rfl | rfl | rfl | rfl | rfl | rfl <;> rfl
set_option maxHeartbeats 4000000 in
theorem placeB_any (k : Nat) (hk : k < 18446744073709551616) (w : World) : Calls Tryz.prog 89 #[.int .u64 (k : Nat)] w (NewBytes w (wPlace k)) := by
 have hmk : ∀ w : World, (Instr.makeSlice 33 (.int .i64 8) (.int .i64 8)).run Tryz.prog w = .ok (.slice (some ⟨w.heap.size, 0, none⟩) 8 8) (w.alloc (.cells #[.int .u8 0, .int .u8 0, .int .u8 0, .int .u8 0, .int .u8 0, .int .u8 0, .int .u8 0, .int .u8 0] 5)) := fun w => by kernel_rfl
 go_enter Tryz.func89, Tryz.ntmps89
 go_wp2_with (simp only [hmk])
 clear hmk
 go_loopw [0, 4] (fun v0 v wr => ∃ i : Nat, i ≤ 8 ∧ v = .int .i64 (7 - (i : Int)) ∧ v0 = .int .u64 ((k / 256 ^ i : Nat) : Int) ∧ Hid (Cln w wr) ∧ Hid (Blk wr w.heap.size 5 (placeArr k i))) (fun _ v _ => (intOf v + 1).toNat)
 case atStart => exact ⟨0, by omega, rfl, by simp, Lib.hid (by (repeat with_reducible first | exact cR _ | assumption | refine cA ?_ _ | refine cD ?_ | refine cN ?_ _ | refine cS ?_ (by first | omega | (simp <;> omega)) _)), Lib.hid (Blk.new w _ _)⟩
 case round =>
  obtain ⟨i, hi, rfl, rfl, hcl, hB⟩ := hrel
  by_cases h8 : i < 8
  ·have t1 : decide ((i : Int) ≤ 7) = true := decide_eq_true (by omega)
   have hlt := hB.out.lt
   have hf := hB.out.frozen (7 - i)
   have hc : wr.cell? ⟨w.heap.size, 7 - i, none⟩ = some (.int .u8 0) := (hB.out.cell (7 - i)).trans (placeArr_at k i h8)
   have hn7 : (7 - (i : Int)).toNat = 7 - i := by omega
   have hb1 : (0 : Int) ≤ 7 - (i : Int) := by omega
   have hb2 : 7 - (i : Int) < 8 := by omega
   have hcl' := hcl.out
   have hset := Lib.hid (placeArr_set k i h8)
   have hnx : Hid (k / 256 ^ (i + 1) = k / 256 ^ i / 256) := by unfold Hid; rw [Nat.pow_succ, Nat.div_div_eq_div_mul]
   have hql : k / 256 ^ i < 18446744073709551616 := Nat.lt_of_le_of_lt (Nat.div_le_self _ _) hk
   generalize k / 256 ^ i = q at *
   have hm : (q : Int).tmod 256 = ((q % 256 : Nat) : Int) := by rw [Int.tmod_eq_emod_of_nonneg (by omega)]; omega
   have hd : (q : Int).tdiv 256 = ((q / 256 : Nat) : Int) := by rw [Int.tdiv_eq_ediv_of_nonneg (by omega)]; omega
   go_wp2_with (simp only [hm, hd])
   refine ⟨⟨i + 1, by omega, congrArg (Value.int .i64) (by omega), congrArg (Value.int .u64) (by rw [hnx.out]; omega), Lib.hid (by (repeat with_reducible first | exact cR _ | assumption | refine cA ?_ _ | refine cD ?_ | refine cN ?_ _ | refine cS ?_ (by first | omega | (simp <;> omega)) _)), Lib.hid ?_⟩, ?_⟩
   ·have h := hB.out.set_ (7 - i) (.int .u8 ((q % 256 : Nat) : Int))
    rw [hset.out] at h
    rw [show ((q : Int) % 256) = ((q % 256 : Nat) : Int) from by omega]
    exact h
   ·simp [intOf]; omega
  ·obtain rfl : i = 8 := by omega
   have t1 : decide (((8 : Nat) : Int) ≤ 7) = false := by decide
   go_wp2_with fail
   go_ret
   refine ⟨some ⟨w.heap.size, 0, none⟩, 8, 8, rfl, rfl, ?_, hcl.out⟩
   exact ⟨by rw [byteVals_length]; rfl, .inr ⟨w.heap.size, 8, placeArr k 8, rfl, Nat.le_refl _, hB.out, Nat.le_refl _, by decide, rfl, by rw [← placeArr_full]; exact List.take_of_length_le (by simp [placeArr])⟩⟩
end Go.Proofs.YtbemnfbndjolpaaGreatDoor

/- The walk of the document's One: a part as bytes. -/
namespace Moi
inductive MPart where
 | u (n : Nat)
 | i (n : Int)
 | f (k : Nat)
 | s (x : List UInt8)
 | b (y : Bool)
def wPart : MPart → List UInt8
 | .u n => wU n
 | .i n => wI n
 | .f k => wPlace k
 | .s x => wS x
 | .b y => wFlag y
def MPart.WF : MPart → Prop
 | .u n => n < 18446744073709551616
 | .i n => -9223372036854775808 ≤ n ∧ n < 9223372036854775808
 | .f k => k < 18446744073709551616
 | .s x => x.length ≤ 1000000
 | .b _ => True
end Moi
namespace Go.Proofs.YtbemnfbndjolpaaGreatDoor
open Go.RowKit Moi
attribute [local go_sem] toList_str str_size less_ltB store_float
def partCells : MPart → Array Value
 | .u n => #[.int .u8 117, .int .u64 (n : Nat), .int .i64 0, .int .u64 0, .string ⟨#[]⟩, .bool false]
 | .i n => #[.int .u8 105, .int .u64 0, .int .i64 n, .int .u64 0, .string ⟨#[]⟩, .bool false]
 | .f k => #[.int .u8 102, .int .u64 0, .int .i64 0, .int .u64 (k : Nat), .string ⟨#[]⟩, .bool false]
 | .s x => #[.int .u8 115, .int .u64 0, .int .i64 0, .int .u64 0, .string (str x), .bool false]
 | .b y => #[.int .u8 98, .int .u64 0, .int .i64 0, .int .u64 0, .string ⟨#[]⟩, .bool y]
section
variable {w : World} {base n m c : Nat} {v : Value} {A : Option Addr} {b1 b2 : List UInt8}
theorem run_catB (t : TypeId) (hown : w.ownsRow base 5 1 v n (byteVals b1)) (hr : RdBytes w A m b2) (hb : n + m ≤ 140737488355328) (hbase : base ≤ w.heap.size) :
  ∃ A' c' w', (Builtin.append_ #[33, 33] t #[v, .slice A m c]).run Tryz.prog w = .ok (.slice A' (n + m) c') w' ∧ w'.ownsRow base 5 1 (.slice A' (n + m) c') (n + m) (byteVals (b1 ++ b2)) ∧ w.grownBy w' v.ownBlock := by
 obtain ⟨i0, hi, hz0, hz1, hz2⟩ := info_parts Tryz.info5
 obtain ⟨hs1, hs2⟩ := bytes_src hr
 have hl : (byteVals b2).length = m * 1 := by rw [byteVals_length, hr.len, Nat.mul_one]
 rcases A with _ | ad
 ·obtain rfl := hs2 rfl
  have hn : b2 = [] := List.eq_nil_of_length_eq_zero hr.len
  subst hn
  obtain ⟨A', c', rfl, _⟩ := own_form hown
  exact ⟨A', c', w, run_append_of_none Tryz.underlying33 hi hown c, by simpa using hown, World.grownBy.refl _ _⟩
 ·obtain ⟨v', w', h1, h2, h3, _⟩ := run_append_own w base 33 t 5 i0 (.int .u8 0) 1 1 Tryz.underlying33 hi hz0 hz1 hz2 rfl (by decide) v n (byteVals b1) hown ad m c (byteVals b2) hl (hs1 ad rfl) (bytes_one_cell _) (by simp only [maxLen]; omega) (by omega) hbase
  obtain ⟨A', c', rfl, _⟩ := own_form h2
  exact ⟨A', c', w', h1, by rw [byteVals_append]; exact h2, h3⟩
variable {ops : Array Oper} {rest : List Oper} {o : Oper} {a : Act} {K : Act → World → Prop} {Q : Exit → Act → World → Prop} {E : Prop}
theorem wp_catB (s x : Operand) (ho : o.op = .call { callee := .builtin .append, args := #[s, x], argTypes := #[33, 33] }) (hs : a.eval s = v) (hx : a.eval x = .slice A m c)
  (hown : w.ownsRow base 5 1 v n (byteVals b1)) (hr : RdBytes w A m b2) (hb : n + m ≤ 140737488355328) (hbase : base ≤ w.heap.size)
  (h : ∀ A' c' w', w'.ownsRow base 5 1 (.slice A' (n + m) c') (n + m) (byteVals (b1 ++ b2)) → w.grownBy w' v.ownBlock → K (a.put o.dst (.slice A' (n + m) c')) w') : o.wp Tryz.prog a w K Q := by
 obtain ⟨A', c', w', h1, h2, h3⟩ := run_catB (c := c) o.type hown hr hb hbase
 unfold Oper.wp execOp
 simp only [ho, resolve, invoke, builtin, Sem.run_bind, Sem.run_pure, Result.andThen_ok, List.map_toArray, List.map_cons, List.map_nil, hs, hx, h1]
 exact h A' c' w' h2 h3
theorem step_catB (hgd : o.guard = none) (s x : Operand) (ho : o.op = .call { callee := .builtin .append, args := #[s, x], argTypes := #[33, 33] }) (hs : a.eval s = v) (hx : a.eval x = .slice A m c)
  (hown : w.ownsRow base 5 1 v n (byteVals b1)) (hr : RdBytes w A m b2) (hb : n + m ≤ 140737488355328) (hbase : base ≤ w.heap.size)
  (h : ∀ A' c' w', w'.ownsRow base 5 1 (.slice A' (n + m) c') (n + m) (byteVals (b1 ++ b2)) → w.grownBy w' v.ownBlock → K (a.put o.dst (.slice A' (n + m) c')) w') :
  if Region.wanted o (yielded ops a.tmps) = true then Oper.wp Tryz.prog o a w K Q else E := by
 have hw : Region.wanted o (yielded ops a.tmps) = true := by simp [Region.wanted, hgd]
 rw [if_pos hw]
 exact wp_catB s x ho hs hx hown hr hb hbase h
theorem wpList_catB (hgd : o.guard = none) (s x : Operand) (ho : o.op = .call { callee := .builtin .append, args := #[s, x], argTypes := #[33, 33] }) (hs : a.eval s = v) (hx : a.eval x = .slice A m c)
  (hown : w.ownsRow base 5 1 v n (byteVals b1)) (hr : RdBytes w A m b2) (hb : n + m ≤ 140737488355328) (hbase : base ≤ w.heap.size)
  (h : ∀ A' c' w', w'.ownsRow base 5 1 (.slice A' (n + m) c') (n + m) (byteVals (b1 ++ b2)) → w.grownBy w' v.ownBlock → wpList Tryz.prog ops Q rest (a.put o.dst (.slice A' (n + m) c')) w') :
  wpList Tryz.prog ops Q (o :: rest) a w :=
 wpList_plain hgd fun _ hK => wp_catB s x ho hs hx hown hr hb hbase fun A' c' w' h2 h3 => hK _ _ (h A' c' w' h2 h3)
end
def cwOf (s : ByteArray) (W : World) : World := W.drew.alloc (.cells (bytesRow s (grownCap W s.size 0 5)) 5 ((bytesRow s (grownCap W s.size 0 5)).size, (bytesRow s (grownCap W s.size 0 5)).size + 1))
theorem run_cw (s : ByteArray) (W : World) : (convert 9 33 (.string s)).run Tryz.prog W = .ok (.slice (some ⟨W.heap.size, 0, none⟩) s.size (grownCap W s.size 0 5)) (cwOf s W) :=
 run_bytes_of_string W _ _ 5 s Tryz.underlying9 Tryz.underlying33 Tryz.underlying5
theorem cw_cln (s : ByteArray) (W : World) : Cln W (cwOf s W) := by unfold cwOf; exact ((Below.refl _ _).drew).alloc (Nat.le_refl _) _
theorem cw_rd (x : List UInt8) (W : World) : RdBytes (cwOf (str x) W) (some ⟨W.heap.size, 0, none⟩) x.length x := by
 have hn : (str x).size = x.length := str_size x
 refine ⟨rfl, fun ad e => ?_, fun _ => ⟨W.heap.size, 0, rfl, ?_, fun i hi => ?_⟩⟩
 ·injection e with e; subst e; rfl
 ·unfold cwOf; simp
 ·have hh : (cwOf (str x) W).heap[W.heap.size]? = some (.cells (bytesRow (str x) (grownCap W (str x).size 0 5)) 5 ((bytesRow (str x) (grownCap W (str x).size 0 5)).size, (bytesRow (str x) (grownCap W (str x).size 0 5)).size + 1)) := heap_alloc_new W.drew _
  have hi' : i < (str x).data.size := by show i < (str x).size; omega
  rw [Nat.zero_add, cell_of_row _ _ i _ _ _ hh, bytesRow_at _ _ i hi']
  have hx : i < x.length := by omega
  simp [byteAt, str, List.getD, hx]
theorem own_lo {w : World} {base e size m : Nat} {v : Value} {xs : List Value} (h : w.ownsRow base e size v m xs) : ∀ g, v.ownBlock = some g → base ≤ g := by
 intro g hg
 rcases h.2 with ⟨h1, _⟩ | ⟨g', cap, cur, hv, hb, hh, r⟩
 ·rw [h1] at hg; cases hg
 ·rw [hv] at hg
  simp [Value.ownBlock] at hg
  omega
set_option maxHeartbeats 4000000 in
theorem one_u (n : Nat) (hn : n < 18446744073709551616) (w : World) : Calls Tryz.prog 64 #[.agg (partCells (.u n))] w (NewBytes w (wU n)) := by
 rw [show partCells (.u n) = #[.int .u8 117, .int .u64 (n : Nat), .int .i64 0, .int .u64 0, .string ⟨#[]⟩, .bool false] from rfl]
 go_enter Tryz.func64, Tryz.ntmps64
 go_wp2_with fail
 refine (digits_any n hn _).mono ?_
 rintro e w2 ⟨A, c, m, hm, rfl, hown, hq⟩
 replace hown := Lib.hid (own_base hown (show w.heap.size ≤ _ from by simp))
 replace hq := Lib.hid (show Cln w w2 from cln_trans (by (repeat with_reducible first | exact cR _ | assumption | refine cA ?_ _ | refine cD ?_ | refine cN ?_ _ | refine cS ?_ (by first | omega | (simp <;> omega)) _)) hq)
 go_wp2_with fail
 go_ret
 exact ⟨A, c, m, hm, rfl, hown.out, hq.out⟩
set_option maxHeartbeats 4000000 in
theorem one_i (n : Int) (hn : -9223372036854775808 ≤ n ∧ n < 9223372036854775808) (w : World) : Calls Tryz.prog 64 #[.agg (partCells (.i n))] w (NewBytes w (wI n)) := by
 rw [show partCells (.i n) = #[.int .u8 105, .int .u64 0, .int .i64 n, .int .u64 0, .string ⟨#[]⟩, .bool false] from rfl]
 go_enter Tryz.func64, Tryz.ntmps64
 go_wp2_with fail
 refine (zig_any n hn.1 hn.2 _).mono ?_
 rintro e w1 ⟨rfl, rfl⟩
 go_wp2_with fail
 refine (digits_any (zig n) (zig_lt' n hn) _).mono ?_
 rintro e w2 ⟨A, c, m, hm, rfl, hown, hq⟩
 replace hown := Lib.hid (own_base hown (show w.heap.size ≤ _ from by simp))
 replace hq := Lib.hid (show Cln w w2 from cln_trans (by (repeat with_reducible first | exact cR _ | assumption | refine cA ?_ _ | refine cD ?_ | refine cN ?_ _ | refine cS ?_ (by first | omega | (simp <;> omega)) _)) hq)
 go_wp2_with fail
 go_ret
 exact ⟨A, c, m, hm, rfl, hown.out, hq.out⟩
set_option maxHeartbeats 4000000 in
theorem one_f (k : Nat) (hk : k < 18446744073709551616) (w : World) : Calls Tryz.prog 64 #[.agg (partCells (.f k))] w (NewBytes w (wPlace k)) := by
 rw [show partCells (.f k) = #[.int .u8 102, .int .u64 0, .int .i64 0, .int .u64 (k : Nat), .string ⟨#[]⟩, .bool false] from rfl]
 go_enter Tryz.func64, Tryz.ntmps64
 go_wp2_with fail
 refine (placeB_any k hk _).mono ?_
 rintro e w2 ⟨A, c, m, hm, rfl, hown, hq⟩
 replace hown := Lib.hid (own_base hown (show w.heap.size ≤ _ from by simp))
 replace hq := Lib.hid (show Cln w w2 from cln_trans (by (repeat with_reducible first | exact cR _ | assumption | refine cA ?_ _ | refine cD ?_ | refine cN ?_ _ | refine cS ?_ (by first | omega | (simp <;> omega)) _)) hq)
 go_wp2_with fail
 go_ret
 exact ⟨A, c, m, hm, rfl, hown.out, hq.out⟩
set_option maxHeartbeats 4000000 in
theorem one_b (y : Bool) (w : World) : Calls Tryz.prog 64 #[.agg (partCells (.b y))] w (NewBytes w (wFlag y)) := by
 cases y with
 | true =>
  rw [show partCells (.b true) = #[.int .u8 98, .int .u64 0, .int .i64 0, .int .u64 0, .string ⟨#[]⟩, .bool true] from rfl]
  go_enter Tryz.func64, Tryz.ntmps64
  go_wp2_with fail
  go_ret
  refine ⟨_, _, 1, rfl, rfl, ?_, by (repeat with_reducible first | exact cR _ | assumption | refine cA ?_ _ | refine cD ?_ | refine cN ?_ _ | refine cS ?_ (by first | omega | (simp <;> omega)) _)⟩
  have h := World.ownsRow_lit (base := w.heap.size) (e := 5) (size := 1) (w.alloc (.cells #[.int .u8 98, .int .u64 0, .int .i64 0, .int .u64 0, .string ⟨#[]⟩, .bool true] 113)) #[.int .u8 1] 1 (by simp) (by decide) rfl
  rw [World.size_alloc] at h
  exact h
 | false =>
  rw [show partCells (.b false) = #[.int .u8 98, .int .u64 0, .int .i64 0, .int .u64 0, .string ⟨#[]⟩, .bool false] from rfl]
  go_enter Tryz.func64, Tryz.ntmps64
  go_wp2_with fail
  go_ret
  refine ⟨_, _, 1, rfl, rfl, ?_, by (repeat with_reducible first | exact cR _ | assumption | refine cA ?_ _ | refine cD ?_ | refine cN ?_ _ | refine cS ?_ (by first | omega | (simp <;> omega)) _)⟩
  have h := World.ownsRow_lit (base := w.heap.size) (e := 5) (size := 1) (w.alloc (.cells #[.int .u8 98, .int .u64 0, .int .i64 0, .int .u64 0, .string ⟨#[]⟩, .bool false] 113)) #[.int .u8 0] 1 (by simp) (by decide) rfl
  rw [World.size_alloc] at h
  exact h
set_option maxHeartbeats 8000000 in
theorem one_s (x : List UInt8) (hx : x.length ≤ 1000000) (w : World) : Calls Tryz.prog 64 #[.agg (partCells (.s x))] w (NewBytes w (wS x)) := by
 rw [show partCells (.s x) = #[.int .u8 115, .int .u64 0, .int .i64 0, .int .u64 0, .string (str x), .bool false] from rfl]
 have hcw := run_cw (str x)
 have hb0 := Blk.new w 113 #[.int .u8 115, .int .u64 0, .int .i64 0, .int .u64 0, .string (str x), .bool false]
 have hb0' := Lib.hid hb0
 have hc0 := hb0.cell
 have hsz := str_size x
 have cD : ∀ W : World, Calls Tryz.prog 87 #[.int .u64 ((x.length : Nat) : Int)] W fun e w' => ∃ A c m, Hid (m = (wU x.length).length) ∧ e = .returned (.slice A m c) ∧ w'.ownsRow W.heap.size 5 1 (.slice A m c) m (byteVals (wU x.length)) ∧ Cln W w' := fun W => digits_any x.length (by omega) W
 have hc1 := (hb0.drew.cln (cw_cln (str x) (w.alloc (.cells #[.int .u8 115, .int .u64 0, .int .i64 0, .int .u64 0, .string (str x), .bool false] 113)).drew)).cell
 have hrd2 : ∀ W' : World, Cln (cwOf (str x) (w.alloc (.cells #[.int .u8 115, .int .u64 0, .int .i64 0, .int .u64 0, .string (str x), .bool false] 113)).drew) W' → RdBytes W' (some ⟨w.heap.size + 1, 0, none⟩) x.length x := fun W' k => by
  have h := (cw_rd x (w.alloc (.cells #[.int .u8 115, .int .u64 0, .int .i64 0, .int .u64 0, .string (str x), .bool false] 113)).drew).cln k
  rw [show (w.alloc (.cells #[.int .u8 115, .int .u64 0, .int .i64 0, .int .u64 0, .string (str x), .bool false] 113)).drew.heap.size = w.heap.size + 1 from by show (w.alloc _).heap.size = _; rw [World.size_alloc]] at h
  exact h
 clear hb0
 have hlen10 := wU_len10 x.length (by omega)
 have hwr : IntKind.u64.wrap ((x.length : Nat) : Int) = ((x.length : Nat) : Int) := IntWalk.u64_in _ (by omega)
 go_enter Tryz.func64, Tryz.ntmps64
 go_wp2_with fail
 go_region_law (first
  |(go_simp; go_at_call 87; with_reducible refine (cD _).mono ?_; rintro e wd ⟨Ad, cd, md, hmd, rfl, hownd, hqd⟩; have hcd := (hb0'.out.cln (by first | exact cln_trans (Below.drew (Below.refl _ _)) hqd | exact cln_trans (cln_trans (Below.drew (Below.refl _ _)) (cw_cln _ _)) hqd)).cell; have hod := own_base hownd (show w.heap.size ≤ _ from by first | exact (Below.drew ((Below.refl w.heap.size w).alloc (Nat.le_refl _) _)).size | exact (cln_trans (Below.drew ((Below.refl w.heap.size w).alloc (Nat.le_refl _) _)) (cw_cln _ _)).size); have hcld := Lib.hid (show Cln w wd from by first | exact cln_trans (Below.drew ((Below.refl _ _).alloc (Nat.le_refl _) _)) hqd | exact cln_trans (cln_trans (Below.drew ((Below.refl _ _).alloc (Nat.le_refl _) _)) (cw_cln _ _)) hqd))
  |(refine step_catB (m := x.length) (b2 := x) rfl _ _ rfl rfl rfl (own_cln hod (cw_cln (str x) wd)) (cw_rd x wd) (by have := hmd.out; omega) (Nat.le_trans hcld.out.size (cw_cln (str x) wd).size) ?_; intro A5 c5 w5 hown5 hg5; have hkeep := Lib.hid (And.intro hown5 ((cln_trans hcld.out (cw_cln (str x) wd)).grown hg5 (Nat.le_trans hcld.out.size (cw_cln (str x) wd).size) (fun k hk => own_lo hod k hk))))
  |(refine step_catB (m := x.length) (b2 := x) rfl _ _ rfl rfl rfl hod (hrd2 _ hqd) (by have := hmd.out; omega) hcld.out.size ?_; intro A5 c5 w5 hown5 hg5; have hkeep := Lib.hid (And.intro hown5 (hcld.out.grown hg5 hcld.out.size (fun k hk => own_lo hod k hk)))))
 all_goals
  (try go_wp2_with fail)
  go_ret
  exact ⟨A5, c5, md + x.length, by unfold Hid; rw [hmd.out, wS, List.length_append], rfl, hkeep.out.1, hkeep.out.2⟩
theorem partOne_any (p : MPart) (hp : p.WF) (w : World) : Calls Tryz.prog 64 #[.agg (partCells p)] w (NewBytes w (wPart p)) := by
 cases p with
 | u n => exact one_u n hp w
 | i n => exact one_i n hp w
 | f k => exact one_f k hp w
 | s x => exact one_s x hp w
 | b y => exact one_b y w
def partAt (l : List MPart) (i : Nat) : MPart := l.getD i (.u 0)
def catParts (l : List MPart) : List UInt8 := l.flatMap wPart
theorem catParts_take (l : List MPart) (i : Nat) (h : i < l.length) : catParts (l.take (i + 1)) = catParts (l.take i) ++ wPart (partAt l i) := by
 have : l.take (i + 1) = l.take i ++ [partAt l i] := by
  rw [List.take_add_one, List.getElem?_eq_getElem h]; simp [partAt, List.getD, h]
 rw [this]; simp [catParts]
theorem catParts_le (l : List MPart) (i : Nat) : (catParts (l.take i)).length ≤ (catParts l).length := by
 have e : catParts l = catParts (l.take i) ++ catParts (l.drop i) := by
  conv => lhs; rw [← List.take_append_drop i l]
  unfold catParts; rw [List.flatMap_append]
 rw [e, List.length_append]; omega
theorem partCells_six (p : MPart) : ∃ v0 v1 v2 v3 v4 v5, partCells p = #[v0, v1, v2, v3, v4, v5] := by
 cases p <;> exact ⟨_, _, _, _, _, _, rfl⟩
structure RdParts (W : World) (A : Option Addr) (n : Nat) (l : List MPart) : Prop where
 len : l.length = n
 rows : 0 < n → ∃ b o, A = some ⟨b, o, none⟩ ∧ b < W.heap.size ∧ ∀ i, i < n → ∀ j, j < 6 → W.cell? ⟨b, o + i * 6 + j, none⟩ = (partCells (partAt l i))[j]?
theorem RdParts.cln {W W' : World} {A : Option Addr} {n : Nat} {l : List MPart} (h : RdParts W A n l) (k : Cln W W') : RdParts W' A n l := by
 have k' := Kept.of_below (S := fun _ => False) k
 refine ⟨h.len, fun h0 => ?_⟩
 obtain ⟨b, o, rfl, hb, hi⟩ := h.rows h0
 refine ⟨b, o, rfl, Nat.lt_of_lt_of_le hb k.size, fun i hlt j hj => ?_⟩
 obtain ⟨v0, v1, v2, v3, v4, v5, e⟩ := partCells_six (partAt l i)
 have h1 := hi i hlt j hj
 have hs : ∃ u, (partCells (partAt l i))[j]? = some u := by rw [e]; exact ⟨_, Array.getElem?_eq_getElem (show j < 6 from hj)⟩
 obtain ⟨u, hu⟩ := hs
 rw [hu] at h1 ⊢
 exact k'.cell h1 id
set_option maxHeartbeats 8000000 in
theorem write_any (l : List MPart) (A : Option Addr) (n c : Nat) (hn : n ≤ 1000000) (hwf : ∀ i, i < n → (partAt l i).WF) (hsum : (catParts l).length ≤ 100000000) (w : World) (hr : RdParts w A n l) :
  Calls Tryz.prog 43 #[.slice A n c] w (NewBytes w (catParts l)) := by
 have hlen := Lib.hid hr.len
 have hr := Lib.hid hr
 have hlit := Lib.hid (World.ownsRow_lit (base := w.heap.size) (e := 5) (size := 1) w #[] 0 (Nat.le_refl _) (Nat.zero_le _) rfl)
 replace hwf := Lib.hid hwf
 replace hsum := Lib.hid hsum
 go_enter Tryz.func43, Tryz.ntmps43
 go_wp2_with fail
 go_loopw [3, 4] (fun v3 v4 wr => ∃ (i : Nat) (A' : Option Addr) (c' m : Nat), i ≤ n ∧ v4 = .int .i64 (i : Nat) ∧ v3 = .slice A' m c' ∧ Hid (m = (catParts (l.take i)).length) ∧ Hid (Cln w wr) ∧ Hid (wr.ownsRow w.heap.size 5 1 (.slice A' m c') m (byteVals (catParts (l.take i))))) (fun _ v4 _ => (n - intOf v4).toNat)
 case atStart => exact ⟨0, _, _, 0, Nat.zero_le _, rfl, rfl, by simp [Hid, catParts], Lib.hid (by (repeat with_reducible first | exact cR _ | assumption | refine cA ?_ _ | refine cD ?_ | refine cN ?_ _ | refine cS ?_ (by first | omega | (simp <;> omega)) _)), Lib.hid (by simpa [catParts, byteVals] using hlit.out)⟩
 case round =>
  obtain ⟨i, A', c', m, hi, rfl, rfl, hm, hcl, hown⟩ := hrel
  by_cases hlt : i < n
  ·obtain ⟨b, o, rfl, hblt, hcell⟩ := (hr.out.cln hcl.out).rows (by omega)
   have hc := hcell i hlt
   have hp := hwf.out i hlt
   have htk := Lib.hid (catParts_take l i (by rw [hlen.out]; exact hlt))
   have hbnd : (catParts (l.take (i + 1))).length ≤ 100000000 := Nat.le_trans (catParts_le l (i + 1)) hsum.out
   generalize partAt l i = p at hc hp htk
   obtain ⟨v0, v1, v2, v3, v4, v5, e⟩ := partCells_six p
   rw [e] at hc
   have f0 : wr.cell? ⟨b, o + i * 6, none⟩ = some v0 := hc 0 (by omega)
   have f1 : wr.cell? ⟨b, o + i * 6 + 1, none⟩ = some v1 := hc 1 (by omega)
   have f2 : wr.cell? ⟨b, o + i * 6 + 2, none⟩ = some v2 := hc 2 (by omega)
   have f3 : wr.cell? ⟨b, o + i * 6 + 3, none⟩ = some v3 := hc 3 (by omega)
   have f4 : wr.cell? ⟨b, o + i * 6 + 4, none⟩ = some v4 := hc 4 (by omega)
   have f5 : wr.cell? ⟨b, o + i * 6 + 5, none⟩ = some v5 := hc 5 (by omega)
   have hone := partOne_any p hp
   rw [e] at hone
   clear hcell hc e
   replace htk := htk.out
   rw [htk, List.length_append] at hbnd
   replace htk := Lib.hid htk
   replace hbnd := Lib.hid hbnd
   go_wp2_with fail
   refine (hone _).mono ?_
   rintro e w2 ⟨A2, c2, m2, hm2, rfl, hown2, hq⟩
   have hown1 := own_cln hown.out hq
   have hcl2 := cln_trans hcl.out hq
   have hmm : m + m2 ≤ 100000000 := by rw [hm.out, hm2.out]; exact hbnd.out
   have hrd2 := own_rd hown2
   replace hcl2 := Lib.hid hcl2; replace hrd2 := Lib.hid hrd2; replace hown1 := Lib.hid hown1
   clear f0 f1 f2 f3 f4 f5 hq hown2 hone
   go_wp2_with (
    at_builtin
    refine wpList_catB rfl _ _ rfl rfl rfl hown1.out hrd2.out (by omega) hcl2.out.size ?_
    intro A5 c5 w5 hown5 hg5
    have hkeep := Lib.hid (And.intro hown5 (hcl2.out.grown hg5 hcl2.out.size (fun k hk => own_lo hown1.out k hk)))
    clear hown5 hg5)
   go_roundw
   case rel => exact ⟨i + 1, A5, c5, m + m2, hlt, by go_num, rfl, by unfold Hid; rw [htk.out, List.length_append, hm.out, hm2.out], Lib.hid hkeep.out.2, Lib.hid (by rw [htk.out]; exact hkeep.out.1)⟩
   case measure => simp [intOf]; omega
  ·obtain rfl : i = n := by omega
   have t2 : decide ((i : Int) < (i : Int)) = false := decide_eq_false (by omega)
   rw [List.take_of_length_le (by rw [hlen.out]; exact Nat.le_refl _)] at hm hown
   go_wp2_with fail
   go_ret
   exact ⟨A', c', m, hm, rfl, hown.out, hcl.out⟩
theorem size_part : (Tryz.prog.info? 113).map (·.size) = some 6 := by kernel_rfl
theorem pu_any (n : Nat) (hn : n < 9223372036854775808) (w : World) : Calls Tryz.prog 132 #[.int .i64 (n : Nat)] w fun e w' => e = .returned (.agg (partCells (.u n))) ∧ Cln w w' := by
 have hwr : IntKind.u64.wrap ((n : Nat) : Int) = ((n : Nat) : Int) := IntWalk.u64_in _ (by omega)
 go_enter Tryz.func132, Tryz.ntmps132
 go_wp2_with fail
 refine bodyPost_ret (v := .agg #[.int .u8 117, .int .u64 (n : Nat), .int .i64 0, .int .u64 0, .string ⟨#[]⟩, .bool false]) ?_ rfl ⟨rfl, ?_⟩
 ·refine results_cell_row Tryz.results132 _ _ w.heap.size 113 #[.int .u8 117, .int .u64 (n : Nat), .int .i64 0, .int .u64 0, .string ⟨#[]⟩, .bool false] (0, 0) _ ?_ ?_ Tryz.underlying113 ?_ ?_
  ·rfl
  ·exact Blk.new w _ _
  ·rfl
  ·exact size_part
 ·(repeat with_reducible first | exact cR _ | assumption | refine cA ?_ _ | refine cD ?_ | refine cN ?_ _ | refine cS ?_ (by first | omega | (simp <;> omega)) _)
theorem pi_any (n : Int) (w : World) : Calls Tryz.prog 134 #[.int .i64 n] w fun e w' => e = .returned (.agg (partCells (.i n))) ∧ Cln w w' := by
 go_enter Tryz.func134, Tryz.ntmps134
 go_wp2_with fail
 refine bodyPost_ret (v := .agg #[.int .u8 105, .int .u64 0, .int .i64 n, .int .u64 0, .string ⟨#[]⟩, .bool false]) ?_ rfl ⟨rfl, ?_⟩
 ·refine results_cell_row Tryz.results134 _ _ w.heap.size 113 #[.int .u8 105, .int .u64 0, .int .i64 n, .int .u64 0, .string ⟨#[]⟩, .bool false] (0, 0) _ ?_ ?_ Tryz.underlying113 ?_ ?_
  ·rfl
  ·exact Blk.new w _ _
  ·rfl
  ·exact size_part
 ·(repeat with_reducible first | exact cR _ | assumption | refine cA ?_ _ | refine cD ?_ | refine cN ?_ _ | refine cS ?_ (by first | omega | (simp <;> omega)) _)
theorem ps_any (x : List UInt8) (w : World) : Calls Tryz.prog 133 #[.string (str x)] w fun e w' => e = .returned (.agg (partCells (.s x))) ∧ Cln w w' := by
 go_enter Tryz.func133, Tryz.ntmps133
 go_wp2_with fail
 refine bodyPost_ret (v := .agg #[.int .u8 115, .int .u64 0, .int .i64 0, .int .u64 0, .string (str x), .bool false]) ?_ rfl ⟨rfl, ?_⟩
 ·refine results_cell_row Tryz.results133 _ _ w.heap.size 113 #[.int .u8 115, .int .u64 0, .int .i64 0, .int .u64 0, .string (str x), .bool false] (0, 0) _ ?_ ?_ Tryz.underlying113 ?_ ?_
  ·rfl
  ·exact Blk.new w _ _
  ·rfl
  ·exact size_part
 ·(repeat with_reducible first | exact cR _ | assumption | refine cA ?_ _ | refine cD ?_ | refine cN ?_ _ | refine cS ?_ (by first | omega | (simp <;> omega)) _)
theorem pf_any (x : Nat) (hx : x < 18446744073709551616) (w : World) : Calls Tryz.prog 135 #[.float .f64 x] w fun e w' => e = .returned (.agg (partCells (.f (fkey x)))) ∧ Cln w w' := by
 go_enter Tryz.func135, Tryz.ntmps135
 go_wp2_with (go_at_call 115; refine (place_any _ hx _).mono ?_; rintro e w' ⟨rfl, rfl⟩)
 refine bodyPost_ret (v := .agg #[.int .u8 102, .int .u64 0, .int .i64 0, .int .u64 (fkey x : Nat), .string ⟨#[]⟩, .bool false]) ?_ rfl ⟨rfl, ?_⟩
 ·refine results_cell_row Tryz.results135 _ _ w.heap.size 113 #[.int .u8 102, .int .u64 0, .int .i64 0, .int .u64 (fkey x : Nat), .string ⟨#[]⟩, .bool false] (0, 0) _ ?_ ?_ Tryz.underlying113 ?_ ?_
  ·rfl
  ·exact Blk.new w _ _
  ·rfl
  ·exact size_part
 ·(repeat with_reducible first | exact cR _ | assumption | refine cA ?_ _ | refine cD ?_ | refine cN ?_ _ | refine cS ?_ (by first | omega | (simp <;> omega)) _)
/-! Rows of parts. -/
theorem Tryz.info113 : (Tryz.prog.info? 113).map (fun i => (i.zero, i.size, i.bytes)) = some (some (.agg #[.int .u8 0, .int .u64 0, .int .i64 0, .int .u64 0, .string ⟨#[]⟩, .bool false]), 6, 56) := by kernel_rfl
def partVals (l : List MPart) : List Value := l.flatMap fun p => (partCells p).toList
theorem partCells_size (p : MPart) : (partCells p).toList.length = 6 := by cases p <;> rfl
theorem partVals_length (l : List MPart) : (partVals l).length = l.length * 6 := by
 induction l with
 | nil => rfl
 | cons p l ih => simp only [partVals, List.flatMap_cons, List.length_append, List.length_cons] at *; rw [ih, partCells_size]; omega
theorem partVals_append (a b : List MPart) : partVals (a ++ b) = partVals a ++ partVals b := by simp [partVals]
theorem partVals_one_cell (l : List MPart) : ∀ u ∈ partVals l, u.oneCell' = true := by
 intro u hu
 simp only [partVals, List.mem_flatMap] at hu
 obtain ⟨p, _, hp⟩ := hu
 cases p <;> simp [partCells] at hp <;> rcases hp with rfl | rfl | rfl | rfl | rfl | rfl <;> rfl
theorem partVals_get (l : List MPart) : ∀ i, i < l.length → ∀ j, j < 6 → (partVals l)[i * 6 + j]? = (partCells (partAt l i))[j]? := by
 induction l with
 | nil => intro i hi; simp at hi
 | cons p l ih =>
  intro i hi j hj
  have hs := partCells_size p
  rcases i with _ | i
  ·simp only [partVals, List.flatMap_cons, Nat.zero_mul, Nat.zero_add]
   rw [List.getElem?_append_left (by omega)]
   simp [partAt]
  ·have h1 := ih i (by simpa using hi) j hj
   simp only [partVals, List.flatMap_cons] at h1 ⊢
   rw [List.getElem?_append_right (by omega), hs, show (i + 1) * 6 + j - 6 = i * 6 + j from by omega, h1]
   simp [partAt]
theorem own_parts {w : World} {base n c : Nat} {A : Option Addr} {l : List MPart} (h : w.ownsRow base 113 6 (.slice A n c) n (partVals l)) : RdParts w A n l := by
 have hl : l.length = n := by have := h.1; rw [partVals_length] at this; omega
 refine ⟨hl, fun h0 => ?_⟩
 rcases h.2 with ⟨_, hn⟩ | ⟨g, cap, cur, hv, hb, hg, hn, hm, hs, ht⟩
 ·omega
 ·injection hv with h1 h2 h3
  refine ⟨g, 0, h1, lt_of_block hg, fun i hi j hj => ?_⟩
  rw [Nat.zero_add, cell_of_row w g (i * 6 + j) cur _ _ hg, ← partVals_get l i (by omega) j hj, ← ht, List.getElem?_take_of_lt (by omega), Array.getElem?_toList]
section
variable {w : World} {base n m c g : Nat} {v : Value} {l1 l2 : List MPart} {cs : Array Value}
theorem run_catP (t : TypeId) (hown : w.ownsRow base 113 6 v n (partVals l1)) (hlit : Blk w g 113 cs) (hcs : cs.toList = partVals l2) (hm : l2.length = m) (hb : n + m ≤ 1000000) (hbase : base ≤ w.heap.size) :
  ∃ A' c' w', (Builtin.append_ #[99, 99] t #[v, .slice (some ⟨g, 0, none⟩) m c]).run Tryz.prog w = .ok (.slice A' (n + m) c') w' ∧ w'.ownsRow base 113 6 (.slice A' (n + m) c') (n + m) (partVals (l1 ++ l2)) ∧ w.grownBy w' v.ownBlock := by
 obtain ⟨i0, hi, hz0, hz1, hz2⟩ := info_parts Tryz.info113
 have hl : (partVals l2).length = m * 6 := by rw [partVals_length, hm]
 have hsrc : ∀ j u, (partVals l2)[j]? = some u → w.cell? ((⟨g, 0, none⟩ : Addr).add j) = some u := by
  intro j u hu
  have hadd : (⟨g, 0, none⟩ : Addr).add j = ⟨g, j, none⟩ := by unfold Addr.add; split <;> simp_all
  rw [hadd, hlit.cell j, ← Array.getElem?_toList, hcs, hu]
 obtain ⟨v', w', h1, h2, h3, _⟩ := run_append_own w base 99 t 113 i0 (.agg #[.int .u8 0, .int .u64 0, .int .i64 0, .int .u64 0, .string ⟨#[]⟩, .bool false]) 6 56 Tryz.underlying99 hi hz0 hz1 hz2 rfl (by decide) v n (partVals l1) hown ⟨g, 0, none⟩ m c (partVals l2) hl hsrc (partVals_one_cell _) (by simp only [maxLen]; omega) (by omega) hbase
 obtain ⟨A', c', rfl, _⟩ := own_form h2
 exact ⟨A', c', w', h1, by rw [partVals_append]; exact h2, h3⟩
variable {ops : Array Oper} {rest : List Oper} {o : Oper} {a : Act} {K : Act → World → Prop} {Q : Exit → Act → World → Prop} {E : Prop}
theorem wp_catP (s x : Operand) (ho : o.op = .call { callee := .builtin .append, args := #[s, x], argTypes := #[99, 99] }) (hs : a.eval s = v) (hx : a.eval x = .slice (some ⟨g, 0, none⟩) m c)
  (hown : w.ownsRow base 113 6 v n (partVals l1)) (hlit : Blk w g 113 cs) (hcs : cs.toList = partVals l2) (hm : l2.length = m) (hb : n + m ≤ 1000000) (hbase : base ≤ w.heap.size)
  (h : ∀ A' c' w', w'.ownsRow base 113 6 (.slice A' (n + m) c') (n + m) (partVals (l1 ++ l2)) → w.grownBy w' v.ownBlock → K (a.put o.dst (.slice A' (n + m) c')) w') : o.wp Tryz.prog a w K Q := by
 obtain ⟨A', c', w', h1, h2, h3⟩ := run_catP (c := c) o.type hown hlit hcs hm hb hbase
 unfold Oper.wp execOp
 simp only [ho, resolve, invoke, builtin, Sem.run_bind, Sem.run_pure, Result.andThen_ok, List.map_toArray, List.map_cons, List.map_nil, hs, hx, h1]
 exact h A' c' w' h2 h3
theorem step_catP (hgd : o.guard = none) (s x : Operand) (ho : o.op = .call { callee := .builtin .append, args := #[s, x], argTypes := #[99, 99] }) (hs : a.eval s = v) (hx : a.eval x = .slice (some ⟨g, 0, none⟩) m c)
  (hown : w.ownsRow base 113 6 v n (partVals l1)) (hlit : Blk w g 113 cs) (hcs : cs.toList = partVals l2) (hm : l2.length = m) (hb : n + m ≤ 1000000) (hbase : base ≤ w.heap.size)
  (h : ∀ A' c' w', w'.ownsRow base 113 6 (.slice A' (n + m) c') (n + m) (partVals (l1 ++ l2)) → w.grownBy w' v.ownBlock → K (a.put o.dst (.slice A' (n + m) c')) w') :
  if Region.wanted o (yielded ops a.tmps) = true then Oper.wp Tryz.prog o a w K Q else E := by
 have hw : Region.wanted o (yielded ops a.tmps) = true := by simp [Region.wanted, hgd]
 rw [if_pos hw]
 exact wp_catP s x ho hs hx hown hlit hcs hm hb hbase h
theorem wpList_catP (hgd : o.guard = none) (s x : Operand) (ho : o.op = .call { callee := .builtin .append, args := #[s, x], argTypes := #[99, 99] }) (hs : a.eval s = v) (hx : a.eval x = .slice (some ⟨g, 0, none⟩) m c)
  (hown : w.ownsRow base 113 6 v n (partVals l1)) (hlit : Blk w g 113 cs) (hcs : cs.toList = partVals l2) (hm : l2.length = m) (hb : n + m ≤ 1000000) (hbase : base ≤ w.heap.size)
  (h : ∀ A' c' w', w'.ownsRow base 113 6 (.slice A' (n + m) c') (n + m) (partVals (l1 ++ l2)) → w.grownBy w' v.ownBlock → wpList Tryz.prog ops Q rest (a.put o.dst (.slice A' (n + m) c')) w') :
  wpList Tryz.prog ops Q (o :: rest) a w :=
 wpList_plain hgd fun _ hK => wp_catP s x ho hs hx hown hlit hcs hm hb hbase fun A' c' w' h2 h3 => hK _ _ (h A' c' w' h2 h3)
end
end Go.Proofs.YtbemnfbndjolpaaGreatDoor

/- The walk of the document's Parts: a record as parts. (Printed by wip/tools/gen_parts.py.) -/
namespace Moi
def itemParts (top : Bool) (x : MItem) : List MPart := (if top then [.f (fkey x.score)] else []) ++ [.s x.name]
def recParts (r : MRec) : List MPart :=
 .u r.kind.toNat :: (if r.kind = 1 then [.s r.text] else if r.kind = 2 ∨ r.kind = 3 then [.i r.num] else if r.kind = 4 then [.i r.low, .i r.high, .i r.num]
  else if r.kind = 5 ∨ r.kind = 6 ∨ r.kind = 7 then [.f (fkey r.real)] else .u r.cap.toNat :: .u r.list.length :: r.list.flatMap (itemParts (decide (r.kind = 9))))
theorem catParts_items (top : Bool) (l : List MItem) : (l.flatMap (itemParts top)).flatMap wPart = wItems top l := by
 induction l with
 | nil => rfl
 | cons x l ih =>
  rw [List.flatMap_cons, List.flatMap_append, ih, wItems_cons]
  cases top <;> simp [itemParts, wPart, wF]
theorem catParts_rec (r : MRec) : (recParts r).flatMap wPart = wRec r := by
 unfold recParts wRec
 rw [List.flatMap_cons]
 simp only [wPart]
 congr 1
 split
 ·simp [wPart]
 ·split
  ·simp [wPart]
  ·split
   ·simp [wPart]
   ·split
    ·simp [wPart, wF]
    ·simp only [List.flatMap_cons, wPart, catParts_items]
end Moi
namespace Go.Proofs.YtbemnfbndjolpaaGreatDoor
open Go.RowKit Moi
attribute [local go_sem] toList_str str_size less_ltB store_float
theorem heldKeep3 {W W' : World} {p0 p1 p2 : Addr} {v0 v1 v2 : Value} (hq : Cln W W')
  (h : W.cell? p0 = some v0 ∧ W.cell? p1 = some v1 ∧ W.cell? p2 = some v2) :
  W'.cell? p0 = some v0 ∧ W'.cell? p1 = some v1 ∧ W'.cell? p2 = some v2 := by
 have k := Kept.of_below (S := fun _ => False) hq
 obtain ⟨h0, h1, h2⟩ := h
 exact ⟨k.cell h0 id, k.cell h1 id, k.cell h2 id⟩
theorem heldKeepG {W W' : World} {g : Option Nat} {p0 p1 p2 : Addr} {v0 v1 v2 : Value} (hq : W.grownBy W' g) (n0 : ∀ k, g = some k → p0.block ≠ k) (n1 : ∀ k, g = some k → p1.block ≠ k) (n2 : ∀ k, g = some k → p2.block ≠ k)
  (h : W.cell? p0 = some v0 ∧ W.cell? p1 = some v1 ∧ W.cell? p2 = some v2) :
  W'.cell? p0 = some v0 ∧ W'.cell? p1 = some v1 ∧ W'.cell? p2 = some v2 := by
 have k := (Kept.refl (fun j => g = some j) W).grown hq (fun k e _ => e)
 obtain ⟨h0, h1, h2⟩ := h
 exact ⟨k.cell h0 (fun e => n0 _ e rfl), k.cell h1 (fun e => n1 _ e rfl), k.cell h2 (fun e => n2 _ e rfl)⟩
def NewParts (w : World) (l : List MPart) (e : Ending) (w' : World) : Prop := ∃ A c n, e = .returned (.slice A n c) ∧ RdParts w' A n l ∧ Cln w w'
set_option maxHeartbeats 8000000 in
theorem parts_1 (r : MRec) (hk : r.kind = 1) (A : Option Addr) (n c : Nat) (hreal : r.real < 18446744073709551616) (w : World) :
  Calls Tryz.prog 116 #[.agg #[.int .i64 1, .int .i64 r.num, .int .i64 r.low, .int .i64 r.high, .float .f64 r.real, .int .i64 r.cap, .string (str r.text), .slice A n c]] w (NewParts w (recParts r)) := by
 have hb0 := Lib.hid (Blk.new w 62 #[.int .i64 1, .int .i64 r.num, .int .i64 r.low, .int .i64 r.high, .float .f64 r.real, .int .i64 r.cap, .string (str r.text), .slice A n c])
 have hcl0 := Lib.hid (show Cln w (w.alloc (.cells #[.int .i64 1, .int .i64 r.num, .int .i64 r.low, .int .i64 r.high, .float .f64 r.real, .int .i64 r.cap, .string (str r.text), .slice A n c] 62)) from by (repeat with_reducible first | exact cR _ | assumption | refine cA ?_ _ | refine cD ?_ | refine cN ?_ _ | refine cS ?_ (by first | omega | (simp <;> omega)) _))
 go_enter Tryz.func116, Tryz.ntmps116
 go_wp2_with fail
 refine (pu_any 1 (by decide) _).mono ?_; rintro e w1 ⟨rfl, hq⟩
 rw [show partCells (.u 1) = #[.int .u8 117, .int .u64 1, .int .i64 0, .int .u64 0, .string ⟨#[]⟩, .bool false] from rfl]
 have hcl1 := Lib.hid (cln_trans hcl0.out hq)
 have hb1 := hb0.out.cln hq
 have g0 := hb1.cell 0; have g1 := hb1.cell 1; have g2 := hb1.cell 2; have g3 := hb1.cell 3; have g4 := hb1.cell 4; have g5 := hb1.cell 5; have g6 := hb1.cell 6; have g7 := hb1.cell 7
 replace hb1 := Lib.hid hb1
 have hsz1 : w.heap.size < w1.heap.size := by have := hb1.out.lt; omega
 have hown1 := Lib.hid (World.ownsRow_lit (base := w.heap.size) (e := 113) (size := 6) w1 #[.int .u8 117, .int .u64 1, .int .i64 0, .int .u64 0, .string ⟨#[]⟩, .bool false] 1 (by omega) (by decide) rfl)
 clear hq hcl0 hb0
 have hne : ¬ w.heap.size = w1.heap.size := by omega
 have hne' : ¬ w1.heap.size = w.heap.size := by omega
 go_wp2_with fail
 refine (ps_any r.text _).mono ?_; rintro e w2 ⟨rfl, hq⟩
 rw [show partCells (.s r.text) = #[.int .u8 115, .int .u64 0, .int .i64 0, .int .u64 0, .string (str r.text), .bool false] from rfl]
 have hown2 := Lib.hid (own_cln hown1.out hq)
 have hcl2 := Lib.hid (cln_trans (show Cln w _ from hcl1.out.alloc (Nat.le_of_lt hsz1) _) hq)
 have hsz2 : w.heap.size ≤ w2.heap.size := hcl2.out.size
 clear hq g0 g1 g2 g3 g4 g5 g6 g7
 go_wp2_with (
  at_builtin
  refine wpList_catP (l1 := [.u 1]) (l2 := [.s r.text]) rfl _ _ rfl rfl rfl (own_cln hown2.out (by (repeat with_reducible first | exact cR _ | assumption | refine cA ?_ _ | refine cD ?_ | refine cN ?_ _ | refine cS ?_ (by first | omega | (simp <;> omega)) _))) (Blk.new w2 _ _) rfl rfl (by decide) (by simp; omega) ?_
  intro A5 c5 w5 hown5 hg5
  have hkeep := Lib.hid (And.intro hown5 ((hcl2.out.alloc hsz2 _).grown hg5 (by simp; omega) (fun q hq => own_lo hown2.out q hq)))
  clear hown5 hg5)
 go_ret
 refine ⟨A5, c5, 1 + 1, rfl, ?_, hkeep.out.2⟩
 rw [show recParts r = [.u 1] ++ [.s r.text] from by unfold recParts; rw [hk]; simp]
 exact own_parts hkeep.out.1
set_option maxHeartbeats 8000000 in
theorem parts_2 (r : MRec) (hk : r.kind = 2) (A : Option Addr) (n c : Nat) (hreal : r.real < 18446744073709551616) (w : World) :
  Calls Tryz.prog 116 #[.agg #[.int .i64 2, .int .i64 r.num, .int .i64 r.low, .int .i64 r.high, .float .f64 r.real, .int .i64 r.cap, .string (str r.text), .slice A n c]] w (NewParts w (recParts r)) := by
 have hb0 := Lib.hid (Blk.new w 62 #[.int .i64 2, .int .i64 r.num, .int .i64 r.low, .int .i64 r.high, .float .f64 r.real, .int .i64 r.cap, .string (str r.text), .slice A n c])
 have hcl0 := Lib.hid (show Cln w (w.alloc (.cells #[.int .i64 2, .int .i64 r.num, .int .i64 r.low, .int .i64 r.high, .float .f64 r.real, .int .i64 r.cap, .string (str r.text), .slice A n c] 62)) from by (repeat with_reducible first | exact cR _ | assumption | refine cA ?_ _ | refine cD ?_ | refine cN ?_ _ | refine cS ?_ (by first | omega | (simp <;> omega)) _))
 go_enter Tryz.func116, Tryz.ntmps116
 go_wp2_with fail
 refine (pu_any 2 (by decide) _).mono ?_; rintro e w1 ⟨rfl, hq⟩
 rw [show partCells (.u 2) = #[.int .u8 117, .int .u64 2, .int .i64 0, .int .u64 0, .string ⟨#[]⟩, .bool false] from rfl]
 have hcl1 := Lib.hid (cln_trans hcl0.out hq)
 have hb1 := hb0.out.cln hq
 have g0 := hb1.cell 0; have g1 := hb1.cell 1; have g2 := hb1.cell 2; have g3 := hb1.cell 3; have g4 := hb1.cell 4; have g5 := hb1.cell 5; have g6 := hb1.cell 6; have g7 := hb1.cell 7
 replace hb1 := Lib.hid hb1
 have hsz1 : w.heap.size < w1.heap.size := by have := hb1.out.lt; omega
 have hown1 := Lib.hid (World.ownsRow_lit (base := w.heap.size) (e := 113) (size := 6) w1 #[.int .u8 117, .int .u64 2, .int .i64 0, .int .u64 0, .string ⟨#[]⟩, .bool false] 1 (by omega) (by decide) rfl)
 clear hq hcl0 hb0
 have hne : ¬ w.heap.size = w1.heap.size := by omega
 have hne' : ¬ w1.heap.size = w.heap.size := by omega
 go_wp2_with fail
 refine (pi_any r.num _).mono ?_; rintro e w2 ⟨rfl, hq⟩
 rw [show partCells (.i r.num) = #[.int .u8 105, .int .u64 0, .int .i64 r.num, .int .u64 0, .string ⟨#[]⟩, .bool false] from rfl]
 have hown2 := Lib.hid (own_cln hown1.out hq)
 have hcl2 := Lib.hid (cln_trans (show Cln w _ from hcl1.out.alloc (Nat.le_of_lt hsz1) _) hq)
 have hsz2 : w.heap.size ≤ w2.heap.size := hcl2.out.size
 clear hq g0 g1 g2 g3 g4 g5 g6 g7
 go_wp2_with (
  at_builtin
  refine wpList_catP (l1 := [.u 2]) (l2 := [.i r.num]) rfl _ _ rfl rfl rfl (own_cln hown2.out (by (repeat with_reducible first | exact cR _ | assumption | refine cA ?_ _ | refine cD ?_ | refine cN ?_ _ | refine cS ?_ (by first | omega | (simp <;> omega)) _))) (Blk.new w2 _ _) rfl rfl (by decide) (by simp; omega) ?_
  intro A5 c5 w5 hown5 hg5
  have hkeep := Lib.hid (And.intro hown5 ((hcl2.out.alloc hsz2 _).grown hg5 (by simp; omega) (fun q hq => own_lo hown2.out q hq)))
  clear hown5 hg5)
 go_ret
 refine ⟨A5, c5, 1 + 1, rfl, ?_, hkeep.out.2⟩
 rw [show recParts r = [.u 2] ++ [.i r.num] from by unfold recParts; rw [hk]; simp]
 exact own_parts hkeep.out.1
set_option maxHeartbeats 8000000 in
theorem parts_3 (r : MRec) (hk : r.kind = 3) (A : Option Addr) (n c : Nat) (hreal : r.real < 18446744073709551616) (w : World) :
  Calls Tryz.prog 116 #[.agg #[.int .i64 3, .int .i64 r.num, .int .i64 r.low, .int .i64 r.high, .float .f64 r.real, .int .i64 r.cap, .string (str r.text), .slice A n c]] w (NewParts w (recParts r)) := by
 have hb0 := Lib.hid (Blk.new w 62 #[.int .i64 3, .int .i64 r.num, .int .i64 r.low, .int .i64 r.high, .float .f64 r.real, .int .i64 r.cap, .string (str r.text), .slice A n c])
 have hcl0 := Lib.hid (show Cln w (w.alloc (.cells #[.int .i64 3, .int .i64 r.num, .int .i64 r.low, .int .i64 r.high, .float .f64 r.real, .int .i64 r.cap, .string (str r.text), .slice A n c] 62)) from by (repeat with_reducible first | exact cR _ | assumption | refine cA ?_ _ | refine cD ?_ | refine cN ?_ _ | refine cS ?_ (by first | omega | (simp <;> omega)) _))
 go_enter Tryz.func116, Tryz.ntmps116
 go_wp2_with fail
 refine (pu_any 3 (by decide) _).mono ?_; rintro e w1 ⟨rfl, hq⟩
 rw [show partCells (.u 3) = #[.int .u8 117, .int .u64 3, .int .i64 0, .int .u64 0, .string ⟨#[]⟩, .bool false] from rfl]
 have hcl1 := Lib.hid (cln_trans hcl0.out hq)
 have hb1 := hb0.out.cln hq
 have g0 := hb1.cell 0; have g1 := hb1.cell 1; have g2 := hb1.cell 2; have g3 := hb1.cell 3; have g4 := hb1.cell 4; have g5 := hb1.cell 5; have g6 := hb1.cell 6; have g7 := hb1.cell 7
 replace hb1 := Lib.hid hb1
 have hsz1 : w.heap.size < w1.heap.size := by have := hb1.out.lt; omega
 have hown1 := Lib.hid (World.ownsRow_lit (base := w.heap.size) (e := 113) (size := 6) w1 #[.int .u8 117, .int .u64 3, .int .i64 0, .int .u64 0, .string ⟨#[]⟩, .bool false] 1 (by omega) (by decide) rfl)
 clear hq hcl0 hb0
 have hne : ¬ w.heap.size = w1.heap.size := by omega
 have hne' : ¬ w1.heap.size = w.heap.size := by omega
 go_wp2_with fail
 refine (pi_any r.num _).mono ?_; rintro e w2 ⟨rfl, hq⟩
 rw [show partCells (.i r.num) = #[.int .u8 105, .int .u64 0, .int .i64 r.num, .int .u64 0, .string ⟨#[]⟩, .bool false] from rfl]
 have hown2 := Lib.hid (own_cln hown1.out hq)
 have hcl2 := Lib.hid (cln_trans (show Cln w _ from hcl1.out.alloc (Nat.le_of_lt hsz1) _) hq)
 have hsz2 : w.heap.size ≤ w2.heap.size := hcl2.out.size
 clear hq g0 g1 g2 g3 g4 g5 g6 g7
 go_wp2_with (
  at_builtin
  refine wpList_catP (l1 := [.u 3]) (l2 := [.i r.num]) rfl _ _ rfl rfl rfl (own_cln hown2.out (by (repeat with_reducible first | exact cR _ | assumption | refine cA ?_ _ | refine cD ?_ | refine cN ?_ _ | refine cS ?_ (by first | omega | (simp <;> omega)) _))) (Blk.new w2 _ _) rfl rfl (by decide) (by simp; omega) ?_
  intro A5 c5 w5 hown5 hg5
  have hkeep := Lib.hid (And.intro hown5 ((hcl2.out.alloc hsz2 _).grown hg5 (by simp; omega) (fun q hq => own_lo hown2.out q hq)))
  clear hown5 hg5)
 go_ret
 refine ⟨A5, c5, 1 + 1, rfl, ?_, hkeep.out.2⟩
 rw [show recParts r = [.u 3] ++ [.i r.num] from by unfold recParts; rw [hk]; simp]
 exact own_parts hkeep.out.1
set_option maxHeartbeats 8000000 in
theorem parts_5 (r : MRec) (hk : r.kind = 5) (A : Option Addr) (n c : Nat) (hreal : r.real < 18446744073709551616) (w : World) :
  Calls Tryz.prog 116 #[.agg #[.int .i64 5, .int .i64 r.num, .int .i64 r.low, .int .i64 r.high, .float .f64 r.real, .int .i64 r.cap, .string (str r.text), .slice A n c]] w (NewParts w (recParts r)) := by
 have hb0 := Lib.hid (Blk.new w 62 #[.int .i64 5, .int .i64 r.num, .int .i64 r.low, .int .i64 r.high, .float .f64 r.real, .int .i64 r.cap, .string (str r.text), .slice A n c])
 have hcl0 := Lib.hid (show Cln w (w.alloc (.cells #[.int .i64 5, .int .i64 r.num, .int .i64 r.low, .int .i64 r.high, .float .f64 r.real, .int .i64 r.cap, .string (str r.text), .slice A n c] 62)) from by (repeat with_reducible first | exact cR _ | assumption | refine cA ?_ _ | refine cD ?_ | refine cN ?_ _ | refine cS ?_ (by first | omega | (simp <;> omega)) _))
 go_enter Tryz.func116, Tryz.ntmps116
 go_wp2_with fail
 refine (pu_any 5 (by decide) _).mono ?_; rintro e w1 ⟨rfl, hq⟩
 rw [show partCells (.u 5) = #[.int .u8 117, .int .u64 5, .int .i64 0, .int .u64 0, .string ⟨#[]⟩, .bool false] from rfl]
 have hcl1 := Lib.hid (cln_trans hcl0.out hq)
 have hb1 := hb0.out.cln hq
 have g0 := hb1.cell 0; have g1 := hb1.cell 1; have g2 := hb1.cell 2; have g3 := hb1.cell 3; have g4 := hb1.cell 4; have g5 := hb1.cell 5; have g6 := hb1.cell 6; have g7 := hb1.cell 7
 replace hb1 := Lib.hid hb1
 have hsz1 : w.heap.size < w1.heap.size := by have := hb1.out.lt; omega
 have hown1 := Lib.hid (World.ownsRow_lit (base := w.heap.size) (e := 113) (size := 6) w1 #[.int .u8 117, .int .u64 5, .int .i64 0, .int .u64 0, .string ⟨#[]⟩, .bool false] 1 (by omega) (by decide) rfl)
 clear hq hcl0 hb0
 have hne : ¬ w.heap.size = w1.heap.size := by omega
 have hne' : ¬ w1.heap.size = w.heap.size := by omega
 go_wp2_with fail
 refine (pf_any r.real hreal _).mono ?_; rintro e w2 ⟨rfl, hq⟩
 rw [show partCells (.f (fkey r.real)) = #[.int .u8 102, .int .u64 0, .int .i64 0, .int .u64 (fkey r.real : Nat), .string ⟨#[]⟩, .bool false] from rfl]
 have hown2 := Lib.hid (own_cln hown1.out hq)
 have hcl2 := Lib.hid (cln_trans (show Cln w _ from hcl1.out.alloc (Nat.le_of_lt hsz1) _) hq)
 have hsz2 : w.heap.size ≤ w2.heap.size := hcl2.out.size
 clear hq g0 g1 g2 g3 g4 g5 g6 g7
 go_wp2_with (
  at_builtin
  refine wpList_catP (l1 := [.u 5]) (l2 := [.f (fkey r.real)]) rfl _ _ rfl rfl rfl (own_cln hown2.out (by (repeat with_reducible first | exact cR _ | assumption | refine cA ?_ _ | refine cD ?_ | refine cN ?_ _ | refine cS ?_ (by first | omega | (simp <;> omega)) _))) (Blk.new w2 _ _) rfl rfl (by decide) (by simp; omega) ?_
  intro A5 c5 w5 hown5 hg5
  have hkeep := Lib.hid (And.intro hown5 ((hcl2.out.alloc hsz2 _).grown hg5 (by simp; omega) (fun q hq => own_lo hown2.out q hq)))
  clear hown5 hg5)
 go_ret
 refine ⟨A5, c5, 1 + 1, rfl, ?_, hkeep.out.2⟩
 rw [show recParts r = [.u 5] ++ [.f (fkey r.real)] from by unfold recParts; rw [hk]; simp]
 exact own_parts hkeep.out.1
set_option maxHeartbeats 8000000 in
theorem parts_6 (r : MRec) (hk : r.kind = 6) (A : Option Addr) (n c : Nat) (hreal : r.real < 18446744073709551616) (w : World) :
  Calls Tryz.prog 116 #[.agg #[.int .i64 6, .int .i64 r.num, .int .i64 r.low, .int .i64 r.high, .float .f64 r.real, .int .i64 r.cap, .string (str r.text), .slice A n c]] w (NewParts w (recParts r)) := by
 have hb0 := Lib.hid (Blk.new w 62 #[.int .i64 6, .int .i64 r.num, .int .i64 r.low, .int .i64 r.high, .float .f64 r.real, .int .i64 r.cap, .string (str r.text), .slice A n c])
 have hcl0 := Lib.hid (show Cln w (w.alloc (.cells #[.int .i64 6, .int .i64 r.num, .int .i64 r.low, .int .i64 r.high, .float .f64 r.real, .int .i64 r.cap, .string (str r.text), .slice A n c] 62)) from by (repeat with_reducible first | exact cR _ | assumption | refine cA ?_ _ | refine cD ?_ | refine cN ?_ _ | refine cS ?_ (by first | omega | (simp <;> omega)) _))
 go_enter Tryz.func116, Tryz.ntmps116
 go_wp2_with fail
 refine (pu_any 6 (by decide) _).mono ?_; rintro e w1 ⟨rfl, hq⟩
 rw [show partCells (.u 6) = #[.int .u8 117, .int .u64 6, .int .i64 0, .int .u64 0, .string ⟨#[]⟩, .bool false] from rfl]
 have hcl1 := Lib.hid (cln_trans hcl0.out hq)
 have hb1 := hb0.out.cln hq
 have g0 := hb1.cell 0; have g1 := hb1.cell 1; have g2 := hb1.cell 2; have g3 := hb1.cell 3; have g4 := hb1.cell 4; have g5 := hb1.cell 5; have g6 := hb1.cell 6; have g7 := hb1.cell 7
 replace hb1 := Lib.hid hb1
 have hsz1 : w.heap.size < w1.heap.size := by have := hb1.out.lt; omega
 have hown1 := Lib.hid (World.ownsRow_lit (base := w.heap.size) (e := 113) (size := 6) w1 #[.int .u8 117, .int .u64 6, .int .i64 0, .int .u64 0, .string ⟨#[]⟩, .bool false] 1 (by omega) (by decide) rfl)
 clear hq hcl0 hb0
 have hne : ¬ w.heap.size = w1.heap.size := by omega
 have hne' : ¬ w1.heap.size = w.heap.size := by omega
 go_wp2_with fail
 refine (pf_any r.real hreal _).mono ?_; rintro e w2 ⟨rfl, hq⟩
 rw [show partCells (.f (fkey r.real)) = #[.int .u8 102, .int .u64 0, .int .i64 0, .int .u64 (fkey r.real : Nat), .string ⟨#[]⟩, .bool false] from rfl]
 have hown2 := Lib.hid (own_cln hown1.out hq)
 have hcl2 := Lib.hid (cln_trans (show Cln w _ from hcl1.out.alloc (Nat.le_of_lt hsz1) _) hq)
 have hsz2 : w.heap.size ≤ w2.heap.size := hcl2.out.size
 clear hq g0 g1 g2 g3 g4 g5 g6 g7
 go_wp2_with (
  at_builtin
  refine wpList_catP (l1 := [.u 6]) (l2 := [.f (fkey r.real)]) rfl _ _ rfl rfl rfl (own_cln hown2.out (by (repeat with_reducible first | exact cR _ | assumption | refine cA ?_ _ | refine cD ?_ | refine cN ?_ _ | refine cS ?_ (by first | omega | (simp <;> omega)) _))) (Blk.new w2 _ _) rfl rfl (by decide) (by simp; omega) ?_
  intro A5 c5 w5 hown5 hg5
  have hkeep := Lib.hid (And.intro hown5 ((hcl2.out.alloc hsz2 _).grown hg5 (by simp; omega) (fun q hq => own_lo hown2.out q hq)))
  clear hown5 hg5)
 go_ret
 refine ⟨A5, c5, 1 + 1, rfl, ?_, hkeep.out.2⟩
 rw [show recParts r = [.u 6] ++ [.f (fkey r.real)] from by unfold recParts; rw [hk]; simp]
 exact own_parts hkeep.out.1
set_option maxHeartbeats 8000000 in
theorem parts_7 (r : MRec) (hk : r.kind = 7) (A : Option Addr) (n c : Nat) (hreal : r.real < 18446744073709551616) (w : World) :
  Calls Tryz.prog 116 #[.agg #[.int .i64 7, .int .i64 r.num, .int .i64 r.low, .int .i64 r.high, .float .f64 r.real, .int .i64 r.cap, .string (str r.text), .slice A n c]] w (NewParts w (recParts r)) := by
 have hb0 := Lib.hid (Blk.new w 62 #[.int .i64 7, .int .i64 r.num, .int .i64 r.low, .int .i64 r.high, .float .f64 r.real, .int .i64 r.cap, .string (str r.text), .slice A n c])
 have hcl0 := Lib.hid (show Cln w (w.alloc (.cells #[.int .i64 7, .int .i64 r.num, .int .i64 r.low, .int .i64 r.high, .float .f64 r.real, .int .i64 r.cap, .string (str r.text), .slice A n c] 62)) from by (repeat with_reducible first | exact cR _ | assumption | refine cA ?_ _ | refine cD ?_ | refine cN ?_ _ | refine cS ?_ (by first | omega | (simp <;> omega)) _))
 go_enter Tryz.func116, Tryz.ntmps116
 go_wp2_with fail
 refine (pu_any 7 (by decide) _).mono ?_; rintro e w1 ⟨rfl, hq⟩
 rw [show partCells (.u 7) = #[.int .u8 117, .int .u64 7, .int .i64 0, .int .u64 0, .string ⟨#[]⟩, .bool false] from rfl]
 have hcl1 := Lib.hid (cln_trans hcl0.out hq)
 have hb1 := hb0.out.cln hq
 have g0 := hb1.cell 0; have g1 := hb1.cell 1; have g2 := hb1.cell 2; have g3 := hb1.cell 3; have g4 := hb1.cell 4; have g5 := hb1.cell 5; have g6 := hb1.cell 6; have g7 := hb1.cell 7
 replace hb1 := Lib.hid hb1
 have hsz1 : w.heap.size < w1.heap.size := by have := hb1.out.lt; omega
 have hown1 := Lib.hid (World.ownsRow_lit (base := w.heap.size) (e := 113) (size := 6) w1 #[.int .u8 117, .int .u64 7, .int .i64 0, .int .u64 0, .string ⟨#[]⟩, .bool false] 1 (by omega) (by decide) rfl)
 clear hq hcl0 hb0
 have hne : ¬ w.heap.size = w1.heap.size := by omega
 have hne' : ¬ w1.heap.size = w.heap.size := by omega
 go_wp2_with fail
 refine (pf_any r.real hreal _).mono ?_; rintro e w2 ⟨rfl, hq⟩
 rw [show partCells (.f (fkey r.real)) = #[.int .u8 102, .int .u64 0, .int .i64 0, .int .u64 (fkey r.real : Nat), .string ⟨#[]⟩, .bool false] from rfl]
 have hown2 := Lib.hid (own_cln hown1.out hq)
 have hcl2 := Lib.hid (cln_trans (show Cln w _ from hcl1.out.alloc (Nat.le_of_lt hsz1) _) hq)
 have hsz2 : w.heap.size ≤ w2.heap.size := hcl2.out.size
 clear hq g0 g1 g2 g3 g4 g5 g6 g7
 go_wp2_with (
  at_builtin
  refine wpList_catP (l1 := [.u 7]) (l2 := [.f (fkey r.real)]) rfl _ _ rfl rfl rfl (own_cln hown2.out (by (repeat with_reducible first | exact cR _ | assumption | refine cA ?_ _ | refine cD ?_ | refine cN ?_ _ | refine cS ?_ (by first | omega | (simp <;> omega)) _))) (Blk.new w2 _ _) rfl rfl (by decide) (by simp; omega) ?_
  intro A5 c5 w5 hown5 hg5
  have hkeep := Lib.hid (And.intro hown5 ((hcl2.out.alloc hsz2 _).grown hg5 (by simp; omega) (fun q hq => own_lo hown2.out q hq)))
  clear hown5 hg5)
 go_ret
 refine ⟨A5, c5, 1 + 1, rfl, ?_, hkeep.out.2⟩
 rw [show recParts r = [.u 7] ++ [.f (fkey r.real)] from by unfold recParts; rw [hk]; simp]
 exact own_parts hkeep.out.1
set_option maxHeartbeats 8000000 in
theorem parts_4 (r : MRec) (hk : r.kind = 4) (A : Option Addr) (n c : Nat) (hreal : r.real < 18446744073709551616) (w : World) :
  Calls Tryz.prog 116 #[.agg #[.int .i64 4, .int .i64 r.num, .int .i64 r.low, .int .i64 r.high, .float .f64 r.real, .int .i64 r.cap, .string (str r.text), .slice A n c]] w (NewParts w (recParts r)) := by
 have hb0 := Lib.hid (Blk.new w 62 #[.int .i64 4, .int .i64 r.num, .int .i64 r.low, .int .i64 r.high, .float .f64 r.real, .int .i64 r.cap, .string (str r.text), .slice A n c])
 have hcl0 := Lib.hid (show Cln w (w.alloc (.cells #[.int .i64 4, .int .i64 r.num, .int .i64 r.low, .int .i64 r.high, .float .f64 r.real, .int .i64 r.cap, .string (str r.text), .slice A n c] 62)) from by (repeat with_reducible first | exact cR _ | assumption | refine cA ?_ _ | refine cD ?_ | refine cN ?_ _ | refine cS ?_ (by first | omega | (simp <;> omega)) _))
 go_enter Tryz.func116, Tryz.ntmps116
 go_wp2_with fail
 refine (pu_any 4 (by decide) _).mono ?_; rintro e w1 ⟨rfl, hq⟩
 rw [show partCells (.u 4) = #[.int .u8 117, .int .u64 4, .int .i64 0, .int .u64 0, .string ⟨#[]⟩, .bool false] from rfl]
 have hcl1 := Lib.hid (cln_trans hcl0.out hq)
 have hb1 := hb0.out.cln hq
 have g0 := hb1.cell 0; have g1 := hb1.cell 1; have g2 := hb1.cell 2; have g3 := hb1.cell 3; have g4 := hb1.cell 4; have g5 := hb1.cell 5; have g6 := hb1.cell 6; have g7 := hb1.cell 7
 replace hb1 := Lib.hid hb1
 have hsz1 : w.heap.size < w1.heap.size := by have := hb1.out.lt; omega
 have hown1 := Lib.hid (World.ownsRow_lit (base := w.heap.size) (e := 113) (size := 6) w1 #[.int .u8 117, .int .u64 4, .int .i64 0, .int .u64 0, .string ⟨#[]⟩, .bool false] 1 (by omega) (by decide) rfl)
 clear hq hcl0 hb0
 have hne : ¬ w.heap.size = w1.heap.size := by omega
 have hne' : ¬ w1.heap.size = w.heap.size := by omega
 go_wp2_with fail
 have cL : ∀ (x : Int) (W : World), Calls Tryz.prog 134 #[.int .i64 x] W fun e w' => e = .returned (.agg #[.int .u8 105, .int .u64 0, .int .i64 x, .int .u64 0, .string ⟨#[]⟩, .bool false]) ∧ Cln W w' := fun x W => pi_any x W
 have hcl2 := Lib.hid (show Cln w (w1.alloc (.cells #[.int .u8 117, .int .u64 4, .int .i64 0, .int .u64 0, .string ⟨#[]⟩, .bool false] 113)) from hcl1.out.alloc (Nat.le_of_lt hsz1) _)
 have hb2 := Lib.hid (hb1.out.alloc (.cells #[.int .u8 117, .int .u64 4, .int .i64 0, .int .u64 0, .string ⟨#[]⟩, .bool false] 113))
 have k1 := hb2.out.cell 1; have k2 := hb2.out.cell 2; have k3 := hb2.out.cell 3
 have hcur := Lib.hid (show Cln (w1.alloc (.cells #[.int .u8 117, .int .u64 4, .int .i64 0, .int .u64 0, .string ⟨#[]⟩, .bool false] 113)) (w1.alloc (.cells #[.int .u8 117, .int .u64 4, .int .i64 0, .int .u64 0, .string ⟨#[]⟩, .bool false] 113)).drew from Below.drew (Below.refl _ _))
 have hle1 : w.heap.size ≤ (w1.alloc (.cells #[.int .u8 117, .int .u64 4, .int .i64 0, .int .u64 0, .string ⟨#[]⟩, .bool false] 113)).heap.size := hcl2.out.size
 clear g0 g1 g2 g3 g4 g5 g6 g7
 have hnb : ∀ q, (Value.slice (some ⟨w1.heap.size, 0, none⟩) 1 1).ownBlock = some q → w.heap.size ≠ q := fun q e => by simp [Value.ownBlock] at e; omega
 go_region_held3 (fun W => W.cell? ⟨w.heap.size, 1, none⟩ = some (.int .i64 r.num) ∧ W.cell? ⟨w.heap.size, 2, none⟩ = some (.int .i64 r.low) ∧ W.cell? ⟨w.heap.size, 3, none⟩ = some (.int .i64 r.high))
  (first | with_reducible exact hd5 | with_reducible exact heldKeep3 hq (by assumption) | with_reducible exact heldKeep3 ((Below.refl _ _).alloc (Nat.le_refl _) _) (by assumption) | exact ⟨k1, k2, k3⟩)
  (first
   |(go_at_call 134; with_reducible refine (cL _ _).mono ?_; rintro e w' ⟨rfl, hq⟩; have hcur := Lib.hid (cln_trans hcur.out hq))
   |(refine step_catP (l1 := [.u 4]) (l2 := [.i r.low, .i r.high, .i r.num]) rfl _ _ rfl rfl rfl (own_cln hown1.out (hcur.out.alloc hcur.out.size _)) (Blk.new _ _ _) rfl rfl (by decide) (Nat.le_trans hle1 (hcur.out.alloc hcur.out.size _).size) ?_
     intro A5 c5 w5 hown5 hg5
     have hd5 := heldKeepG (p0 := ⟨w.heap.size, 1, none⟩) (p1 := ⟨w.heap.size, 2, none⟩) (p2 := ⟨w.heap.size, 3, none⟩) hg5 hnb hnb hnb (by assumption)
     have hkeep := Lib.hid (And.intro hown5 ((cln_trans hcl2.out (hcur.out.alloc hcur.out.size _)).grown hg5 (Nat.le_trans hle1 (hcur.out.alloc hcur.out.size _).size) (fun q hq => own_lo hown1.out q hq)))
     clear hg5))
 go_wp2_with fail
 go_ret
 refine ⟨A5, c5, 1 + 3, rfl, ?_, hkeep.out.2⟩
 rw [show recParts r = [.u 4] ++ [.i r.low, .i r.high, .i r.num] from by unfold recParts; rw [hk]; simp]
 exact own_parts hkeep.out.1
set_option maxHeartbeats 8000000 in
theorem parts_8 (r : MRec) (hk : r.kind = 8) (A : Option Addr) (n c : Nat) (hreal : r.real < 18446744073709551616) (w : World) (cp : Nat) (hcp : r.cap = ((cp : Nat) : Int)) (hcp2 : cp < 9223372036854775808) (hn : n ≤ 32) (hit : RdItems w A n r.list) :
  Calls Tryz.prog 116 #[.agg #[.int .i64 8, .int .i64 r.num, .int .i64 r.low, .int .i64 r.high, .float .f64 r.real, .int .i64 (cp : Nat), .string (str r.text), .slice A n c]] w (NewParts w (recParts r)) := by
 have hb0 := Lib.hid (Blk.new w 62 #[.int .i64 8, .int .i64 r.num, .int .i64 r.low, .int .i64 r.high, .float .f64 r.real, .int .i64 (cp : Nat), .string (str r.text), .slice A n c])
 have hcl0 := Lib.hid (show Cln w (w.alloc (.cells #[.int .i64 8, .int .i64 r.num, .int .i64 r.low, .int .i64 r.high, .float .f64 r.real, .int .i64 (cp : Nat), .string (str r.text), .slice A n c] 62)) from by (repeat with_reducible first | exact cR _ | assumption | refine cA ?_ _ | refine cD ?_ | refine cN ?_ _ | refine cS ?_ (by first | omega | (simp <;> omega)) _))
 go_enter Tryz.func116, Tryz.ntmps116
 go_wp2_with fail
 refine (pu_any 8 (by decide) _).mono ?_; rintro e w1 ⟨rfl, hq⟩
 rw [show partCells (.u 8) = #[.int .u8 117, .int .u64 8, .int .i64 0, .int .u64 0, .string ⟨#[]⟩, .bool false] from rfl]
 have hcl1 := Lib.hid (cln_trans hcl0.out hq)
 have hb1 := hb0.out.cln hq
 have g0 := hb1.cell 0; have g1 := hb1.cell 1; have g2 := hb1.cell 2; have g3 := hb1.cell 3; have g4 := hb1.cell 4; have g5 := hb1.cell 5; have g6 := hb1.cell 6; have g7 := hb1.cell 7
 replace hb1 := Lib.hid hb1
 have hsz1 : w.heap.size < w1.heap.size := by have := hb1.out.lt; omega
 have hown1 := Lib.hid (World.ownsRow_lit (base := w.heap.size) (e := 113) (size := 6) w1 #[.int .u8 117, .int .u64 8, .int .i64 0, .int .u64 0, .string ⟨#[]⟩, .bool false] 1 (by omega) (by decide) rfl)
 clear hq hcl0 hb0
 have hne : ¬ w.heap.size = w1.heap.size := by omega
 have hne' : ¬ w1.heap.size = w.heap.size := by omega
 go_wp2_with fail
 have cU : ∀ (W : World), Calls Tryz.prog 132 #[.int .i64 (cp : Nat)] W fun e w' => e = .returned (.agg #[.int .u8 117, .int .u64 (cp : Nat), .int .i64 0, .int .u64 0, .string ⟨#[]⟩, .bool false]) ∧ Cln W w' := fun W => pu_any cp hcp2 W
 replace hcp := Lib.hid hcp
 have cN : ∀ (W : World), Calls Tryz.prog 132 #[.int .i64 (n : Nat)] W fun e w' => e = .returned (.agg #[.int .u8 117, .int .u64 (n : Nat), .int .i64 0, .int .u64 0, .string ⟨#[]⟩, .bool false]) ∧ Cln W w' := fun W => pu_any n (by omega) W
 have hcl2 := Lib.hid (show Cln w (w1.alloc (.cells #[.int .u8 117, .int .u64 8, .int .i64 0, .int .u64 0, .string ⟨#[]⟩, .bool false] 113)) from hcl1.out.alloc (Nat.le_of_lt hsz1) _)
 have hb2 := Lib.hid (hb1.out.alloc (.cells #[.int .u8 117, .int .u64 8, .int .i64 0, .int .u64 0, .string ⟨#[]⟩, .bool false] 113))
 have k0 := hb2.out.cell 0; have k5 := hb2.out.cell 5; have k7 := hb2.out.cell 7
 have hcur := Lib.hid (show Cln (w1.alloc (.cells #[.int .u8 117, .int .u64 8, .int .i64 0, .int .u64 0, .string ⟨#[]⟩, .bool false] 113)) (w1.alloc (.cells #[.int .u8 117, .int .u64 8, .int .i64 0, .int .u64 0, .string ⟨#[]⟩, .bool false] 113)).drew from Below.drew (Below.refl _ _))
 have hle1 : w.heap.size ≤ (w1.alloc (.cells #[.int .u8 117, .int .u64 8, .int .i64 0, .int .u64 0, .string ⟨#[]⟩, .bool false] 113)).heap.size := hcl2.out.size
 have hnb : ∀ q, (Value.slice (some ⟨w1.heap.size, 0, none⟩) 1 1).ownBlock = some q → w.heap.size ≠ q := fun q e => by simp [Value.ownBlock] at e; omega
 clear g0 g1 g2 g3 g4 g5 g6 g7
 go_region_held3 (fun W => W.cell? ⟨w.heap.size, 0, none⟩ = some (.int .i64 8) ∧ W.cell? ⟨w.heap.size, 5, none⟩ = some (.int .i64 (cp : Nat)) ∧ W.cell? ⟨w.heap.size, 7, none⟩ = some (.slice A n c))
  (first | with_reducible exact hd5 | with_reducible exact heldKeep3 hq (by assumption) | with_reducible exact heldKeep3 ((Below.refl _ _).alloc (Nat.le_refl _) _) (by assumption) | exact ⟨k0, k5, k7⟩)
  (first
   |(go_at_call 132; with_reducible refine (cU _).mono ?_; rintro e w' ⟨rfl, hq⟩; have hcur := Lib.hid (cln_trans hcur.out hq))
   |(go_at_call 132; with_reducible refine (cN _).mono ?_; rintro e w' ⟨rfl, hq⟩; have hcur := Lib.hid (cln_trans hcur.out hq))
   |(refine step_catP (l1 := [.u 8]) (l2 := [.u cp, .u n]) rfl _ _ rfl rfl rfl (own_cln hown1.out (hcur.out.alloc hcur.out.size _)) (Blk.new _ _ _) rfl rfl (by decide) (Nat.le_trans hle1 (hcur.out.alloc hcur.out.size _).size) ?_
     intro A5 c5 w5 hown5 hg5
     have hd5 := heldKeepG (p0 := ⟨w.heap.size, 0, none⟩) (p1 := ⟨w.heap.size, 5, none⟩) (p2 := ⟨w.heap.size, 7, none⟩) hg5 hnb hnb hnb (by assumption)
     have hkeep := Lib.hid (And.intro hown5 ((cln_trans hcl2.out (hcur.out.alloc hcur.out.size _)).grown hg5 (Nat.le_trans hle1 (hcur.out.alloc hcur.out.size _).size) (fun q hq => own_lo hown1.out q hq)))
     have hbx := Lib.hid (show Blk w5 w.heap.size 62 #[.int .i64 8, .int .i64 r.num, .int .i64 r.low, .int .i64 r.high, .float .f64 r.real, .int .i64 (cp : Nat), .string (str r.text), .slice A n c] from (hg5.block _ ((hb2.out.cln hcur.out).alloc _).lt (fun e => hnb _ e.symm rfl)).trans ((hb2.out.cln hcur.out).alloc _))
     clear hg5))
 have hitH := Lib.hid hit
 have hlenH := Lib.hid hit.len
 have hAlo := Lib.hid hit.lo
 clear hit hcur hb2 k0 k5 k7 hown1 hcl1 hb1 cU cN hnb hd5 hcl2
 have hcl5 := Lib.hid hkeep.out.2
 have hown5' := Lib.hid hkeep.out.1
 clear hkeep hown5
 go_wp2_with fail
 go_loopw [3, 4] (fun v3 v4 wr => ∃ (i : Nat) (A' : Option Addr) (c' m : Nat), i ≤ n ∧ v4 = .int .i64 (i : Nat) ∧ v3 = .slice A' m c' ∧ m ≤ 3 + 2 * i ∧ Hid (Cln w wr) ∧ Hid (Blk wr w.heap.size 62 #[.int .i64 8, .int .i64 r.num, .int .i64 r.low, .int .i64 r.high, .float .f64 r.real, .int .i64 (cp : Nat), .string (str r.text), .slice A n c]) ∧ Hid (wr.ownsRow w.heap.size 113 6 (.slice A' m c') m (partVals ([.u 8] ++ [.u cp, .u n] ++ (r.list.take i).flatMap (itemParts false))))) (fun _ v4 _ => (n - intOf v4).toNat)
 case atStart => exact ⟨0, A5, c5, 1 + 2, Nat.zero_le _, rfl, rfl, by omega, Lib.hid (cln_trans hcl5.out (by (repeat with_reducible first | exact cR _ | assumption | refine cA ?_ _ | refine cD ?_ | refine cN ?_ _ | refine cS ?_ (by first | omega | (simp <;> omega)) _))), Lib.hid (hbx.out.cln (by (repeat with_reducible first | exact cR _ | assumption | refine cA ?_ _ | refine cD ?_ | refine cN ?_ _ | refine cS ?_ (by first | omega | (simp <;> omega)) _))), Lib.hid (by simpa using own_cln hown5'.out (by (repeat with_reducible first | exact cR _ | assumption | refine cA ?_ _ | refine cD ?_ | refine cN ?_ _ | refine cS ?_ (by first | omega | (simp <;> omega)) _)))⟩
 case round =>
  clear hbx hcl5 hown5'
  obtain ⟨i, A', c', m, hi, rfl, rfl, hm, hcl, hbx, hown⟩ := hrel
  have g0 := hbx.out.cell 0; have g7 := hbx.out.cell 7
  have hz := hcl.out.size
  have hbl := hbx.out.lt
  by_cases hlt : i < n
  ·obtain ⟨b, o, hAe, hblt0, hcell⟩ := hitH.out.cells (by omega)
   have hblt : b < wr.heap.size := by omega
   have hbA : b < w.heap.size := hAlo.out (by omega) _ hAe
   subst hAe
   have hwf := hitH.out.wf i
   obtain ⟨hc0w, hc1w⟩ := hcell i hlt
   have htk : Hid ((r.list.take (i + 1)).flatMap (itemParts false) = (r.list.take i).flatMap (itemParts false) ++ itemParts false (itAt r.list i)) := by
    unfold Hid
    have hl : i < r.list.length := by rw [hlenH.out]; exact hlt
    have : r.list.take (i + 1) = r.list.take i ++ [itAt r.list i] := by
     rw [List.take_add_one, List.getElem?_eq_getElem hl]; simp [itAt, List.getD, hl]
    rw [this]; simp
   generalize itAt r.list i = x at hwf hc0w hc1w htk
   clear hcell
   have hc0 := (Kept.of_below (S := fun _ => False) hcl.out).cell hc0w id
   have hc1 := (Kept.of_below (S := fun _ => False) hcl.out).cell hc1w id
   replace hc0w := Lib.hid hc0w; replace hc1w := Lib.hid hc1w
   have cS : ∀ (W : World), Calls Tryz.prog 133 #[.string (str x.name)] W fun e w' => e = .returned (.agg #[.int .u8 115, .int .u64 0, .int .i64 0, .int .u64 0, .string (str x.name), .bool false]) ∧ Cln W w' := fun W => ps_any x.name W
   have cF : ∀ (W : World), Calls Tryz.prog 135 #[.float .f64 x.score] W fun e w' => e = .returned (.agg #[.int .u8 102, .int .u64 0, .int .i64 0, .int .u64 (fkey x.score : Nat), .string ⟨#[]⟩, .bool false]) ∧ Cln W w' := fun W => pf_any x.score hwf W
   go_wp2_with fail
   refine (cS _).mono ?_; rintro e w6 ⟨rfl, hq⟩
   have hown6 := own_cln hown.out hq
   have hbx6 := (hbx.out).cln hq
   have hcl6 := cln_trans hcl.out hq
   have hz6 := hcl6.size
   have hlt6 := hbx6.lt
   replace hown6 := Lib.hid hown6; replace hbx6 := Lib.hid hbx6; replace hcl6 := Lib.hid hcl6
   clear hq
   clear g0 g7 hc0 hc1 hblt hbl
   go_wp2_with (
    at_builtin
    refine wpList_catP (l1 := [.u 8] ++ [.u cp, .u n] ++ (r.list.take i).flatMap (itemParts false)) (l2 := [.s x.name]) rfl _ _ rfl rfl rfl (own_cln hown6.out (by (repeat with_reducible first | exact cR _ | assumption | refine cA ?_ _ | refine cD ?_ | refine cN ?_ _ | refine cS ?_ (by first | omega | (simp <;> omega)) _))) (Blk.new _ _ _) rfl rfl (by omega) (by simp; omega) ?_
    intro A7 c7 w7 hownX hg
    have hcl7 := Lib.hid ((hcl6.out.alloc hz6 _).grown hg (by simp; omega) (fun q hq => own_lo hown6.out q hq))
    have hne7 := own_ne hown6.out hbx6.out (by decide)
    have hbk7 := hg.block w.heap.size (hbx6.out.alloc _).lt (fun e => hne7 e.symm)
    have hbx7 := Lib.hid (show Blk w7 w.heap.size 62 #[.int .i64 8, .int .i64 r.num, .int .i64 r.low, .int .i64 r.high, .float .f64 r.real, .int .i64 (cp : Nat), .string (str r.text), .slice (some ⟨b, o, none⟩) n c] from Eq.trans hbk7 (hbx6.out.alloc _))
    have hown7 := Lib.hid hownX
    have hz7 := hcl7.out.size
    
    clear hg hownX hne7 hbk7)
   refine ⟨?_, by simp [intOf]; omega⟩
   repeat (apply Exists.intro)
   refine And.intro ?_ rfl
   exact ⟨i + 1, A7, c7, m + 1, hlt, by go_num, rfl, by omega, hcl7, hbx7, Lib.hid (by rw [htk.out]; simpa [itemParts] using hown7.out)⟩
  ·obtain rfl : i = n := by omega
   have t2 : decide ((i : Int) < (i : Int)) = false := decide_eq_false (by omega)
   rw [List.take_of_length_le (by rw [hlenH.out]; exact Nat.le_refl _)] at hown
   go_wp2_with fail
   go_ret
   refine ⟨A', c', m, rfl, ?_, hcl.out⟩
   rw [show recParts r = [.u 8] ++ [.u cp, .u i] ++ r.list.flatMap (itemParts false) from by unfold recParts; rw [hk, hcp.out, hlenH.out]; simp]
   exact own_parts hown.out
set_option maxHeartbeats 8000000 in
theorem parts_9 (r : MRec) (hk : r.kind = 9) (A : Option Addr) (n c : Nat) (hreal : r.real < 18446744073709551616) (w : World) (cp : Nat) (hcp : r.cap = ((cp : Nat) : Int)) (hcp2 : cp < 9223372036854775808) (hn : n ≤ 32) (hit : RdItems w A n r.list) :
  Calls Tryz.prog 116 #[.agg #[.int .i64 9, .int .i64 r.num, .int .i64 r.low, .int .i64 r.high, .float .f64 r.real, .int .i64 (cp : Nat), .string (str r.text), .slice A n c]] w (NewParts w (recParts r)) := by
 have hb0 := Lib.hid (Blk.new w 62 #[.int .i64 9, .int .i64 r.num, .int .i64 r.low, .int .i64 r.high, .float .f64 r.real, .int .i64 (cp : Nat), .string (str r.text), .slice A n c])
 have hcl0 := Lib.hid (show Cln w (w.alloc (.cells #[.int .i64 9, .int .i64 r.num, .int .i64 r.low, .int .i64 r.high, .float .f64 r.real, .int .i64 (cp : Nat), .string (str r.text), .slice A n c] 62)) from by (repeat with_reducible first | exact cR _ | assumption | refine cA ?_ _ | refine cD ?_ | refine cN ?_ _ | refine cS ?_ (by first | omega | (simp <;> omega)) _))
 go_enter Tryz.func116, Tryz.ntmps116
 go_wp2_with fail
 refine (pu_any 9 (by decide) _).mono ?_; rintro e w1 ⟨rfl, hq⟩
 rw [show partCells (.u 9) = #[.int .u8 117, .int .u64 9, .int .i64 0, .int .u64 0, .string ⟨#[]⟩, .bool false] from rfl]
 have hcl1 := Lib.hid (cln_trans hcl0.out hq)
 have hb1 := hb0.out.cln hq
 have g0 := hb1.cell 0; have g1 := hb1.cell 1; have g2 := hb1.cell 2; have g3 := hb1.cell 3; have g4 := hb1.cell 4; have g5 := hb1.cell 5; have g6 := hb1.cell 6; have g7 := hb1.cell 7
 replace hb1 := Lib.hid hb1
 have hsz1 : w.heap.size < w1.heap.size := by have := hb1.out.lt; omega
 have hown1 := Lib.hid (World.ownsRow_lit (base := w.heap.size) (e := 113) (size := 6) w1 #[.int .u8 117, .int .u64 9, .int .i64 0, .int .u64 0, .string ⟨#[]⟩, .bool false] 1 (by omega) (by decide) rfl)
 clear hq hcl0 hb0
 have hne : ¬ w.heap.size = w1.heap.size := by omega
 have hne' : ¬ w1.heap.size = w.heap.size := by omega
 go_wp2_with fail
 have cU : ∀ (W : World), Calls Tryz.prog 132 #[.int .i64 (cp : Nat)] W fun e w' => e = .returned (.agg #[.int .u8 117, .int .u64 (cp : Nat), .int .i64 0, .int .u64 0, .string ⟨#[]⟩, .bool false]) ∧ Cln W w' := fun W => pu_any cp hcp2 W
 replace hcp := Lib.hid hcp
 have cN : ∀ (W : World), Calls Tryz.prog 132 #[.int .i64 (n : Nat)] W fun e w' => e = .returned (.agg #[.int .u8 117, .int .u64 (n : Nat), .int .i64 0, .int .u64 0, .string ⟨#[]⟩, .bool false]) ∧ Cln W w' := fun W => pu_any n (by omega) W
 have hcl2 := Lib.hid (show Cln w (w1.alloc (.cells #[.int .u8 117, .int .u64 9, .int .i64 0, .int .u64 0, .string ⟨#[]⟩, .bool false] 113)) from hcl1.out.alloc (Nat.le_of_lt hsz1) _)
 have hb2 := Lib.hid (hb1.out.alloc (.cells #[.int .u8 117, .int .u64 9, .int .i64 0, .int .u64 0, .string ⟨#[]⟩, .bool false] 113))
 have k0 := hb2.out.cell 0; have k5 := hb2.out.cell 5; have k7 := hb2.out.cell 7
 have hcur := Lib.hid (show Cln (w1.alloc (.cells #[.int .u8 117, .int .u64 9, .int .i64 0, .int .u64 0, .string ⟨#[]⟩, .bool false] 113)) (w1.alloc (.cells #[.int .u8 117, .int .u64 9, .int .i64 0, .int .u64 0, .string ⟨#[]⟩, .bool false] 113)).drew from Below.drew (Below.refl _ _))
 have hle1 : w.heap.size ≤ (w1.alloc (.cells #[.int .u8 117, .int .u64 9, .int .i64 0, .int .u64 0, .string ⟨#[]⟩, .bool false] 113)).heap.size := hcl2.out.size
 have hnb : ∀ q, (Value.slice (some ⟨w1.heap.size, 0, none⟩) 1 1).ownBlock = some q → w.heap.size ≠ q := fun q e => by simp [Value.ownBlock] at e; omega
 clear g0 g1 g2 g3 g4 g5 g6 g7
 go_region_held3 (fun W => W.cell? ⟨w.heap.size, 0, none⟩ = some (.int .i64 9) ∧ W.cell? ⟨w.heap.size, 5, none⟩ = some (.int .i64 (cp : Nat)) ∧ W.cell? ⟨w.heap.size, 7, none⟩ = some (.slice A n c))
  (first | with_reducible exact hd5 | with_reducible exact heldKeep3 hq (by assumption) | with_reducible exact heldKeep3 ((Below.refl _ _).alloc (Nat.le_refl _) _) (by assumption) | exact ⟨k0, k5, k7⟩)
  (first
   |(go_at_call 132; with_reducible refine (cU _).mono ?_; rintro e w' ⟨rfl, hq⟩; have hcur := Lib.hid (cln_trans hcur.out hq))
   |(go_at_call 132; with_reducible refine (cN _).mono ?_; rintro e w' ⟨rfl, hq⟩; have hcur := Lib.hid (cln_trans hcur.out hq))
   |(refine step_catP (l1 := [.u 9]) (l2 := [.u cp, .u n]) rfl _ _ rfl rfl rfl (own_cln hown1.out (hcur.out.alloc hcur.out.size _)) (Blk.new _ _ _) rfl rfl (by decide) (Nat.le_trans hle1 (hcur.out.alloc hcur.out.size _).size) ?_
     intro A5 c5 w5 hown5 hg5
     have hd5 := heldKeepG (p0 := ⟨w.heap.size, 0, none⟩) (p1 := ⟨w.heap.size, 5, none⟩) (p2 := ⟨w.heap.size, 7, none⟩) hg5 hnb hnb hnb (by assumption)
     have hkeep := Lib.hid (And.intro hown5 ((cln_trans hcl2.out (hcur.out.alloc hcur.out.size _)).grown hg5 (Nat.le_trans hle1 (hcur.out.alloc hcur.out.size _).size) (fun q hq => own_lo hown1.out q hq)))
     have hbx := Lib.hid (show Blk w5 w.heap.size 62 #[.int .i64 9, .int .i64 r.num, .int .i64 r.low, .int .i64 r.high, .float .f64 r.real, .int .i64 (cp : Nat), .string (str r.text), .slice A n c] from (hg5.block _ ((hb2.out.cln hcur.out).alloc _).lt (fun e => hnb _ e.symm rfl)).trans ((hb2.out.cln hcur.out).alloc _))
     clear hg5))
 have hitH := Lib.hid hit
 have hlenH := Lib.hid hit.len
 have hAlo := Lib.hid hit.lo
 clear hit hcur hb2 k0 k5 k7 hown1 hcl1 hb1 cU cN hnb hd5 hcl2
 have hcl5 := Lib.hid hkeep.out.2
 have hown5' := Lib.hid hkeep.out.1
 clear hkeep hown5
 go_wp2_with fail
 go_loopw [3, 4] (fun v3 v4 wr => ∃ (i : Nat) (A' : Option Addr) (c' m : Nat), i ≤ n ∧ v4 = .int .i64 (i : Nat) ∧ v3 = .slice A' m c' ∧ m ≤ 3 + 2 * i ∧ Hid (Cln w wr) ∧ Hid (Blk wr w.heap.size 62 #[.int .i64 9, .int .i64 r.num, .int .i64 r.low, .int .i64 r.high, .float .f64 r.real, .int .i64 (cp : Nat), .string (str r.text), .slice A n c]) ∧ Hid (wr.ownsRow w.heap.size 113 6 (.slice A' m c') m (partVals ([.u 9] ++ [.u cp, .u n] ++ (r.list.take i).flatMap (itemParts true))))) (fun _ v4 _ => (n - intOf v4).toNat)
 case atStart => exact ⟨0, A5, c5, 1 + 2, Nat.zero_le _, rfl, rfl, by omega, Lib.hid (cln_trans hcl5.out (by (repeat with_reducible first | exact cR _ | assumption | refine cA ?_ _ | refine cD ?_ | refine cN ?_ _ | refine cS ?_ (by first | omega | (simp <;> omega)) _))), Lib.hid (hbx.out.cln (by (repeat with_reducible first | exact cR _ | assumption | refine cA ?_ _ | refine cD ?_ | refine cN ?_ _ | refine cS ?_ (by first | omega | (simp <;> omega)) _))), Lib.hid (by simpa using own_cln hown5'.out (by (repeat with_reducible first | exact cR _ | assumption | refine cA ?_ _ | refine cD ?_ | refine cN ?_ _ | refine cS ?_ (by first | omega | (simp <;> omega)) _)))⟩
 case round =>
  clear hbx hcl5 hown5'
  obtain ⟨i, A', c', m, hi, rfl, rfl, hm, hcl, hbx, hown⟩ := hrel
  have g0 := hbx.out.cell 0; have g7 := hbx.out.cell 7
  have hz := hcl.out.size
  have hbl := hbx.out.lt
  by_cases hlt : i < n
  ·obtain ⟨b, o, hAe, hblt0, hcell⟩ := hitH.out.cells (by omega)
   have hblt : b < wr.heap.size := by omega
   have hbA : b < w.heap.size := hAlo.out (by omega) _ hAe
   subst hAe
   have hwf := hitH.out.wf i
   obtain ⟨hc0w, hc1w⟩ := hcell i hlt
   have htk : Hid ((r.list.take (i + 1)).flatMap (itemParts true) = (r.list.take i).flatMap (itemParts true) ++ itemParts true (itAt r.list i)) := by
    unfold Hid
    have hl : i < r.list.length := by rw [hlenH.out]; exact hlt
    have : r.list.take (i + 1) = r.list.take i ++ [itAt r.list i] := by
     rw [List.take_add_one, List.getElem?_eq_getElem hl]; simp [itAt, List.getD, hl]
    rw [this]; simp
   generalize itAt r.list i = x at hwf hc0w hc1w htk
   clear hcell
   have hc0 := (Kept.of_below (S := fun _ => False) hcl.out).cell hc0w id
   have hc1 := (Kept.of_below (S := fun _ => False) hcl.out).cell hc1w id
   replace hc0w := Lib.hid hc0w; replace hc1w := Lib.hid hc1w
   have cS : ∀ (W : World), Calls Tryz.prog 133 #[.string (str x.name)] W fun e w' => e = .returned (.agg #[.int .u8 115, .int .u64 0, .int .i64 0, .int .u64 0, .string (str x.name), .bool false]) ∧ Cln W w' := fun W => ps_any x.name W
   have cF : ∀ (W : World), Calls Tryz.prog 135 #[.float .f64 x.score] W fun e w' => e = .returned (.agg #[.int .u8 102, .int .u64 0, .int .i64 0, .int .u64 (fkey x.score : Nat), .string ⟨#[]⟩, .bool false]) ∧ Cln W w' := fun W => pf_any x.score hwf W
   go_wp2_with fail
   refine (cF _).mono ?_; rintro e w6 ⟨rfl, hq⟩
   have hown6 := own_cln hown.out hq
   have hbx6 := (hbx.out).cln hq
   have hcl6 := cln_trans hcl.out hq
   have hz6 := hcl6.size
   have hlt6 := hbx6.lt
   replace hown6 := Lib.hid hown6; replace hbx6 := Lib.hid hbx6; replace hcl6 := Lib.hid hcl6
   clear hq
   clear g0 g7 hc0 hc1 hblt hbl
   go_wp2_with (
    at_builtin
    refine wpList_catP (l1 := [.u 9] ++ [.u cp, .u n] ++ (r.list.take i).flatMap (itemParts true)) (l2 := [.f (fkey x.score)]) rfl _ _ rfl rfl rfl (own_cln hown6.out (by (repeat with_reducible first | exact cR _ | assumption | refine cA ?_ _ | refine cD ?_ | refine cN ?_ _ | refine cS ?_ (by first | omega | (simp <;> omega)) _))) (Blk.new _ _ _) rfl rfl (by omega) (by simp; omega) ?_
    intro A7 c7 w7 hownX hg
    have hcl7 := Lib.hid ((hcl6.out.alloc hz6 _).grown hg (by simp; omega) (fun q hq => own_lo hown6.out q hq))
    have hne7 := own_ne hown6.out hbx6.out (by decide)
    have hbk7 := hg.block w.heap.size (hbx6.out.alloc _).lt (fun e => hne7 e.symm)
    have hbx7 := Lib.hid (show Blk w7 w.heap.size 62 #[.int .i64 9, .int .i64 r.num, .int .i64 r.low, .int .i64 r.high, .float .f64 r.real, .int .i64 (cp : Nat), .string (str r.text), .slice (some ⟨b, o, none⟩) n c] from Eq.trans hbk7 (hbx6.out.alloc _))
    have hown7 := Lib.hid hownX
    have hz7 := hcl7.out.size
    have g7 := Blk.cell hbx7.out 7; have hc1 := (Kept.of_below (S := fun _ => False) hcl7.out).cell hc1w.out id; have hblt : b < w7.heap.size := (by omega); have hlt7 := Blk.lt hbx7.out
    clear hg hownX hne7 hbk7)
   go_wp2_with fail
   refine (cS _).mono ?_; rintro e w8 ⟨rfl, hq⟩
   have hown8 := own_cln hown7.out hq
   have hbx8 := (hbx7.out).cln hq
   have hcl8 := cln_trans hcl7.out hq
   have hz8 := hcl8.size
   have hlt8 := hbx8.lt
   replace hown8 := Lib.hid hown8; replace hbx8 := Lib.hid hbx8; replace hcl8 := Lib.hid hcl8
   clear hq
   clear g7 hc1 hblt hlt7
   go_wp2_with (
    at_builtin
    refine wpList_catP (l1 := ([.u 9] ++ [.u cp, .u n] ++ (r.list.take i).flatMap (itemParts true)) ++ [.f (fkey x.score)]) (l2 := [.s x.name]) rfl _ _ rfl rfl rfl (own_cln hown8.out (by (repeat with_reducible first | exact cR _ | assumption | refine cA ?_ _ | refine cD ?_ | refine cN ?_ _ | refine cS ?_ (by first | omega | (simp <;> omega)) _))) (Blk.new _ _ _) rfl rfl (by omega) (by simp; omega) ?_
    intro A9 c9 w9 hownX hg
    have hcl9 := Lib.hid ((hcl8.out.alloc hz8 _).grown hg (by simp; omega) (fun q hq => own_lo hown8.out q hq))
    have hne9 := own_ne hown8.out hbx8.out (by decide)
    have hbk9 := hg.block w.heap.size (hbx8.out.alloc _).lt (fun e => hne9 e.symm)
    have hbx9 := Lib.hid (show Blk w9 w.heap.size 62 #[.int .i64 9, .int .i64 r.num, .int .i64 r.low, .int .i64 r.high, .float .f64 r.real, .int .i64 (cp : Nat), .string (str r.text), .slice (some ⟨b, o, none⟩) n c] from Eq.trans hbk9 (hbx8.out.alloc _))
    have hown9 := Lib.hid hownX
    have hz9 := hcl9.out.size
    
    clear hg hownX hne9 hbk9)
   refine ⟨?_, by simp [intOf]; omega⟩
   repeat (apply Exists.intro)
   refine And.intro ?_ rfl
   exact ⟨i + 1, A9, c9, m + 1 + 1, hlt, by go_num, rfl, by omega, hcl9, hbx9, Lib.hid (by rw [htk.out]; simpa [itemParts] using hown9.out)⟩
  ·obtain rfl : i = n := by omega
   have t2 : decide ((i : Int) < (i : Int)) = false := decide_eq_false (by omega)
   rw [List.take_of_length_le (by rw [hlenH.out]; exact Nat.le_refl _)] at hown
   go_wp2_with fail
   go_ret
   refine ⟨A', c', m, rfl, ?_, hcl.out⟩
   rw [show recParts r = [.u 9] ++ [.u cp, .u i] ++ r.list.flatMap (itemParts true) from by unfold recParts; rw [hk, hcp.out, hlenH.out]; simp]
   exact own_parts hown.out
theorem partAt_mem {l : List MPart} {i : Nat} (h : i < l.length) : partAt l i ∈ l := by
 unfold partAt; rw [List.getD_eq_getElem?_getD, List.getElem?_eq_getElem h, Option.getD_some]; exact List.getElem_mem h
theorem recParts_wf {r : MRec} (hck : checkRec r = 0) (hf : r.Full) : ∀ p ∈ recParts r, p.WF := by
 obtain ⟨h1, h2, h3, h4, h5, h6, h7⟩ := check_parts hck
 obtain ⟨hl, hi⟩ := check_list hck
 have hc := check_ok hck
 intro p hp
 unfold recParts at hp
 rcases List.mem_cons.1 hp with rfl | hp
 ·show r.kind.toNat < _; omega
 split at hp
 ·simp at hp; subst hp; show r.text.length ≤ _; omega
 split at hp
 ·simp at hp; subst hp; exact hf.wf.num
 split at hp
 ·simp at hp; rcases hp with rfl | rfl | rfl
  ·exact hf.wf.low
  ·exact hf.wf.high
  ·exact hf.wf.num
 split at hp
 ·simp at hp; subst hp; exact fkey_lt _ hf.wf.real
 rcases List.mem_cons.1 hp with rfl | hp
 ·show r.cap.toNat < _; omega
 rcases List.mem_cons.1 hp with rfl | hp
 ·show r.list.length < _; omega
 simp only [List.mem_flatMap] at hp
 obtain ⟨x, hx, hp⟩ := hp
 unfold itemParts at hp
 rcases List.mem_append.1 hp with hp | hp
 ·split at hp
  ·simp at hp; subst hp; exact fkey_lt _ (hf.sc x hx)
  ·cases hp
 ·simp at hp; subst hp; have := (hi x hx).1; show x.name.length ≤ _; omega
theorem recParts_len {r : MRec} (hck : checkRec r = 0) : (recParts r).length ≤ 1000 := by
 obtain ⟨hl, hi⟩ := check_list hck
 have key : ∀ (t : Bool) (l : List MItem), (l.flatMap (itemParts t)).length ≤ 2 * l.length := by
  intro t l
  induction l with
  | nil => simp
  | cons x l ih => simp only [List.flatMap_cons, List.length_append, List.length_cons, itemParts]; cases t <;> simp [itemParts] at * <;> omega
 have := key (decide (r.kind = 9)) r.list
 unfold recParts
 repeat' split
 all_goals (simp only [List.length_cons, List.length_nil] at *; omega)
theorem parts_any (r : MRec) (hck : checkRec r = 0) (hf : r.WF) (A : Option Addr) (n c : Nat) (w : World) (hit : RdItems w A n r.list) :
  Calls Tryz.prog 116 #[recVal r A n c] w (NewParts w (recParts r)) := by
 obtain ⟨h1, h2, h3, h4⟩ := check_ok hck
 have hn : n ≤ 32 := by have := (check_list hck).1; have := hit.len; omega
 obtain ⟨k, hk⟩ : ∃ k : Nat, r.kind = (k : Int) := ⟨r.kind.toNat, by omega⟩
 obtain ⟨cp, hcp⟩ : ∃ cp : Nat, r.cap = (cp : Int) := ⟨r.cap.toNat, by omega⟩
 have hcases : k = 1 ∨ k = 2 ∨ k = 3 ∨ k = 4 ∨ k = 5 ∨ k = 6 ∨ k = 7 ∨ k = 8 ∨ k = 9 := by omega
 unfold recVal
 rcases hcases with rfl | rfl | rfl | rfl | rfl | rfl | rfl | rfl | rfl
 ·rw [hk]; exact parts_1 r hk A n c hf.real w
 ·rw [hk]; exact parts_2 r hk A n c hf.real w
 ·rw [hk]; exact parts_3 r hk A n c hf.real w
 ·rw [hk]; exact parts_4 r hk A n c hf.real w
 ·rw [hk]; exact parts_5 r hk A n c hf.real w
 ·rw [hk]; exact parts_6 r hk A n c hf.real w
 ·rw [hk]; exact parts_7 r hk A n c hf.real w
 ·rw [hk, hcp]; exact parts_8 r hk A n c hf.real w cp hcp (by omega) hn hit
 ·rw [hk, hcp]; exact parts_9 r hk A n c hf.real w cp hcp (by omega) hn hit
end Go.Proofs.YtbemnfbndjolpaaGreatDoor
