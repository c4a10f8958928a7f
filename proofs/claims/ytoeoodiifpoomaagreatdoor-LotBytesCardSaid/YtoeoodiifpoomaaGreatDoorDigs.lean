import Derived.Test.YtoeoodiifpoomaaGreatDoorWBytes
import Derived.Deep.RegionWith
import Derived.StillTailTactics
import Derived.Deep.RegionLaw
/- The walks of the document's digits, zig and place: numbers as bytes. -/
set_option linter.unusedSimpArgs false
set_option linter.unusedVariables false
set_option maxRecDepth 20000
namespace Go.Proofs.YtoeoodiifpoomaaGreatDoor
open Go.RowKit Moi
attribute [local go_sem] toList_str str_size less_ltB store_float
/-- The cells of a row of bytes, for an append. -/
theorem bytes_src {w : World} {A : Option Addr} {n : Nat} {bs : List UInt8} (h : RdBytes w A n bs) :
    (∀ ad, A = some ad → ∀ j u, (byteVals bs)[j]? = some u → w.cell? (ad.add j) = some u) ∧ (A = none → n = 0) := by
  refine ⟨fun ad e j u hu => ?_, fun e => ?_⟩
  · have hl := h.len
    have hj : j < bs.length := by
      have := (List.getElem?_eq_some_iff.1 hu).1
      rw [byteVals_length] at this; exact this
    obtain ⟨b, o, hA, _, hc⟩ := h.cells (by omega)
    rw [e] at hA; injection hA with hA; subst hA
    have h1 := hc j (by omega)
    have e2 : (⟨b, o, none⟩ : Addr).add j = ⟨b, o + j, none⟩ := by
      unfold Addr.add
      split
      · rename_i hz; subst hz; rfl
      · rfl
    rw [e2, h1, ← hu]
    simp [byteVals, byteAt, hj, List.getD]
  · rcases Nat.eq_zero_or_pos n with h0 | h0
    · exact h0
    · obtain ⟨b, o, hA, _⟩ := h.cells h0
      rw [e] at hA; cases hA
theorem bytes_one_cell (l : List UInt8) : ∀ u ∈ byteVals l, u.oneCell' = true := by
  intro u hu
  simp only [byteVals, List.mem_map] at hu
  obtain ⟨x, _, rfl⟩ := hu
  rfl
theorem own_cln {w w' : World} {base e size m : Nat} {v : Value} {xs : List Value} (h : w.ownsRow base e size v m xs) (hq : Cln w w') : w'.ownsRow base e size v m xs := by
  refine ⟨h.1, ?_⟩
  rcases h.2 with h1 | ⟨g, cap, cur, hv, hg, hh, r⟩
  · exact .inl h1
  · exact .inr ⟨g, cap, cur, hv, hg, (hq.block g (lt_of_block hh)).trans hh, r⟩
set_option maxHeartbeats 2000000 in
theorem digits_any (n : Nat) : n < 18446744073709551616 → ∀ w : World, Calls Tryz.prog 132 #[.int .u64 (n : Nat)] w (NewBytes w (wU n)) := by
  induction n using Nat.strongRecOn with
  | ind n ih =>
  intro hn w
  obtain ⟨i0, hi, hz0, hz1, hz2⟩ := info_parts Tryz.info5
  by_cases h : n < 128
  · have t1 : decide ((n : Int) < 128) = true := decide_eq_true (by omega)
    have hE : Hid (byteVals (wU n) = [.int .u8 ((n : Int) % 256)]) := by
      unfold Hid; rw [wU_small n h, byteVals_one]
      have e : (((UInt8.ofNat n).toNat : Nat) : Int) = (n : Int) % 256 := by rw [UInt8.toNat_ofNat']; omega
      rw [e]
    have hL : Hid (1 = (wU n).length) := by unfold Hid; rw [wU_small n h]; rfl
    clear ih h
    go_enter Tryz.func132, Tryz.ntmps132
    go_wp2_with fail
    go_ret
    refine ⟨_, _, 1, hL, rfl, ?_, ?_⟩
    · rw [hE.out]
      exact World.ownsRow_lit w #[.int .u8 ((n : Int) % 256)] 1 (Nat.le_refl _) (by decide) rfl
    · (repeat (first | (with_reducible exact Below.refl _ _) | (with_reducible assumption) | (with_reducible refine Below.setCell ?_ (by first | omega | (simp; done) | (simp; omega)) _) | (with_reducible refine Below.alloc ?_ (by first | omega | (simp; done) | (simp; omega)) _) | (with_reducible refine Below.drew ?_) | (with_reducible refine below_drewN ?_ _)))
  · have t1 : decide ((n : Int) < 128) = false := decide_eq_false (by omega)
    have ihn := ih (n / 128) (by omega) (by omega)
    have hE : Hid (byteVals (wU n) = [.int .u8 ((n : Int) % 128 + 128)] ++ byteVals (wU (n / 128))) := by
      unfold Hid; rw [wU_big n (by omega)]
      rw [show (UInt8.ofNat (n % 128 + 128) :: wU (n / 128)) = [UInt8.ofNat (n % 128 + 128)] ++ wU (n / 128) from rfl, byteVals_append, byteVals_one]
      have e : (((UInt8.ofNat (n % 128 + 128)).toNat : Nat) : Int) = (n : Int) % 128 + 128 := by rw [UInt8.toNat_ofNat']; omega
      rw [e]
    have hL : Hid (1 + (wU (n / 128)).length = (wU n).length) := by unfold Hid; rw [wU_big n (by omega), List.length_cons]; omega
    have hlen := wU_len10 (n / 128) (by omega)
    clear ih h
    go_enter Tryz.func132, Tryz.ntmps132
    go_wp2_with fail
    rw [show ((n : Int) / 128) = ((n / 128 : Nat) : Int) from by omega]
    refine (ihn _).mono ?_
    rintro e w2 ⟨A, c, m, hm, rfl, hown, hq⟩
    have hlit := own_cln (World.ownsRow_lit (base := w.heap.size) (e := 5) (size := 1) w #[.int .u8 ((n : Int) % 128 + 128)] 1 (Nat.le_refl _) (by decide) rfl) hq
    have hcl : Cln w w2 := cln_trans (by (repeat (first | (with_reducible exact Below.refl _ _) | (with_reducible assumption) | (with_reducible refine Below.setCell ?_ (by first | omega | (simp; done) | (simp; omega)) _) | (with_reducible refine Below.alloc ?_ (by first | omega | (simp; done) | (simp; omega)) _) | (with_reducible refine Below.drew ?_) | (with_reducible refine below_drewN ?_ _)))) hq
    obtain ⟨hs1, hs2⟩ := bytes_src (own_rd hown)
    have hnl : (byteVals (wU (n / 128))).length = m * 1 := by rw [byteVals_length, hm.out, Nat.mul_one]
    have hm10 : m ≤ 10 := by rw [hm.out]; exact hlen
    have hsz := hcl.size
    replace hs1 := Lib.hid hs1; replace hs2 := Lib.hid hs2; replace hnl := Lib.hid hnl
    clear hown hq hlen t1
    go_wp2_with (
      at_builtin
      refine wpList_cat rfl _ _ 33 rfl w.heap.size 5 i0 (.int .u8 0) 1 1 Tryz.underlying33 hi hz0 hz1 hz2 rfl (by decide) (by decide) (.slice (some ⟨w.heap.size, 0, none⟩) 1 1) 1 _ A m c (byteVals (wU (n / 128))) hnl.out (bytes_one_cell _) hs1.out hs2.out rfl rfl hlit (by omega) hsz ?_
      intro v' w3 hown3 hg3
      obtain ⟨A', c', rfl, hA', _⟩ := own_form hown3
      have hkeep := Lib.hid (And.intro hown3 (hcl.grown hg3 hsz (fun k hk => by simp [Value.ownBlock] at hk; omega)))
      clear hown3 hg3 hA' hlit)
    go_ret
    refine ⟨A', c', 1 + m, by unfold Hid; rw [← hL.out, hm.out], rfl, ?_, hkeep.out.2⟩
    rw [hE.out]
    exact hkeep.out.1
theorem zig_any (n : Int) (h1 : -9223372036854775808 ≤ n) (h2 : n < 9223372036854775808) (w : World) :
    Calls Tryz.prog 133 #[.int .i64 n] w fun e w' => e = .returned (.int .u64 (zig n : Nat)) ∧ w = w' := by
  by_cases h : n < 0
  · have t1 : decide (n < 0) = true := decide_eq_true h
    have hE : Hid ((zig n : Int) = (-(n + 1)) * 2 + 1) := by unfold Hid zig; rw [if_pos h]; omega
    go_enter Tryz.func133, Tryz.ntmps133
    go_wp2_with fail
    go_ret
    refine ⟨ret_int ?_, rfl⟩
    rw [hE.out]
  · have t1 : decide (n < 0) = false := decide_eq_false h
    have hE : Hid ((zig n : Int) = n * 2) := by unfold Hid zig; rw [if_neg h]; omega
    go_enter Tryz.func133, Tryz.ntmps133
    go_wp2_with fail
    go_ret
    refine ⟨ret_int ?_, rfl⟩
    rw [hE.out]
def placeArr (k i : Nat) : Array Value := ((List.range 8).map fun j => if 8 ≤ i + j then Value.int .u8 (((k / 256 ^ (7 - j)) % 256 : Nat) : Int) else .int .u8 0).toArray
theorem placeArr_zero (k : Nat) : placeArr k 0 = #[.int .u8 0, .int .u8 0, .int .u8 0, .int .u8 0, .int .u8 0, .int .u8 0, .int .u8 0, .int .u8 0] := rfl
theorem placeArr_set (k i : Nat) (h : i < 8) : (placeArr k i).setIfInBounds (7 - i) (.int .u8 (((k / 256 ^ i) % 256 : Nat) : Int)) = placeArr k (i + 1) := by
  have : i = 0 ∨ i = 1 ∨ i = 2 ∨ i = 3 ∨ i = 4 ∨ i = 5 ∨ i = 6 ∨ i = 7 := by omega
  rcases this with rfl | rfl | rfl | rfl | rfl | rfl | rfl | rfl <;> rfl
theorem placeArr_full (k : Nat) : (placeArr k 8).toList = byteVals (wPlace k) := by
  have e : ∀ n : Nat, (((UInt8.ofNat n).toNat : Nat) : Int) = ((n % 256 : Nat) : Int) := fun n => by rw [UInt8.toNat_ofNat']
  simp only [placeArr, byteVals, wPlace, List.map_cons, List.map_nil, e]
  simp [List.range, List.range.loop]
theorem placeArr_at (k i : Nat) (h : i < 8) : (placeArr k i)[7 - i]? = some (.int .u8 0) := by
  have : i = 0 ∨ i = 1 ∨ i = 2 ∨ i = 3 ∨ i = 4 ∨ i = 5 ∨ i = 6 ∨ i = 7 := by omega
  rcases this with rfl | rfl | rfl | rfl | rfl | rfl | rfl | rfl <;> rfl
set_option maxHeartbeats 4000000 in
theorem placeB_any (k : Nat) (hk : k < 18446744073709551616) (w : World) : Calls Tryz.prog 134 #[.int .u64 (k : Nat)] w (NewBytes w (wPlace k)) := by
  have hmk : ∀ w : World, (Instr.makeSlice 33 (.int .i64 8) (.int .i64 8)).run Tryz.prog w = .ok (.slice (some ⟨w.heap.size, 0, none⟩) 8 8) (w.alloc (.cells #[.int .u8 0, .int .u8 0, .int .u8 0, .int .u8 0, .int .u8 0, .int .u8 0, .int .u8 0, .int .u8 0] 5)) := fun w => by kernel_rfl
  go_enter Tryz.func134, Tryz.ntmps134
  go_wp2_with (simp only [hmk])
  clear hmk
  go_loopw [0, 4] (fun v0 v wr => ∃ i : Nat, i ≤ 8 ∧ v = .int .i64 (7 - (i : Int)) ∧ v0 = .int .u64 ((k / 256 ^ i : Nat) : Int) ∧ Hid (Cln w wr) ∧ Hid (Blk wr w.heap.size 5 (placeArr k i))) (fun _ v _ => (intOf v + 1).toNat)
  case atStart => exact ⟨0, by omega, rfl, by simp, Lib.hid (by (repeat (first | (with_reducible exact Below.refl _ _) | (with_reducible assumption) | (with_reducible refine Below.setCell ?_ (by first | omega | (simp; done) | (simp; omega)) _) | (with_reducible refine Below.alloc ?_ (by first | omega | (simp; done) | (simp; omega)) _) | (with_reducible refine Below.drew ?_) | (with_reducible refine below_drewN ?_ _)))), Lib.hid (Blk.new w _ _)⟩
  case round =>
    obtain ⟨i, hi, rfl, rfl, hcl, hB⟩ := hrel
    by_cases h8 : i < 8
    · have t1 : decide ((i : Int) ≤ 7) = true := decide_eq_true (by omega)
      have hlt := hB.out.lt
      have hf := hB.out.frozen (7 - i)
      have hc : wr.cell? ⟨w.heap.size, 7 - i, none⟩ = some (.int .u8 0) := (hB.out.cell (7 - i)).trans (placeArr_at k i h8)
      have hn7 : (7 - (i : Int)).toNat = 7 - i := by omega
      have hb1 : (0 : Int) ≤ 7 - (i : Int) := by omega
      have hb2 : 7 - (i : Int) < 8 := by omega
      have hcl' := hcl.out
      have hset := Lib.hid (placeArr_set k i h8)
      have hnx : Hid (k / 256 ^ (i + 1) = k / 256 ^ i / 256) := by unfold Hid; rw [Nat.pow_succ, Nat.div_div_eq_div_mul]
      have hql : k / 256 ^ i < 18446744073709551616 := Nat.lt_of_le_of_lt (Nat.div_le_self _ _) hk
      generalize k / 256 ^ i = q at *
      have hm : (q : Int).tmod 256 = ((q % 256 : Nat) : Int) := by rw [Int.tmod_eq_emod_of_nonneg (by omega)]; omega
      have hd : (q : Int).tdiv 256 = ((q / 256 : Nat) : Int) := by rw [Int.tdiv_eq_ediv_of_nonneg (by omega)]; omega
      go_wp2_with (simp only [hm, hd])
      refine ⟨⟨i + 1, by omega, congrArg (Value.int .i64) (by omega), congrArg (Value.int .u64) (by rw [hnx.out]; omega), Lib.hid (by (repeat (first | (with_reducible exact Below.refl _ _) | (with_reducible assumption) | (with_reducible refine Below.setCell ?_ (by first | omega | (simp; done) | (simp; omega)) _) | (with_reducible refine Below.alloc ?_ (by first | omega | (simp; done) | (simp; omega)) _) | (with_reducible refine Below.drew ?_) | (with_reducible refine below_drewN ?_ _)))), Lib.hid ?_⟩, ?_⟩
      · have h := hB.out.set_ (7 - i) (.int .u8 ((q % 256 : Nat) : Int))
        rw [hset.out] at h
        rw [show ((q : Int) % 256) = ((q % 256 : Nat) : Int) from by omega]
        exact h
      · simp [intOf]; omega
    · obtain rfl : i = 8 := by omega
      have t1 : decide (((8 : Nat) : Int) ≤ 7) = false := by decide
      go_wp2_with fail
      go_ret
      refine ⟨some ⟨w.heap.size, 0, none⟩, 8, 8, rfl, rfl, ?_, hcl.out⟩
      exact ⟨by rw [byteVals_length]; rfl, .inr ⟨w.heap.size, 8, placeArr k 8, rfl, Nat.le_refl _, hB.out, Nat.le_refl _, by decide, rfl, by rw [← placeArr_full]; exact List.take_of_length_le (by simp [placeArr])⟩⟩
end Go.Proofs.YtoeoodiifpoomaaGreatDoor

/- The walk of the document's One: a part as bytes. -/
set_option linter.unusedSimpArgs false
set_option linter.unusedVariables false
set_option maxRecDepth 20000
namespace Moi
/-- A part of the document's form. -/
inductive MPart where
  | u (n : Nat)
  | i (n : Int)
  | f (k : Nat)
  | s (x : List UInt8)
  | b (y : Bool)
def wPart : MPart → List UInt8
  | .u n => wU n
  | .i n => wI n
  | .f k => wPlace k
  | .s x => wS x
  | .b y => wFlag y
def MPart.WF : MPart → Prop
  | .u n => n < 18446744073709551616
  | .i n => -9223372036854775808 ≤ n ∧ n < 9223372036854775808
  | .f k => k < 18446744073709551616
  | .s x => x.length ≤ 1000000
  | .b _ => True
end Moi
namespace Go.Proofs.YtoeoodiifpoomaaGreatDoor
open Go.RowKit Moi
attribute [local go_sem] toList_str str_size less_ltB store_float
def partCells : MPart → Array Value
  | .u n => #[.int .u8 117, .int .u64 (n : Nat), .int .i64 0, .int .u64 0, .string ⟨#[]⟩, .bool false]
  | .i n => #[.int .u8 105, .int .u64 0, .int .i64 n, .int .u64 0, .string ⟨#[]⟩, .bool false]
  | .f k => #[.int .u8 102, .int .u64 0, .int .i64 0, .int .u64 (k : Nat), .string ⟨#[]⟩, .bool false]
  | .s x => #[.int .u8 115, .int .u64 0, .int .i64 0, .int .u64 0, .string (str x), .bool false]
  | .b y => #[.int .u8 98, .int .u64 0, .int .i64 0, .int .u64 0, .string ⟨#[]⟩, .bool y]
section
variable {w : World} {base n m c : Nat} {v : Value} {A : Option Addr} {b1 b2 : List UInt8}
/-- Bytes that are appended to a row of one's own. -/
theorem run_catB (t : TypeId) (hown : w.ownsRow base 5 1 v n (byteVals b1)) (hr : RdBytes w A m b2) (hb : n + m ≤ 140737488355328) (hbase : base ≤ w.heap.size) :
    ∃ A' c' w', (Builtin.append_ #[33, 33] t #[v, .slice A m c]).run Tryz.prog w = .ok (.slice A' (n + m) c') w' ∧ w'.ownsRow base 5 1 (.slice A' (n + m) c') (n + m) (byteVals (b1 ++ b2)) ∧ w.grownBy w' v.ownBlock := by
  obtain ⟨i0, hi, hz0, hz1, hz2⟩ := info_parts Tryz.info5
  obtain ⟨hs1, hs2⟩ := bytes_src hr
  have hl : (byteVals b2).length = m * 1 := by rw [byteVals_length, hr.len, Nat.mul_one]
  rcases A with _ | ad
  · obtain rfl := hs2 rfl
    have hn : b2 = [] := List.eq_nil_of_length_eq_zero hr.len
    subst hn
    obtain ⟨A', c', rfl, _⟩ := own_form hown
    exact ⟨A', c', w, run_append_of_none Tryz.underlying33 hi hown c, by simpa using hown, World.grownBy.refl _ _⟩
  · obtain ⟨v', w', h1, h2, h3, _⟩ := run_append_own w base 33 t 5 i0 (.int .u8 0) 1 1 Tryz.underlying33 hi hz0 hz1 hz2 rfl (by decide) v n (byteVals b1) hown ad m c (byteVals b2) hl (hs1 ad rfl) (bytes_one_cell _) (by simp only [maxLen]; omega) (by omega) hbase
    obtain ⟨A', c', rfl, _⟩ := own_form h2
    exact ⟨A', c', w', h1, by rw [byteVals_append]; exact h2, h3⟩
variable {ops : Array Oper} {rest : List Oper} {o : Oper} {a : Act} {K : Act → World → Prop} {Q : Exit → Act → World → Prop} {E : Prop}
theorem wp_catB (s x : Operand) (ho : o.op = .call { callee := .builtin .append, args := #[s, x], argTypes := #[33, 33] }) (hs : a.eval s = v) (hx : a.eval x = .slice A m c)
    (hown : w.ownsRow base 5 1 v n (byteVals b1)) (hr : RdBytes w A m b2) (hb : n + m ≤ 140737488355328) (hbase : base ≤ w.heap.size)
    (h : ∀ A' c' w', w'.ownsRow base 5 1 (.slice A' (n + m) c') (n + m) (byteVals (b1 ++ b2)) → w.grownBy w' v.ownBlock → K (a.put o.dst (.slice A' (n + m) c')) w') : o.wp Tryz.prog a w K Q := by
  obtain ⟨A', c', w', h1, h2, h3⟩ := run_catB (c := c) o.type hown hr hb hbase
  unfold Oper.wp execOp
  simp only [ho, resolve, invoke, builtin, Sem.run_bind, Sem.run_pure, Result.andThen_ok, List.map_toArray, List.map_cons, List.map_nil, hs, hx, h1]
  exact h A' c' w' h2 h3
theorem step_catB (hgd : o.guard = none) (s x : Operand) (ho : o.op = .call { callee := .builtin .append, args := #[s, x], argTypes := #[33, 33] }) (hs : a.eval s = v) (hx : a.eval x = .slice A m c)
    (hown : w.ownsRow base 5 1 v n (byteVals b1)) (hr : RdBytes w A m b2) (hb : n + m ≤ 140737488355328) (hbase : base ≤ w.heap.size)
    (h : ∀ A' c' w', w'.ownsRow base 5 1 (.slice A' (n + m) c') (n + m) (byteVals (b1 ++ b2)) → w.grownBy w' v.ownBlock → K (a.put o.dst (.slice A' (n + m) c')) w') :
    if Region.wanted o (yielded ops a.tmps) = true then Oper.wp Tryz.prog o a w K Q else E := by
  have hw : Region.wanted o (yielded ops a.tmps) = true := by simp [Region.wanted, hgd]
  rw [if_pos hw]
  exact wp_catB s x ho hs hx hown hr hb hbase h
theorem wpList_catB (hgd : o.guard = none) (s x : Operand) (ho : o.op = .call { callee := .builtin .append, args := #[s, x], argTypes := #[33, 33] }) (hs : a.eval s = v) (hx : a.eval x = .slice A m c)
    (hown : w.ownsRow base 5 1 v n (byteVals b1)) (hr : RdBytes w A m b2) (hb : n + m ≤ 140737488355328) (hbase : base ≤ w.heap.size)
    (h : ∀ A' c' w', w'.ownsRow base 5 1 (.slice A' (n + m) c') (n + m) (byteVals (b1 ++ b2)) → w.grownBy w' v.ownBlock → wpList Tryz.prog ops Q rest (a.put o.dst (.slice A' (n + m) c')) w') :
    wpList Tryz.prog ops Q (o :: rest) a w :=
  wpList_plain hgd fun _ hK => wp_catB s x ho hs hx hown hr hb hbase fun A' c' w' h2 h3 => hK _ _ (h A' c' w' h2 h3)
end
/-- The world behind a text's turning into bytes. -/
def cwOf (s : ByteArray) (W : World) : World := W.drew.alloc (.cells (bytesRow s (grownCap W s.size 0 5)) 5 ((bytesRow s (grownCap W s.size 0 5)).size, (bytesRow s (grownCap W s.size 0 5)).size + 1))
theorem run_cw (s : ByteArray) (W : World) : (convert 9 33 (.string s)).run Tryz.prog W = .ok (.slice (some ⟨W.heap.size, 0, none⟩) s.size (grownCap W s.size 0 5)) (cwOf s W) :=
  run_bytes_of_string W _ _ 5 s Tryz.underlying9 Tryz.underlying33 Tryz.underlying5
theorem cw_cln (s : ByteArray) (W : World) : Cln W (cwOf s W) := by unfold cwOf; exact ((Below.refl _ _).drew).alloc (Nat.le_refl _) _
theorem cw_rd (x : List UInt8) (W : World) : RdBytes (cwOf (str x) W) (some ⟨W.heap.size, 0, none⟩) x.length x := by
  have hn : (str x).size = x.length := str_size x
  refine ⟨rfl, fun ad e => ?_, fun _ => ⟨W.heap.size, 0, rfl, ?_, fun i hi => ?_⟩⟩
  · injection e with e; subst e; rfl
  · unfold cwOf; simp
  · have hh : (cwOf (str x) W).heap[W.heap.size]? = some (.cells (bytesRow (str x) (grownCap W (str x).size 0 5)) 5 ((bytesRow (str x) (grownCap W (str x).size 0 5)).size, (bytesRow (str x) (grownCap W (str x).size 0 5)).size + 1)) := heap_alloc_new W.drew _
    have hi' : i < (str x).data.size := by show i < (str x).size; omega
    rw [Nat.zero_add, cell_of_row _ _ i _ _ _ hh, bytesRow_at _ _ i hi']
    have hx : i < x.length := by omega
    simp [byteAt, str, List.getD, hx]
theorem own_lo {w : World} {base e size m : Nat} {v : Value} {xs : List Value} (h : w.ownsRow base e size v m xs) : ∀ g, v.ownBlock = some g → base ≤ g := by
  intro g hg
  rcases h.2 with ⟨h1, _⟩ | ⟨g', cap, cur, hv, hb, hh, r⟩
  · rw [h1] at hg; cases hg
  · rw [hv] at hg
    simp [Value.ownBlock] at hg
    omega
set_option maxHeartbeats 4000000 in
theorem one_u (n : Nat) (hn : n < 18446744073709551616) (w : World) : Calls Tryz.prog 95 #[.agg (partCells (.u n))] w (NewBytes w (wU n)) := by
  rw [show partCells (.u n) = #[.int .u8 117, .int .u64 (n : Nat), .int .i64 0, .int .u64 0, .string ⟨#[]⟩, .bool false] from rfl]
  go_enter Tryz.func95, Tryz.ntmps95
  go_wp2_with fail
  refine (digits_any n hn _).mono ?_
  rintro e w2 ⟨A, c, m, hm, rfl, hown, hq⟩
  replace hown := Lib.hid (own_base hown (show w.heap.size ≤ _ from by simp))
  replace hq := Lib.hid (show Cln w w2 from cln_trans (by (repeat (first | (with_reducible exact Below.refl _ _) | (with_reducible assumption) | (with_reducible refine Below.setCell ?_ (by first | omega | (simp; done) | (simp; omega)) _) | (with_reducible refine Below.alloc ?_ (by first | omega | (simp; done) | (simp; omega)) _) | (with_reducible refine Below.drew ?_) | (with_reducible refine below_drewN ?_ _)))) hq)
  go_wp2_with fail
  go_ret
  exact ⟨A, c, m, hm, rfl, hown.out, hq.out⟩
set_option maxHeartbeats 4000000 in
theorem one_i (n : Int) (hn : -9223372036854775808 ≤ n ∧ n < 9223372036854775808) (w : World) : Calls Tryz.prog 95 #[.agg (partCells (.i n))] w (NewBytes w (wI n)) := by
  rw [show partCells (.i n) = #[.int .u8 105, .int .u64 0, .int .i64 n, .int .u64 0, .string ⟨#[]⟩, .bool false] from rfl]
  go_enter Tryz.func95, Tryz.ntmps95
  go_wp2_with fail
  refine (zig_any n hn.1 hn.2 _).mono ?_
  rintro e w1 ⟨rfl, rfl⟩
  go_wp2_with fail
  refine (digits_any (zig n) (zig_lt' n hn) _).mono ?_
  rintro e w2 ⟨A, c, m, hm, rfl, hown, hq⟩
  replace hown := Lib.hid (own_base hown (show w.heap.size ≤ _ from by simp))
  replace hq := Lib.hid (show Cln w w2 from cln_trans (by (repeat (first | (with_reducible exact Below.refl _ _) | (with_reducible assumption) | (with_reducible refine Below.setCell ?_ (by first | omega | (simp; done) | (simp; omega)) _) | (with_reducible refine Below.alloc ?_ (by first | omega | (simp; done) | (simp; omega)) _) | (with_reducible refine Below.drew ?_) | (with_reducible refine below_drewN ?_ _)))) hq)
  go_wp2_with fail
  go_ret
  exact ⟨A, c, m, hm, rfl, hown.out, hq.out⟩
set_option maxHeartbeats 4000000 in
theorem one_f (k : Nat) (hk : k < 18446744073709551616) (w : World) : Calls Tryz.prog 95 #[.agg (partCells (.f k))] w (NewBytes w (wPlace k)) := by
  rw [show partCells (.f k) = #[.int .u8 102, .int .u64 0, .int .i64 0, .int .u64 (k : Nat), .string ⟨#[]⟩, .bool false] from rfl]
  go_enter Tryz.func95, Tryz.ntmps95
  go_wp2_with fail
  refine (placeB_any k hk _).mono ?_
  rintro e w2 ⟨A, c, m, hm, rfl, hown, hq⟩
  replace hown := Lib.hid (own_base hown (show w.heap.size ≤ _ from by simp))
  replace hq := Lib.hid (show Cln w w2 from cln_trans (by (repeat (first | (with_reducible exact Below.refl _ _) | (with_reducible assumption) | (with_reducible refine Below.setCell ?_ (by first | omega | (simp; done) | (simp; omega)) _) | (with_reducible refine Below.alloc ?_ (by first | omega | (simp; done) | (simp; omega)) _) | (with_reducible refine Below.drew ?_) | (with_reducible refine below_drewN ?_ _)))) hq)
  go_wp2_with fail
  go_ret
  exact ⟨A, c, m, hm, rfl, hown.out, hq.out⟩
set_option maxHeartbeats 4000000 in
theorem one_b (y : Bool) (w : World) : Calls Tryz.prog 95 #[.agg (partCells (.b y))] w (NewBytes w (wFlag y)) := by
  cases y with
  | true =>
    rw [show partCells (.b true) = #[.int .u8 98, .int .u64 0, .int .i64 0, .int .u64 0, .string ⟨#[]⟩, .bool true] from rfl]
    go_enter Tryz.func95, Tryz.ntmps95
    go_wp2_with fail
    go_ret
    refine ⟨_, _, 1, rfl, rfl, ?_, by (repeat (first | (with_reducible exact Below.refl _ _) | (with_reducible assumption) | (with_reducible refine Below.setCell ?_ (by first | omega | (simp; done) | (simp; omega)) _) | (with_reducible refine Below.alloc ?_ (by first | omega | (simp; done) | (simp; omega)) _) | (with_reducible refine Below.drew ?_) | (with_reducible refine below_drewN ?_ _)))⟩
    have h := World.ownsRow_lit (base := w.heap.size) (e := 5) (size := 1) (w.alloc (.cells #[.int .u8 98, .int .u64 0, .int .i64 0, .int .u64 0, .string ⟨#[]⟩, .bool true] 132)) #[.int .u8 1] 1 (by simp) (by decide) rfl
    rw [World.size_alloc] at h
    exact h
  | false =>
    rw [show partCells (.b false) = #[.int .u8 98, .int .u64 0, .int .i64 0, .int .u64 0, .string ⟨#[]⟩, .bool false] from rfl]
    go_enter Tryz.func95, Tryz.ntmps95
    go_wp2_with fail
    go_ret
    refine ⟨_, _, 1, rfl, rfl, ?_, by (repeat (first | (with_reducible exact Below.refl _ _) | (with_reducible assumption) | (with_reducible refine Below.setCell ?_ (by first | omega | (simp; done) | (simp; omega)) _) | (with_reducible refine Below.alloc ?_ (by first | omega | (simp; done) | (simp; omega)) _) | (with_reducible refine Below.drew ?_) | (with_reducible refine below_drewN ?_ _)))⟩
    have h := World.ownsRow_lit (base := w.heap.size) (e := 5) (size := 1) (w.alloc (.cells #[.int .u8 98, .int .u64 0, .int .i64 0, .int .u64 0, .string ⟨#[]⟩, .bool false] 132)) #[.int .u8 0] 1 (by simp) (by decide) rfl
    rw [World.size_alloc] at h
    exact h
set_option maxHeartbeats 8000000 in
theorem one_s (x : List UInt8) (hx : x.length ≤ 1000000) (w : World) : Calls Tryz.prog 95 #[.agg (partCells (.s x))] w (NewBytes w (wS x)) := by
  rw [show partCells (.s x) = #[.int .u8 115, .int .u64 0, .int .i64 0, .int .u64 0, .string (str x), .bool false] from rfl]
  have hcw := run_cw (str x)
  have hb0 := Blk.new w 132 #[.int .u8 115, .int .u64 0, .int .i64 0, .int .u64 0, .string (str x), .bool false]
  have hb0' := Lib.hid hb0
  have hc0 := hb0.cell
  have hsz := str_size x
  have cD : ∀ W : World, Calls Tryz.prog 132 #[.int .u64 ((x.length : Nat) : Int)] W fun e w' => ∃ A c m, Hid (m = (wU x.length).length) ∧ e = .returned (.slice A m c) ∧ w'.ownsRow W.heap.size 5 1 (.slice A m c) m (byteVals (wU x.length)) ∧ Cln W w' := fun W => digits_any x.length (by omega) W
  have hc1 := (hb0.drew.cln (cw_cln (str x) (w.alloc (.cells #[.int .u8 115, .int .u64 0, .int .i64 0, .int .u64 0, .string (str x), .bool false] 132)).drew)).cell
  have hrd2 : ∀ W' : World, Cln (cwOf (str x) (w.alloc (.cells #[.int .u8 115, .int .u64 0, .int .i64 0, .int .u64 0, .string (str x), .bool false] 132)).drew) W' → RdBytes W' (some ⟨w.heap.size + 1, 0, none⟩) x.length x := fun W' k => by
    have h := (cw_rd x (w.alloc (.cells #[.int .u8 115, .int .u64 0, .int .i64 0, .int .u64 0, .string (str x), .bool false] 132)).drew).cln k
    rw [show (w.alloc (.cells #[.int .u8 115, .int .u64 0, .int .i64 0, .int .u64 0, .string (str x), .bool false] 132)).drew.heap.size = w.heap.size + 1 from by show (w.alloc _).heap.size = _; rw [World.size_alloc]] at h
    exact h
  clear hb0
  have hlen10 := wU_len10 x.length (by omega)
  have hwr : IntKind.u64.wrap ((x.length : Nat) : Int) = ((x.length : Nat) : Int) := IntWalk.u64_in _ (by omega)
  go_enter Tryz.func95, Tryz.ntmps95
  go_wp2_with fail
  go_region_law (first
    | (go_simp; go_at_call 132; with_reducible refine (cD _).mono ?_; rintro e wd ⟨Ad, cd, md, hmd, rfl, hownd, hqd⟩; have hcd := (hb0'.out.cln (by first | exact cln_trans (Below.drew (Below.refl _ _)) hqd | exact cln_trans (cln_trans (Below.drew (Below.refl _ _)) (cw_cln _ _)) hqd)).cell; have hod := own_base hownd (show w.heap.size ≤ _ from by first | exact (Below.drew ((Below.refl w.heap.size w).alloc (Nat.le_refl _) _)).size | exact (cln_trans (Below.drew ((Below.refl w.heap.size w).alloc (Nat.le_refl _) _)) (cw_cln _ _)).size); have hcld := Lib.hid (show Cln w wd from by first | exact cln_trans (Below.drew ((Below.refl _ _).alloc (Nat.le_refl _) _)) hqd | exact cln_trans (cln_trans (Below.drew ((Below.refl _ _).alloc (Nat.le_refl _) _)) (cw_cln _ _)) hqd))
    | (refine step_catB (m := x.length) (b2 := x) rfl _ _ rfl rfl rfl (own_cln hod (cw_cln (str x) wd)) (cw_rd x wd) (by have := hmd.out; omega) (Nat.le_trans hcld.out.size (cw_cln (str x) wd).size) ?_; intro A5 c5 w5 hown5 hg5; have hkeep := Lib.hid (And.intro hown5 ((cln_trans hcld.out (cw_cln (str x) wd)).grown hg5 (Nat.le_trans hcld.out.size (cw_cln (str x) wd).size) (fun k hk => own_lo hod k hk))))
    | (refine step_catB (m := x.length) (b2 := x) rfl _ _ rfl rfl rfl hod (hrd2 _ hqd) (by have := hmd.out; omega) hcld.out.size ?_; intro A5 c5 w5 hown5 hg5; have hkeep := Lib.hid (And.intro hown5 (hcld.out.grown hg5 hcld.out.size (fun k hk => own_lo hod k hk)))))
  all_goals
    (try go_wp2_with fail)
    go_ret
    exact ⟨A5, c5, md + x.length, by unfold Hid; rw [hmd.out, wS, List.length_append], rfl, hkeep.out.1, hkeep.out.2⟩
theorem partOne_any (p : MPart) (hp : p.WF) (w : World) : Calls Tryz.prog 95 #[.agg (partCells p)] w (NewBytes w (wPart p)) := by
  cases p with
  | u n => exact one_u n hp w
  | i n => exact one_i n hp w
  | f k => exact one_f k hp w
  | s x => exact one_s x hp w
  | b y => exact one_b y w
end Go.Proofs.YtoeoodiifpoomaaGreatDoor

/- The walk of the document's Write: parts as bytes. -/
set_option linter.unusedSimpArgs false
set_option linter.unusedVariables false
set_option maxRecDepth 20000
namespace Go.Proofs.YtoeoodiifpoomaaGreatDoor
open Go.RowKit Moi
attribute [local go_sem] toList_str str_size less_ltB store_float
def partAt (l : List MPart) (i : Nat) : MPart := l.getD i (.u 0)
def catParts (l : List MPart) : List UInt8 := l.flatMap wPart
theorem catParts_take (l : List MPart) (i : Nat) (h : i < l.length) : catParts (l.take (i + 1)) = catParts (l.take i) ++ wPart (partAt l i) := by
  have : l.take (i + 1) = l.take i ++ [partAt l i] := by
    rw [List.take_add_one, List.getElem?_eq_getElem h]; simp [partAt, List.getD, h]
  rw [this]; simp [catParts]
theorem catParts_le (l : List MPart) (i : Nat) : (catParts (l.take i)).length ≤ (catParts l).length := by
  have e : catParts l = catParts (l.take i) ++ catParts (l.drop i) := by
    conv => lhs; rw [← List.take_append_drop i l]
    unfold catParts; rw [List.flatMap_append]
  rw [e, List.length_append]; omega
theorem partCells_six (p : MPart) : ∃ v0 v1 v2 v3 v4 v5, partCells p = #[v0, v1, v2, v3, v4, v5] := by
  cases p <;> exact ⟨_, _, _, _, _, _, rfl⟩
structure RdParts (W : World) (A : Option Addr) (n : Nat) (l : List MPart) : Prop where
  len : l.length = n
  rows : 0 < n → ∃ b o, A = some ⟨b, o, none⟩ ∧ b < W.heap.size ∧ ∀ i, i < n → ∀ j, j < 6 → W.cell? ⟨b, o + i * 6 + j, none⟩ = (partCells (partAt l i))[j]?
theorem RdParts.cln {W W' : World} {A : Option Addr} {n : Nat} {l : List MPart} (h : RdParts W A n l) (k : Cln W W') : RdParts W' A n l := by
  have k' := Kept.of_below (S := fun _ => False) k
  refine ⟨h.len, fun h0 => ?_⟩
  obtain ⟨b, o, rfl, hb, hi⟩ := h.rows h0
  refine ⟨b, o, rfl, Nat.lt_of_lt_of_le hb k.size, fun i hlt j hj => ?_⟩
  obtain ⟨v0, v1, v2, v3, v4, v5, e⟩ := partCells_six (partAt l i)
  have h1 := hi i hlt j hj
  have hs : ∃ u, (partCells (partAt l i))[j]? = some u := by rw [e]; exact ⟨_, Array.getElem?_eq_getElem (show j < 6 from hj)⟩
  obtain ⟨u, hu⟩ := hs
  rw [hu] at h1 ⊢
  exact k'.cell h1 id
set_option maxHeartbeats 8000000 in
theorem write_any (l : List MPart) (A : Option Addr) (n c : Nat) (hn : n ≤ 1000000) (hwf : ∀ i, i < n → (partAt l i).WF) (hsum : (catParts l).length ≤ 100000000) (w : World) (hr : RdParts w A n l) :
    Calls Tryz.prog 59 #[.slice A n c] w (NewBytes w (catParts l)) := by
  have hlen := Lib.hid hr.len
  have hr := Lib.hid hr
  have hlit := Lib.hid (World.ownsRow_lit (base := w.heap.size) (e := 5) (size := 1) w #[] 0 (Nat.le_refl _) (Nat.zero_le _) rfl)
  replace hwf := Lib.hid hwf
  replace hsum := Lib.hid hsum
  go_enter Tryz.func59, Tryz.ntmps59
  go_wp2_with fail
  go_loopw [3, 4] (fun v3 v4 wr => ∃ (i : Nat) (A' : Option Addr) (c' m : Nat), i ≤ n ∧ v4 = .int .i64 (i : Nat) ∧ v3 = .slice A' m c' ∧ Hid (m = (catParts (l.take i)).length) ∧ Hid (Cln w wr) ∧ Hid (wr.ownsRow w.heap.size 5 1 (.slice A' m c') m (byteVals (catParts (l.take i))))) (fun _ v4 _ => (n - intOf v4).toNat)
  case atStart => exact ⟨0, _, _, 0, Nat.zero_le _, rfl, rfl, by simp [Hid, catParts], Lib.hid (by (repeat (first | (with_reducible exact Below.refl _ _) | (with_reducible assumption) | (with_reducible refine Below.setCell ?_ (by first | omega | (simp; done) | (simp; omega)) _) | (with_reducible refine Below.alloc ?_ (by first | omega | (simp; done) | (simp; omega)) _) | (with_reducible refine Below.drew ?_) | (with_reducible refine below_drewN ?_ _)))), Lib.hid (by simpa [catParts, byteVals] using hlit.out)⟩
  case round =>
    obtain ⟨i, A', c', m, hi, rfl, rfl, hm, hcl, hown⟩ := hrel
    by_cases hlt : i < n
    · obtain ⟨b, o, rfl, hblt, hcell⟩ := (hr.out.cln hcl.out).rows (by omega)
      have hc := hcell i hlt
      have hp := hwf.out i hlt
      have htk := Lib.hid (catParts_take l i (by rw [hlen.out]; exact hlt))
      have hbnd : (catParts (l.take (i + 1))).length ≤ 100000000 := Nat.le_trans (catParts_le l (i + 1)) hsum.out
      generalize partAt l i = p at hc hp htk
      obtain ⟨v0, v1, v2, v3, v4, v5, e⟩ := partCells_six p
      rw [e] at hc
      have f0 : wr.cell? ⟨b, o + i * 6, none⟩ = some v0 := hc 0 (by omega)
      have f1 : wr.cell? ⟨b, o + i * 6 + 1, none⟩ = some v1 := hc 1 (by omega)
      have f2 : wr.cell? ⟨b, o + i * 6 + 2, none⟩ = some v2 := hc 2 (by omega)
      have f3 : wr.cell? ⟨b, o + i * 6 + 3, none⟩ = some v3 := hc 3 (by omega)
      have f4 : wr.cell? ⟨b, o + i * 6 + 4, none⟩ = some v4 := hc 4 (by omega)
      have f5 : wr.cell? ⟨b, o + i * 6 + 5, none⟩ = some v5 := hc 5 (by omega)
      have hone := partOne_any p hp
      rw [e] at hone
      clear hcell hc e
      replace htk := htk.out
      rw [htk, List.length_append] at hbnd
      replace htk := Lib.hid htk
      replace hbnd := Lib.hid hbnd
      go_wp2_with fail
      refine (hone _).mono ?_
      rintro e w2 ⟨A2, c2, m2, hm2, rfl, hown2, hq⟩
      have hown1 := own_cln hown.out hq
      have hcl2 := cln_trans hcl.out hq
      have hmm : m + m2 ≤ 100000000 := by rw [hm.out, hm2.out]; exact hbnd.out
      have hrd2 := own_rd hown2
      replace hcl2 := Lib.hid hcl2; replace hrd2 := Lib.hid hrd2; replace hown1 := Lib.hid hown1
      clear f0 f1 f2 f3 f4 f5 hq hown2 hone
      go_wp2_with (
        at_builtin
        refine wpList_catB rfl _ _ rfl rfl rfl hown1.out hrd2.out (by omega) hcl2.out.size ?_
        intro A5 c5 w5 hown5 hg5
        have hkeep := Lib.hid (And.intro hown5 (hcl2.out.grown hg5 hcl2.out.size (fun k hk => own_lo hown1.out k hk)))
        clear hown5 hg5)
      go_roundw
      case rel => exact ⟨i + 1, A5, c5, m + m2, hlt, by go_num, rfl, by unfold Hid; rw [htk.out, List.length_append, hm.out, hm2.out], Lib.hid hkeep.out.2, Lib.hid (by rw [htk.out]; exact hkeep.out.1)⟩
      case measure => simp [intOf]; omega
    · obtain rfl : i = n := by omega
      have t2 : decide ((i : Int) < (i : Int)) = false := decide_eq_false (by omega)
      rw [List.take_of_length_le (by rw [hlen.out]; exact Nat.le_refl _)] at hm hown
      go_wp2_with fail
      go_ret
      exact ⟨A', c', m, hm, rfl, hown.out, hcl.out⟩
end Go.Proofs.YtoeoodiifpoomaaGreatDoor
