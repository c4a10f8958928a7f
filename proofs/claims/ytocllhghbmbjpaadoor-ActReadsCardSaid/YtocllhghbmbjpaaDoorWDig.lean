/- The walks of the document's digits, zig and place: numbers as bytes. -/
import Derived.Test.YtocllhghbmbjpaaDoorWBytes
import Derived.Deep.RegionWith
import Derived.StillTailTactics
set_option linter.unusedSimpArgs false
set_option linter.unusedVariables false
set_option maxRecDepth 20000
namespace Go.Proofs.YtocllhghbmbjpaaDoor
open Go.RowKit Moi
attribute [local go_sem] toList_str str_size less_ltB store_float
/-- The cells of a row of bytes, for an append. -/
theorem bytes_src {w : World} {A : Option Addr} {n : Nat} {bs : List UInt8} (h : RdBytes w A n bs) :
    (∀ ad, A = some ad → ∀ j u, (byteVals bs)[j]? = some u → w.cell? (ad.add j) = some u) ∧ (A = none → n = 0) := by
  refine ⟨fun ad e j u hu => ?_, fun e => ?_⟩
  · have hl := h.len
    have hj : j < bs.length := by
      have := (List.getElem?_eq_some_iff.1 hu).1
      rw [byteVals_length] at this; exact this
    obtain ⟨b, o, hA, _, hc⟩ := h.cells (by omega)
    rw [e] at hA; injection hA with hA; subst hA
    have h1 := hc j (by omega)
    have e2 : (⟨b, o, none⟩ : Addr).add j = ⟨b, o + j, none⟩ := by
      unfold Addr.add
      split
      · rename_i hz; subst hz; rfl
      · rfl
    rw [e2, h1, ← hu]
    simp [byteVals, byteAt, hj, List.getD]
  · rcases Nat.eq_zero_or_pos n with h0 | h0
    · exact h0
    · obtain ⟨b, o, hA, _⟩ := h.cells h0
      rw [e] at hA; cases hA
theorem bytes_one_cell (l : List UInt8) : ∀ u ∈ byteVals l, u.oneCell' = true := by
  intro u hu
  simp only [byteVals, List.mem_map] at hu
  obtain ⟨x, _, rfl⟩ := hu
  rfl
theorem own_cln {w w' : World} {base e size m : Nat} {v : Value} {xs : List Value} (h : w.ownsRow base e size v m xs) (hq : Cln w w') : w'.ownsRow base e size v m xs := by
  refine ⟨h.1, ?_⟩
  rcases h.2 with h1 | ⟨g, cap, cur, hv, hg, hh, r⟩
  · exact .inl h1
  · exact .inr ⟨g, cap, cur, hv, hg, (hq.block g (lt_of_block hh)).trans hh, r⟩
set_option maxHeartbeats 2000000 in
theorem digits_any (n : Nat) : n < 18446744073709551616 → ∀ w : World, Calls Tryd.prog 94 #[.int .u64 (n : Nat)] w (NewBytes w (wU n)) := by
  induction n using Nat.strongRecOn with
  | ind n ih =>
  intro hn w
  obtain ⟨i0, hi, hz0, hz1, hz2⟩ := info_parts Tryd.info5
  by_cases h : n < 128
  · have t1 : decide ((n : Int) < 128) = true := decide_eq_true (by omega)
    have hE : Hid (byteVals (wU n) = [.int .u8 ((n : Int) % 256)]) := by
      unfold Hid; rw [wU_small n h, byteVals_one]
      have e : (((UInt8.ofNat n).toNat : Nat) : Int) = (n : Int) % 256 := by rw [UInt8.toNat_ofNat']; omega
      rw [e]
    have hL : Hid (1 = (wU n).length) := by unfold Hid; rw [wU_small n h]; rfl
    clear ih h
    go_enter Tryd.func94, Tryd.ntmps94
    go_wp2_with fail
    go_ret
    refine ⟨_, _, 1, hL, rfl, ?_, ?_⟩
    · rw [hE.out]
      exact World.ownsRow_lit w #[.int .u8 ((n : Int) % 256)] 1 (Nat.le_refl _) (by decide) rfl
    · (repeat (first | (with_reducible exact Below.refl _ _) | (with_reducible assumption) | (with_reducible refine Below.setCell ?_ (by first | omega | (simp; done) | (simp; omega)) _) | (with_reducible refine Below.alloc ?_ (by first | omega | (simp; done) | (simp; omega)) _) | (with_reducible refine Below.drew ?_) | (with_reducible refine below_drewN ?_ _)))
  · have t1 : decide ((n : Int) < 128) = false := decide_eq_false (by omega)
    have ihn := ih (n / 128) (by omega) (by omega)
    have hE : Hid (byteVals (wU n) = [.int .u8 ((n : Int) % 128 + 128)] ++ byteVals (wU (n / 128))) := by
      unfold Hid; rw [wU_big n (by omega)]
      rw [show (UInt8.ofNat (n % 128 + 128) :: wU (n / 128)) = [UInt8.ofNat (n % 128 + 128)] ++ wU (n / 128) from rfl, byteVals_append, byteVals_one]
      have e : (((UInt8.ofNat (n % 128 + 128)).toNat : Nat) : Int) = (n : Int) % 128 + 128 := by rw [UInt8.toNat_ofNat']; omega
      rw [e]
    have hL : Hid (1 + (wU (n / 128)).length = (wU n).length) := by unfold Hid; rw [wU_big n (by omega), List.length_cons]; omega
    have hlen := wU_len10 (n / 128) (by omega)
    clear ih h
    go_enter Tryd.func94, Tryd.ntmps94
    go_wp2_with fail
    rw [show ((n : Int) / 128) = ((n / 128 : Nat) : Int) from by omega]
    refine (ihn _).mono ?_
    rintro e w2 ⟨A, c, m, hm, rfl, hown, hq⟩
    have hlit := own_cln (World.ownsRow_lit (base := w.heap.size) (e := 5) (size := 1) w #[.int .u8 ((n : Int) % 128 + 128)] 1 (Nat.le_refl _) (by decide) rfl) hq
    have hcl : Cln w w2 := cln_trans (by (repeat (first | (with_reducible exact Below.refl _ _) | (with_reducible assumption) | (with_reducible refine Below.setCell ?_ (by first | omega | (simp; done) | (simp; omega)) _) | (with_reducible refine Below.alloc ?_ (by first | omega | (simp; done) | (simp; omega)) _) | (with_reducible refine Below.drew ?_) | (with_reducible refine below_drewN ?_ _)))) hq
    obtain ⟨hs1, hs2⟩ := bytes_src (own_rd hown)
    have hnl : (byteVals (wU (n / 128))).length = m * 1 := by rw [byteVals_length, hm.out, Nat.mul_one]
    have hm10 : m ≤ 10 := by rw [hm.out]; exact hlen
    have hsz := hcl.size
    replace hs1 := Lib.hid hs1; replace hs2 := Lib.hid hs2; replace hnl := Lib.hid hnl
    clear hown hq hlen t1
    go_wp2_with (
      at_builtin
      refine wpList_cat rfl _ _ 38 rfl w.heap.size 5 i0 (.int .u8 0) 1 1 Tryd.underlying38 hi hz0 hz1 hz2 rfl (by decide) (by decide) (.slice (some ⟨w.heap.size, 0, none⟩) 1 1) 1 _ A m c (byteVals (wU (n / 128))) hnl.out (bytes_one_cell _) hs1.out hs2.out rfl rfl hlit (by omega) hsz ?_
      intro v' w3 hown3 hg3
      obtain ⟨A', c', rfl, hA', _⟩ := own_form hown3
      have hkeep := Lib.hid (And.intro hown3 (hcl.grown hg3 hsz (fun k hk => by simp [Value.ownBlock] at hk; omega)))
      clear hown3 hg3 hA' hlit)
    go_ret
    refine ⟨A', c', 1 + m, by unfold Hid; rw [← hL.out, hm.out], rfl, ?_, hkeep.out.2⟩
    rw [hE.out]
    exact hkeep.out.1
theorem zig_any (n : Int) (h1 : -9223372036854775808 ≤ n) (h2 : n < 9223372036854775808) (w : World) :
    Calls Tryd.prog 95 #[.int .i64 n] w fun e w' => e = .returned (.int .u64 (zig n : Nat)) ∧ w = w' := by
  by_cases h : n < 0
  · have t1 : decide (n < 0) = true := decide_eq_true h
    have hE : Hid ((zig n : Int) = (-(n + 1)) * 2 + 1) := by unfold Hid zig; rw [if_pos h]; omega
    go_enter Tryd.func95, Tryd.ntmps95
    go_wp2_with fail
    go_ret
    refine ⟨ret_int ?_, rfl⟩
    rw [hE.out]
  · have t1 : decide (n < 0) = false := decide_eq_false h
    have hE : Hid ((zig n : Int) = n * 2) := by unfold Hid zig; rw [if_neg h]; omega
    go_enter Tryd.func95, Tryd.ntmps95
    go_wp2_with fail
    go_ret
    refine ⟨ret_int ?_, rfl⟩
    rw [hE.out]
def placeArr (k i : Nat) : Array Value := ((List.range 8).map fun j => if 8 ≤ i + j then Value.int .u8 (((k / 256 ^ (7 - j)) % 256 : Nat) : Int) else .int .u8 0).toArray
theorem placeArr_zero (k : Nat) : placeArr k 0 = #[.int .u8 0, .int .u8 0, .int .u8 0, .int .u8 0, .int .u8 0, .int .u8 0, .int .u8 0, .int .u8 0] := rfl
theorem placeArr_set (k i : Nat) (h : i < 8) : (placeArr k i).setIfInBounds (7 - i) (.int .u8 (((k / 256 ^ i) % 256 : Nat) : Int)) = placeArr k (i + 1) := by
  have : i = 0 ∨ i = 1 ∨ i = 2 ∨ i = 3 ∨ i = 4 ∨ i = 5 ∨ i = 6 ∨ i = 7 := by omega
  rcases this with rfl | rfl | rfl | rfl | rfl | rfl | rfl | rfl <;> rfl
theorem placeArr_full (k : Nat) : (placeArr k 8).toList = byteVals (wPlace k) := by
  have e : ∀ n : Nat, (((UInt8.ofNat n).toNat : Nat) : Int) = ((n % 256 : Nat) : Int) := fun n => by rw [UInt8.toNat_ofNat']
  simp only [placeArr, byteVals, wPlace, List.map_cons, List.map_nil, e]
  simp [List.range, List.range.loop]
theorem placeArr_at (k i : Nat) (h : i < 8) : (placeArr k i)[7 - i]? = some (.int .u8 0) := by
  have : i = 0 ∨ i = 1 ∨ i = 2 ∨ i = 3 ∨ i = 4 ∨ i = 5 ∨ i = 6 ∨ i = 7 := by omega
  rcases this with rfl | rfl | rfl | rfl | rfl | rfl | rfl | rfl <;> rfl
set_option maxHeartbeats 4000000 in
theorem placeB_any (k : Nat) (hk : k < 18446744073709551616) (w : World) : Calls Tryd.prog 96 #[.int .u64 (k : Nat)] w (NewBytes w (wPlace k)) := by
  have hmk : ∀ w : World, (Instr.makeSlice 38 (.int .i64 8) (.int .i64 8)).run Tryd.prog w = .ok (.slice (some ⟨w.heap.size, 0, none⟩) 8 8) (w.alloc (.cells #[.int .u8 0, .int .u8 0, .int .u8 0, .int .u8 0, .int .u8 0, .int .u8 0, .int .u8 0, .int .u8 0] 5)) := fun w => by kernel_rfl
  go_enter Tryd.func96, Tryd.ntmps96
  go_wp2_with (simp only [hmk])
  clear hmk
  go_loopw [0, 4] (fun v0 v wr => ∃ i : Nat, i ≤ 8 ∧ v = .int .i64 (7 - (i : Int)) ∧ v0 = .int .u64 ((k / 256 ^ i : Nat) : Int) ∧ Hid (Cln w wr) ∧ Hid (Blk wr w.heap.size 5 (placeArr k i))) (fun _ v _ => (intOf v + 1).toNat)
  case atStart => exact ⟨0, by omega, rfl, by simp, Lib.hid (by (repeat (first | (with_reducible exact Below.refl _ _) | (with_reducible assumption) | (with_reducible refine Below.setCell ?_ (by first | omega | (simp; done) | (simp; omega)) _) | (with_reducible refine Below.alloc ?_ (by first | omega | (simp; done) | (simp; omega)) _) | (with_reducible refine Below.drew ?_) | (with_reducible refine below_drewN ?_ _)))), Lib.hid (Blk.new w _ _)⟩
  case round =>
    obtain ⟨i, hi, rfl, rfl, hcl, hB⟩ := hrel
    by_cases h8 : i < 8
    · have t1 : decide ((i : Int) ≤ 7) = true := decide_eq_true (by omega)
      have hlt := hB.out.lt
      have hf := hB.out.frozen (7 - i)
      have hc : wr.cell? ⟨w.heap.size, 7 - i, none⟩ = some (.int .u8 0) := (hB.out.cell (7 - i)).trans (placeArr_at k i h8)
      have hn7 : (7 - (i : Int)).toNat = 7 - i := by omega
      have hb1 : (0 : Int) ≤ 7 - (i : Int) := by omega
      have hb2 : 7 - (i : Int) < 8 := by omega
      have hcl' := hcl.out
      have hset := Lib.hid (placeArr_set k i h8)
      have hnx : Hid (k / 256 ^ (i + 1) = k / 256 ^ i / 256) := by unfold Hid; rw [Nat.pow_succ, Nat.div_div_eq_div_mul]
      have hql : k / 256 ^ i < 18446744073709551616 := Nat.lt_of_le_of_lt (Nat.div_le_self _ _) hk
      generalize k / 256 ^ i = q at *
      have hm : (q : Int).tmod 256 = ((q % 256 : Nat) : Int) := by rw [Int.tmod_eq_emod_of_nonneg (by omega)]; omega
      have hd : (q : Int).tdiv 256 = ((q / 256 : Nat) : Int) := by rw [Int.tdiv_eq_ediv_of_nonneg (by omega)]; omega
      go_wp2_with (simp only [hm, hd])
      refine ⟨⟨i + 1, by omega, congrArg (Value.int .i64) (by omega), congrArg (Value.int .u64) (by rw [hnx.out]; omega), Lib.hid (by (repeat (first | (with_reducible exact Below.refl _ _) | (with_reducible assumption) | (with_reducible refine Below.setCell ?_ (by first | omega | (simp; done) | (simp; omega)) _) | (with_reducible refine Below.alloc ?_ (by first | omega | (simp; done) | (simp; omega)) _) | (with_reducible refine Below.drew ?_) | (with_reducible refine below_drewN ?_ _)))), Lib.hid ?_⟩, ?_⟩
      · have h := hB.out.set_ (7 - i) (.int .u8 ((q % 256 : Nat) : Int))
        rw [hset.out] at h
        rw [show ((q : Int) % 256) = ((q % 256 : Nat) : Int) from by omega]
        exact h
      · simp [intOf]; omega
    · obtain rfl : i = 8 := by omega
      have t1 : decide (((8 : Nat) : Int) ≤ 7) = false := by decide
      go_wp2_with fail
      go_ret
      refine ⟨some ⟨w.heap.size, 0, none⟩, 8, 8, rfl, rfl, ?_, hcl.out⟩
      exact ⟨by rw [byteVals_length]; rfl, .inr ⟨w.heap.size, 8, placeArr k 8, rfl, Nat.le_refl _, hB.out, Nat.le_refl _, by decide, rfl, by rw [← placeArr_full]; exact List.take_of_length_le (by simp [placeArr])⟩⟩
end Go.Proofs.YtocllhghbmbjpaaDoor
