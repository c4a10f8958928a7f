import Derived.Test.YtbemnfbndjolpaaGreatDoorWFlo
import Derived.Test.YtbemnfbndjolpaaGreatDoorMem
import Derived.Test.YtbemnfbndjolpaaGreatDoorPlain
import Derived.Lib.AppendStr
import Derived.Deep.RegionLaw
import Derived.Deep.AppendLies
import Derived.Deep.RegionHeld3
/- The walks of pack's Writer. -/
set_option linter.unusedSimpArgs false
set_option linter.unusedVariables false
set_option maxRecDepth 20000
namespace Go.Proofs.YtbemnfbndjolpaaGreatDoor
open Go.RowKit Moi

def WS (w : World) (base p : Nat) (k : Nat) : Prop := k = p ∨ (base ≤ k ∧ ∃ cs, w.heap[k]? = some (.cells cs 5 (0, 0)))
theorem WS.trans {w w1 w2 : World} {base p : Nat} (h : Kept (WS w base p) w w1) (k : Kept (WS w1 base p) w1 w2) : Kept (WS w base p) w w2 :=
 h.then_ k fun i hi h2 => by
  rcases h2 with h2 | ⟨hb, cs, h2⟩
  ·exact .inl h2
  ·rcases Classical.em (WS w base p i) with h3 | h3
   ·exact h3
   ·exact .inr ⟨hb, cs, (h.block i hi h3) ▸ h2⟩
theorem WS.not {w : World} {base p g : Nat} {t : TypeId} {cs : Array Value} (hb : Blk w g t cs) (hne : g ≠ p) (ht : t ≠ 5) : ¬ WS w base p g := by
 rintro (h | ⟨_, cs', h⟩)
 ·exact hne h
 ·exact hb.ne_ (g' := g) (cs' := cs') h ht rfl
theorem WS.not_lt {w : World} {base p g : Nat} (hb : g < base) (hp : base ≤ p) : ¬ WS w base p g := by
 rintro (h | ⟨h, _⟩) <;> omega

structure IsW (w : World) (p base : Nat) (bs : List UInt8) : Prop where
 lo : base ≤ p
 ex : ∃ A c k, Hid (k = bs.length) ∧ Blk w p 144 #[.slice A k c] ∧ w.ownsRow base 5 1 (.slice A k c) k (byteVals bs)
def WPost (w : World) (p base : Nat) (bs : List UInt8) (e : Ending) (w' : World) : Prop := e = .returned (.tuple #[]) ∧ IsW w' p base bs ∧ Kept (WS w base p) w w'

theorem Tryz.info5 : (Tryz.prog.info? 5).map (fun i => (i.zero, i.size, i.bytes)) = some (some (.int .u8 0), 1, 1) := by kernel_rfl

theorem IsW.push {W w1 : World} {p base : Nat} {cs0 : Array Value} {v v' : Value} {n N : Nat} {xs : List Value} {bs' : List UInt8} (hlo : base ≤ p) (hb : Blk W p 144 cs0) (hz : cs0.size = 1)
  (hown : W.ownsRow base 5 1 v n xs) (hg : W.grownBy w1 v.ownBlock) (hown' : w1.ownsRow base 5 1 v' N (byteVals bs')) (hN : N = bs'.length) :
  IsW (w1.setCell ⟨p, 0, none⟩ v') p base bs' ∧ Kept (WS W base p) W (w1.setCell ⟨p, 0, none⟩ v') := by
 subst hN
 obtain ⟨A, c, rfl, hA, hc, _⟩ := own_form hown'
 have hne := own_ne hown hb (by decide)
 have hb1 : Blk w1 p 144 cs0 := (hg.block p hb.lt (fun e => hne e.symm)).trans hb
 have hne' := own_ne hown' hb1 (by decide)
 refine ⟨⟨hlo, A, c, _, rfl, ?_, ownsRow_setCell_other hown' (a := ⟨p, 0, none⟩) hne' _⟩, ?_⟩
 ·have := hb1.set_ 0 (.slice A bs'.length c)
  rcases cs0 with ⟨l⟩
  match l, hz with
  | [x], _ => exact this
 ·refine ((Kept.refl _ W).grown hg ?_).setCell (fun _ => .inl rfl) _
  intro k hk _
  rcases hown.2 with ⟨rfl, _⟩ | ⟨g', cap, cur, rfl, hbg, hh, _⟩
  ·simp [Value.ownBlock] at hk
  ·have : g' = k := by simpa [Value.ownBlock] using hk
   subst this
   exact .inr ⟨hbg, cur, hh⟩
theorem IsW.kept {w w' : World} {p base : Nat} {bs : List UInt8} {S : Nat → Prop} (h : IsW w p base bs) (k : Kept S w w') (hp : ¬ S p) (hS : ∀ g cs, base ≤ g → w.heap[g]? = some (.cells cs 5 (0, 0)) → ¬ S g) : IsW w' p base bs := by
 obtain ⟨hlo, A, c, n, hnl, hb, hown⟩ := h
 refine ⟨hlo, A, c, n, hnl, hb.kept k hp, hown.1, ?_⟩
 rcases hown.2 with h1 | ⟨g, cap, cur, hv, hg, hh, r⟩
 ·exact .inl h1
 ·exact .inr ⟨g, cap, cur, hv, hg, k.heap hh (hS g cur hg hh), r⟩
theorem IsW.cln {w w' : World} {p base : Nat} {bs : List UInt8} (h : IsW w p base bs) (k : Cln w w') : IsW w' p base bs :=
 h.kept (Kept.of_below (S := fun _ => False) k) (fun h => h) fun _ _ _ _ h => h
theorem IsW.drewN {w : World} {p base : Nat} {bs : List UInt8} (h : IsW w p base bs) (n : Nat) : IsW (w.drewN n) p base bs := h.cln ⟨rfl, rfl, rfl, Nat.le_refl _, fun _ _ => rfl⟩
theorem kept_alloc (S : Nat → Prop) (w : World) (o : Obj) : Kept S w (w.alloc o) := (Kept.refl S w).alloc o
theorem byteVals_one (b : UInt8) : byteVals [b] = [.int .u8 (b.toNat : Nat)] := rfl
theorem wU_small (n : Nat) (h : n < 128) : wU n = [UInt8.ofNat n] := by rw [wU, if_pos h]
theorem wU_big (n : Nat) (h : 128 ≤ n) : wU n = UInt8.ofNat (n % 128 + 128) :: wU (n / 128) := by rw [wU, if_neg (by omega)]

theorem wu_any (p base : Nat) (bs : List UInt8) (n : Nat) (w : World) (hw : IsW w p base bs) (hn : n < 18446744073709551616) (hl : bs.length + (wU n).length ≤ 1099511627776) :
  Calls Tryz.prog 84 #[.pointer (some ⟨p, 0, none⟩), .int .u64 (n : Nat)] w (WPost w p base (bs ++ wU n)) := by
 obtain ⟨i0, hi, hz0, hz1, hz2⟩ := info_parts Tryz.info5
 go_enter Tryz.func84, Tryz.ntmps84
 go_wp2_with fail
 go_loopw [1] (fun v wr => ∃ (m : Nat) (cs : List UInt8), v = .int .u64 (m : Nat) ∧ m < 18446744073709551616 ∧ IsW wr p base cs ∧ Kept (WS w base p) w wr ∧ Hid (bs ++ wU n = cs ++ wU m)) (fun v _ => (intOf v).toNat)
 case atStart => exact ⟨n, bs, rfl, hn, hw, Kept.refl _ _, rfl⟩
 case round =>
  obtain ⟨m, cs, rfl, hm, hw', hk, hH⟩ := hrel
  obtain ⟨hlo, A, c, k, hnl, hb, hown⟩ := hw'
  have hc := hb.cell
  have hf := hb.frozen
  have hlt := hb.lt
  by_cases h128 : 128 ≤ m
  ·have t1 : decide (128 ≤ (m : Int)) = true := decide_eq_true (by omega)
   have hv := Lib.hid (orHigh m)
   have hbig := Lib.hid (wU_big m h128)
   have hl' : cs.length + (wU m).length ≤ 1099511627776 := by have := congrArg List.length hH.out; simp only [List.length_append] at this; omega
   have hl2 : k + 1 ≤ 1099511627776 := by have := hnl.out; rw [hbig.out, List.length_cons] at hl'; omega
   have h128' := Lib.hid h128
   clear hl' h128
   have hm2 : m / 128 < 18446744073709551616 := by omega
   have hby : (UInt8.ofNat (m % 128 + 128)).toNat = m % 128 + 128 := by rw [UInt8.toNat_ofNat']; omega
   have hby' := Lib.hid hby; clear hby
   go_wp2_with (
    at_builtin
    refine wpList_push rfl _ _ 33 rfl base 5 i0 (.int .u8 0) 1 1 Tryz.underlying33 hi hz0 hz1 hz2 rfl (by decide) (by decide) (.slice A k c) k (byteVals cs) [.int .u8 (bits .or .u8 ((m : Int) % 256) 128)] rfl (by simp [Value.oneCell']) rfl rfl hown (by omega) (by omega) ?_
    intro v' w1 hown1 hg1
    obtain ⟨A', c', rfl, hA', _⟩ := own_form hown1
    have hxs : byteVals cs ++ [.int .u8 (bits .or .u8 ((m : Int) % 256) 128)] = byteVals (cs ++ [UInt8.ofNat (m % 128 + 128)]) := by rw [byteVals_append, byteVals_one, hv.out, hby'.out]
    have hown2 := Lib.hid (hxs ▸ hown1); clear hxs
    obtain ⟨hW, hK⟩ := IsW.push (bs' := cs ++ [UInt8.ofNat (m % 128 + 128)]) hlo (hb.alloc _) rfl (hown.alloc _) hg1 hown2.out (by rw [hnl.out]; simp)
    have hb1 := hb.alloc (.cells #[.int .u8 (bits .or .u8 ((m : Int) % 256) 128)] 5)
    have hb2 : Blk w1 p 144 #[.slice A k c] := (hg1.block p hb1.lt (fun e => own_ne (hown.alloc _) hb1 (by decide) e.symm)).trans hb1
    have hc2 := hb2.cell
    have hf2 := hb2.frozen
    have hK' := WS.trans hk (WS.trans (kept_alloc _ wr _) hK)
    have hkeep := Lib.hid (And.intro hW hK')
    clear hW hK hK' hb1)
   go_roundw
   case rel => exact ⟨m / 128, _, by go_num, hm2, hkeep.out.1, hkeep.out.2, by unfold Hid; rw [hH.out, hbig.out]; simp⟩
   case measure => have := h128'.out; simp [intOf]; omega
  ·have t1 : decide (128 ≤ (m : Int)) = false := decide_eq_false (by omega)
   have hbig := Lib.hid (wU_small m (by omega))
   have hv := Lib.hid (show (m : Int) % 256 = ((UInt8.ofNat m).toNat : Nat) from by rw [UInt8.toNat_ofNat']; omega)
   have hl' : cs.length + (wU m).length ≤ 1099511627776 := by have := congrArg List.length hH.out; simp only [List.length_append] at this; omega
   have hl2 : k + 1 ≤ 1099511627776 := by have := hnl.out; rw [hbig.out, List.length_singleton] at hl'; omega
   clear hl' h128
   go_wp2_with (
    at_builtin
    refine wpList_push rfl _ _ 33 rfl base 5 i0 (.int .u8 0) 1 1 Tryz.underlying33 hi hz0 hz1 hz2 rfl (by decide) (by decide) (.slice A k c) k (byteVals cs) [.int .u8 ((m : Int) % 256)] rfl (by simp [Value.oneCell']) rfl rfl hown (by omega) (by omega) ?_
    intro v' w1 hown1 hg1
    obtain ⟨A', c', rfl, hA', _⟩ := own_form hown1
    have hxs : byteVals cs ++ [.int .u8 ((m : Int) % 256)] = byteVals (cs ++ [UInt8.ofNat m]) := by rw [byteVals_append, byteVals_one, hv.out]
    have hown2 := Lib.hid (hxs ▸ hown1); clear hxs
    obtain ⟨hW, hK⟩ := IsW.push (bs' := cs ++ [UInt8.ofNat m]) hlo (hb.alloc _) rfl (hown.alloc _) hg1 hown2.out (by rw [hnl.out]; simp)
    have hb1 := hb.alloc (.cells #[.int .u8 ((m : Int) % 256)] 5)
    have hb2 : Blk w1 p 144 #[.slice A k c] := (hg1.block p hb1.lt (fun e => own_ne (hown.alloc _) hb1 (by decide) e.symm)).trans hb1
    have hc2 := hb2.cell
    have hf2 := hb2.frozen
    have hK' := WS.trans hk (WS.trans (kept_alloc _ wr _) hK)
    have hkeep := Lib.hid (And.intro hW hK')
    clear hW hK hK' hb1)
   go_end0
   refine ⟨rfl, ?_⟩
   rw [hH.out, hbig.out]
   exact hkeep.out

theorem wi_any (p base : Nat) (bs : List UInt8) (n : Int) (w : World) (hw : IsW w p base bs) (hn : -9223372036854775808 ≤ n ∧ n < 9223372036854775808) (hl : bs.length + (wI n).length ≤ 1099511627776) :
  Calls Tryz.prog 129 #[.pointer (some ⟨p, 0, none⟩), .int .i64 n] w (WPost w p base (bs ++ wI n)) := by
 go_enter Tryz.func129, Tryz.ntmps129
 have hv := Lib.hid (zig_bits n hn.1 hn.2)
 go_wp2_with fail
 simp only [hv.out]
 refine (wu_any p base bs (zig n) _ hw (zig_lt n hn.1 hn.2) hl).mono ?_
 rintro e w1 ⟨rfl, h⟩
 go_wp2_with fail
 go_end0
 exact ⟨rfl, h⟩

theorem ws_any (p base : Nat) (bs : List UInt8) (s : ByteArray) (w : World) (hw : IsW w p base bs) (hl : bs.length + (wS s.data.toList).length ≤ 1099511627776) :
  Calls Tryz.prog 128 #[.pointer (some ⟨p, 0, none⟩), .string s] w (WPost w p base (bs ++ wS s.data.toList)) := by
 obtain ⟨i0, hi, hz0, hz1, hz2⟩ := info_parts Tryz.info5
 have hsz : s.size = s.data.toList.length := (Array.length_toList (xs := s.data)).symm
 have hl2 : bs.length + (wU s.size).length + s.size ≤ 1099511627776 := by unfold wS at hl; rw [List.length_append, ← hsz] at hl; omega
 have hsz' := Lib.hid hsz; clear hsz
 have hs64 : IntKind.u64.wrap (s.size : Int) = (s.size : Int) := by rw [IntKind.wrap_u64]; omega
 go_enter Tryz.func128, Tryz.ntmps128
 go_wp2_with fail
 refine (wu_any p base bs s.size _ hw (by omega) (by omega)).mono ?_
 rintro e w1 ⟨rfl, ⟨hlo, A, c, k, hnl, hb, hown⟩, hk⟩
 have hk2 : k + s.size ≤ 1099511627776 := by have := hnl.out; rw [List.length_append] at this; omega
 have hc := hb.cell
 have hf := hb.frozen
 go_wp2_with (
  at_builtin
  refine Lib.wpList_append_own_string _ rfl _ _ 33 9 rfl base 5 i0 Tryz.underlying33 Tryz.underlying9 hi hz0 hz1 hz2 (.slice A k c) k (byteVals (bs ++ wU s.size)) rfl hown s rfl (by unfold maxLen; omega) (by omega) (by have := hb.lt; omega) ?_
  intro v' w2 hown1 hg1 _
  obtain ⟨A', c', rfl, hA', _⟩ := own_form hown1
  have hxs : byteVals (bs ++ wU s.size) ++ Lib.strCells s = byteVals (bs ++ wS s.data.toList) := by
   have : Lib.strCells s = byteVals s.data.toList := rfl
   rw [this, ← byteVals_append]; unfold wS; rw [← hsz'.out, List.append_assoc]
  have hown2 := Lib.hid (hxs ▸ hown1); clear hxs
  obtain ⟨hW, hK⟩ := IsW.push (bs' := bs ++ wS s.data.toList) hlo hb rfl hown hg1 hown2.out (by rw [hnl.out]; unfold wS; rw [← hsz'.out]; simp only [List.length_append]; rw [← hsz'.out]; omega)
  have hb2 : Blk w2 p 144 #[.slice A k c] := (hg1.block p hb.lt (fun e => own_ne hown hb (by decide) e.symm)).trans hb
  have hc2 := hb2.cell
  have hf2 := hb2.frozen
  have hK' := WS.trans hk hK
  have hkeep := Lib.hid (And.intro hW hK')
  clear hW hK hK')
 go_end0
 exact ⟨rfl, hkeep.out⟩

def placeByte (k t : Nat) : UInt8 := UInt8.ofNat (k / 256 ^ (7 - t))
def placeTo (k t : Nat) : List UInt8 := (List.range t).map (placeByte k)
theorem placeTo_succ (k t : Nat) : placeTo k (t + 1) = placeTo k t ++ [placeByte k t] := by unfold placeTo; rw [List.range_succ, List.map_append]; rfl
theorem placeTo_length (k t : Nat) : (placeTo k t).length = t := by unfold placeTo; simp
theorem placeTo_all (k : Nat) : placeTo k 8 = wPlace k := by
 unfold placeTo wPlace placeByte
 simp [List.range_succ]

theorem step_push {P : Program} {w0 : World} {ops : Array Oper} {o : Oper} {a : Act} {K : Act → World → Prop} {Q : Exit → Act → World → Prop} {E : Prop} (hgd : o.guard = none) (s x : Operand) (t : TypeId)
  (ho : o.op = .call { callee := .builtin .append, args := #[s, x], argTypes := #[t, t] })
  (base : Nat) (e : TypeId) (i : TypeInfo) (z : Value) (size bytes : Nat) (ht : P.underlying t = some (.slice e)) (hi : P.info? e = some i) (hz : i.zero = some z)
  (hsize : i.size = size) (hby : i.bytes = bytes) (hzs : z.cells.size = size) (hsz : 0 < size) (hbpos : 0 < bytes)
  (v : Value) (n : Nat) (xs : List Value) (l : List Value) (hl : l.length = size) (h1 : ∀ u ∈ l, u.oneCell' = true)
  (hs : a.eval s = v) (hx : a.eval x = .slice (some ⟨w0.heap.size, 0, none⟩) 1 1)
  (hown : w0.ownsRow base e size v n xs) (hbytes : (n + 1) * bytes ≤ 140737488355328) (hbase : base ≤ w0.heap.size)
  (h : ∀ v' w', w'.ownsRow base e size v' (n + 1) (xs ++ l) → ((w0.alloc (.cells l.toArray e)).drew).grownBy w' v.ownBlock → K (a.put o.dst v') w') :
  if Region.wanted o (yielded ops a.tmps) = true then Oper.wp P o a (w0.alloc (.cells l.toArray e)).drew K Q else E := by
 have h63 : n + 1 ≤ maxLen := by
  have : n + 1 ≤ (n + 1) * bytes := Nat.le_mul_of_pos_right _ hbpos
  simp only [maxLen]; omega
 refine step_append_lies _ hgd s x t ho base e i z size bytes ht hi hz hsize hby hzs hsz v n xs hs (hown.alloc _).drew ⟨w0.heap.size, 0, none⟩ 1 1 l hx (by omega) ?_ h1 (by omega) h63 hbytes (by simp [World.drew]; omega) _ rfl fun g cap w' h2 h3 _ _ => h _ w' h2 h3
 intro j u hj
 have e2 : (⟨w0.heap.size, 0, none⟩ : Addr).add j = ⟨w0.heap.size, j, none⟩ := by unfold Addr.add; split <;> simp_all
 rw [e2]
 have := (Blk.new w0 e l.toArray).drew.cell j
 rw [this]
 simpa using hj
theorem place_cell (k t : Nat) (h : t < 8) : IntKind.u8.wrap ((k : Int) / 2 ^ (56 - 8 * (t : Int)).toNat) = ((placeByte k t).toNat : Nat) := by
 unfold placeByte
 rw [UInt8.toNat_ofNat', show (56 - 8 * (t : Int)).toNat = 8 * (7 - t) from by omega]
 have : (2 : Int) ^ (8 * (7 - t)) = ((256 ^ (7 - t) : Nat) : Int) := by rw [Int.natCast_pow, Int.pow_mul]; rfl
 rw [this]
 have e : IntKind.u8.wrap = fun n : Int => n % 256 := by funext n; simp [IntKind.wrap, IntKind.bits, IntKind.signed]
 rw [e]
 show ((k : Int) / _) % 256 = _
 rw [← Int.natCast_ediv]
 generalize k / 256 ^ (7 - t) = q
 omega

set_option maxHeartbeats 800000 in
theorem wf_any (p base : Nat) (bs : List UInt8) (x : Nat) (hx : x < 18446744073709551616) (w : World) (hw : IsW w p base bs) (hl : bs.length + 8 ≤ 1099511627776) :
  Calls Tryz.prog 130 #[.pointer (some ⟨p, 0, none⟩), .float .f64 x] w (WPost w p base (bs ++ wF x)) := by
 obtain ⟨i0, hi, hz0, hz1, hz2⟩ := info_parts Tryz.info5
 have hk64 := fkey_lt x hx
 go_enter Tryz.func130, Tryz.ntmps130
 go_wp2_with fail
 refine (key_any x hx _).mono ?_; rintro e w' ⟨rfl, rfl⟩
 have hwF : Hid (wF x = placeTo (fkey x) 8) := (placeTo_all _).symm
 generalize fkey x = k at *
 go_wp2_with fail
 go_loopw [5] (fun v wr => ∃ (t : Nat), t ≤ 8 ∧ v = .int .i64 (56 - 8 * (t : Nat)) ∧ IsW wr p base (bs ++ placeTo k t) ∧ Kept (WS w base p) w wr) (fun v _ => (8 + intOf v).toNat)
 case atStart => exact ⟨0, by omega, rfl, by simpa [placeTo] using hw, Kept.refl _ _⟩
 case round =>
  obtain ⟨t, ht, rfl, hw', hk⟩ := hrel
  obtain ⟨hlo, A, c, n, hnl, hb, hown⟩ := hw'
  have hc := hb.cell
  have hf := hb.frozen
  have hlt := hb.lt
  by_cases h8 : t < 8
  ·have t1 : decide ((0 : Int) ≤ 56 - 8 * (t : Int)) = true := decide_eq_true (by omega)
   have h8' := Lib.hid h8
   have hn2 : n + 1 ≤ 1099511627776 := by have := hnl.out; rw [List.length_append, placeTo_length] at this; omega
   have hv := Lib.hid (place_cell k t h8)
   go_wp2_with fail
   go_region_law (
    refine step_push rfl _ _ 33 rfl base 5 i0 (.int .u8 0) 1 1 Tryz.underlying33 hi hz0 hz1 hz2 rfl (by decide) (by decide) (.slice A n c) n _ [.int .u8 (IntKind.u8.wrap ((k : Int) / 2 ^ (56 - 8 * (t : Int)).toNat))] rfl (by simp [Value.oneCell']) rfl rfl hown (by omega) (by omega) ?_
    intro v' w1 hown1 hg1
    obtain ⟨A', c', rfl, hA', _⟩ := own_form hown1
    have hxs : byteVals (bs ++ placeTo k t) ++ [.int .u8 (IntKind.u8.wrap ((k : Int) / 2 ^ (56 - 8 * (t : Int)).toNat))] = byteVals (bs ++ placeTo k (t + 1)) := by rw [placeTo_succ, ← List.append_assoc, byteVals_append (bs ++ placeTo k t), byteVals_one, hv.out]
    have hown2 := Lib.hid (hxs ▸ hown1); clear hxs
    have hb1 := (hb.alloc (.cells #[.int .u8 (IntKind.u8.wrap ((k : Int) / 2 ^ (56 - 8 * (t : Int)).toNat))] 5)).drew
    obtain ⟨hW, hK⟩ := IsW.push (bs' := bs ++ placeTo k (t + 1)) hlo hb1 rfl (hown.alloc _).drew hg1 hown2.out (by rw [hnl.out, placeTo_succ]; simp; omega)
    have hb2 : Blk w1 p 144 #[.slice A n c] := (hg1.block p hb1.lt (fun e => own_ne (hown.alloc _).drew hb1 (by decide) e.symm)).trans hb1
    have hc2 := hb2.cell
    have hf2 := hb2.frozen
    have hK' := WS.trans hk (WS.trans (kept_alloc _ wr _).drew hK)
    have hkeep := Lib.hid (And.intro hW hK')
    clear hW hK hK' hb1)
   go_wp2_with fail
   all_goals
    refine ⟨⟨t + 1, h8'.out, congrArg (Value.int .i64) (by omega), hkeep.out⟩, ?_⟩
    have := h8'.out; simp [intOf]; omega
  ·obtain rfl : t = 8 := by omega
   have t1 : decide ((0 : Int) ≤ 56 - 8 * ((8 : Nat) : Int)) = false := by decide
   go_wp2_with fail
   go_end0
   exact ⟨rfl, by rw [hwF.out]; exact ⟨hlo, A, c, n, hnl, hb, hown⟩, hk⟩

theorem bytes_any (p base : Nat) (bs : List UInt8) (w : World) (hw : IsW w p base bs) (hl : bs.length ≤ 1099511627776) :
  Calls Tryz.prog 86 #[.pointer (some ⟨p, 0, none⟩)] w fun e w' => ∃ A c n, Hid (n = bs.length) ∧ e = .returned (.slice A n c) ∧ w'.ownsRow w.heap.size 5 1 (.slice A n c) n (byteVals bs) ∧ Cln w w' := by
 obtain ⟨i0, hi, hz0, hz1, hz2⟩ := info_parts Tryz.info5
 obtain ⟨hlo, A, c, n, hnl, hb, hown⟩ := hw
 have hc := hb.cell
 have hn : n ≤ 1099511627776 := by have := hnl.out; omega
 obtain ⟨hsrc, hnone⟩ := own_src hown
 have hsrc' := Lib.hid hsrc; have hnone' := Lib.hid hnone; clear hsrc hnone
 go_enter Tryz.func86, Tryz.ntmps86
 go_wp2_with (
  at_builtin
  refine wpList_cat rfl _ _ 33 rfl w.heap.size 5 i0 (.int .u8 0) 1 1 Tryz.underlying33 hi hz0 hz1 hz2 rfl (by decide) (by decide) (.slice none 0 0) 0 [] A n c (byteVals bs) (by rw [byteVals_length, hnl.out]; omega) (byteVals_one_cell bs) hsrc'.out hnone'.out rfl rfl (World.ownsRow_nil w w.heap.size 5 1) (by omega) (Nat.le_refl _) ?_
  intro v' w1 hown1 hg1
  rw [Nat.zero_add, List.nil_append] at hown1
  obtain ⟨A', c', rfl, hA', _⟩ := own_form hown1
  have hkeep := Lib.hid (And.intro hown1 ((Below.refl w.heap.size w).grown hg1 (Nat.le_refl _) (fun k hk => by simp [Value.ownBlock] at hk)))
  clear hown1 hg1 hA')
 go_ret
 exact ⟨A', c', n, hnl, rfl, hkeep.out⟩
theorem wflag_one (x : UInt8) (yes : Bool) (hx : x = if yes then 1 else 0) (p base : Nat) (bs : List UInt8) (w : World) (hw : IsW w p base bs) (hl : bs.length + 1 ≤ 1099511627776) :
  Calls Tryz.prog 127 #[.pointer (some ⟨p, 0, none⟩), .bool yes] w (WPost w p base (bs ++ [x])) := by
 obtain ⟨i0, hi, hz0, hz1, hz2⟩ := info_parts Tryz.info5
 obtain ⟨hlo, A, c, k, hnl, hb, hown⟩ := hw
 have hc := hb.cell
 have hf := hb.frozen
 have hlt := hb.lt
 have hl2 : k + 1 ≤ 1099511627776 := by have := hnl.out; omega
 have hxs0 : Hid (byteVals bs ++ [.int .u8 ((x.toNat : Nat) : Int)] = byteVals (bs ++ [x])) := by unfold Hid; rw [byteVals_append, byteVals_one]
 cases yes with
 | true =>
  obtain rfl : x = 1 := hx
  go_enter Tryz.func127, Tryz.ntmps127
  go_wp2_with (
   at_builtin
   refine wpList_push rfl _ _ 33 rfl base 5 i0 (.int .u8 0) 1 1 Tryz.underlying33 hi hz0 hz1 hz2 rfl (by decide) (by decide) (.slice A k c) k (byteVals bs) [.int .u8 1] rfl (by simp [Value.oneCell']) rfl rfl hown (by omega) (by omega) ?_
   intro v' w1 hown1 hg1
   obtain ⟨A', c', rfl, hA', _⟩ := own_form hown1
   have hown2 := Lib.hid (show w1.ownsRow base 5 1 (.slice A' (k + 1) c') (k + 1) (byteVals (bs ++ [1])) from hxs0.out ▸ hown1)
   obtain ⟨hW, hK⟩ := IsW.push (bs' := bs ++ [1]) hlo (hb.alloc _) rfl (hown.alloc _) hg1 hown2.out (by rw [hnl.out]; simp)
   have hb1 := hb.alloc (.cells #[.int .u8 1] 5)
   have hb2 : Blk w1 p 144 #[.slice A k c] := (hg1.block p hb1.lt (fun e => own_ne (hown.alloc _) hb1 (by decide) e.symm)).trans hb1
   have hc2 := hb2.cell
   have hf2 := hb2.frozen
   have hK' := WS.trans (kept_alloc _ w _) hK
   have hkeep := Lib.hid (And.intro hW hK')
   clear hW hK hK' hb1)
  go_end0
  exact ⟨rfl, hkeep.out⟩
 | false =>
  obtain rfl : x = 0 := hx
  go_enter Tryz.func127, Tryz.ntmps127
  go_wp2_with (
   at_builtin
   refine wpList_push rfl _ _ 33 rfl base 5 i0 (.int .u8 0) 1 1 Tryz.underlying33 hi hz0 hz1 hz2 rfl (by decide) (by decide) (.slice A k c) k (byteVals bs) [.int .u8 0] rfl (by simp [Value.oneCell']) rfl rfl hown (by omega) (by omega) ?_
   intro v' w1 hown1 hg1
   obtain ⟨A', c', rfl, hA', _⟩ := own_form hown1
   have hown2 := Lib.hid (show w1.ownsRow base 5 1 (.slice A' (k + 1) c') (k + 1) (byteVals (bs ++ [0])) from hxs0.out ▸ hown1)
   obtain ⟨hW, hK⟩ := IsW.push (bs' := bs ++ [0]) hlo (hb.alloc _) rfl (hown.alloc _) hg1 hown2.out (by rw [hnl.out]; simp)
   have hb1 := hb.alloc (.cells #[.int .u8 0] 5)
   have hb2 : Blk w1 p 144 #[.slice A k c] := (hg1.block p hb1.lt (fun e => own_ne (hown.alloc _) hb1 (by decide) e.symm)).trans hb1
   have hc2 := hb2.cell
   have hf2 := hb2.frozen
   have hK' := WS.trans (kept_alloc _ w _) hK
   have hkeep := Lib.hid (And.intro hW hK')
   clear hW hK hK' hb1)
  go_end0
  exact ⟨rfl, hkeep.out⟩
theorem wflag_any (yes : Bool) (p base : Nat) (bs : List UInt8) (w : World) (hw : IsW w p base bs) (hl : bs.length + 1 ≤ 1099511627776) :
  Calls Tryz.prog 127 #[.pointer (some ⟨p, 0, none⟩), .bool yes] w (WPost w p base (bs ++ wFlag yes)) := wflag_one _ yes rfl p base bs w hw hl
end Go.Proofs.YtbemnfbndjolpaaGreatDoor
