/- The walks of pack's Writer. -/
import Derived.Test.YtocllhghbmbjpaaDoorWFlo
import Derived.Test.YtocllhghbmbjpaaDoorMem
import Derived.Test.YtocllhghbmbjpaaDoorPlain
import Derived.Lib.AppendStr
set_option linter.unusedSimpArgs false
set_option linter.unusedVariables false
set_option maxRecDepth 20000
namespace Go.Proofs.YtocllhghbmbjpaaDoor
open Go.RowKit Moi

/-- What a Writer's calls may turn: its block, and rows of bytes from base on. -/
def WS (w : World) (base p : Nat) (k : Nat) : Prop := k = p ∨ (base ≤ k ∧ ∃ cs, w.heap[k]? = some (.cells cs 5 (0, 0)))
theorem WS.trans {w w1 w2 : World} {base p : Nat} (h : Kept (WS w base p) w w1) (k : Kept (WS w1 base p) w1 w2) : Kept (WS w base p) w w2 :=
  h.then_ k fun i hi h2 => by
    rcases h2 with h2 | ⟨hb, cs, h2⟩
    · exact .inl h2
    · rcases Classical.em (WS w base p i) with h3 | h3
      · exact h3
      · exact .inr ⟨hb, cs, (h.block i hi h3) ▸ h2⟩
theorem WS.not {w : World} {base p g : Nat} {t : TypeId} {cs : Array Value} (hb : Blk w g t cs) (hne : g ≠ p) (ht : t ≠ 5) : ¬ WS w base p g := by
  rintro (h | ⟨_, cs', h⟩)
  · exact hne h
  · exact hb.ne_ (g' := g) (cs' := cs') h ht rfl
theorem WS.not_lt {w : World} {base p g : Nat} (hb : g < base) (hp : base ≤ p) : ¬ WS w base p g := by
  rintro (h | ⟨h, _⟩) <;> omega

/-- A Writer at block p; what was written. -/
structure IsW (w : World) (p base : Nat) (bs : List UInt8) : Prop where
  lo : base ≤ p
  ex : ∃ A c k, Hid (k = bs.length) ∧ Blk w p 50 #[.slice A k c] ∧ w.ownsRow base 5 1 (.slice A k c) k (byteVals bs)
def WPost (w : World) (p base : Nat) (bs : List UInt8) (e : Ending) (w' : World) : Prop := e = .returned (.tuple #[]) ∧ IsW w' p base bs ∧ Kept (WS w base p) w w'

theorem Tryd.info5 : (Tryd.prog.info? 5).map (fun i => (i.zero, i.size, i.bytes)) = some (some (.int .u8 0), 1, 1) := by kernel_rfl

theorem IsW.push {W w1 : World} {p base : Nat} {cs0 : Array Value} {v v' : Value} {n N : Nat} {xs : List Value} {bs' : List UInt8} (hlo : base ≤ p) (hb : Blk W p 50 cs0) (hz : cs0.size = 1)
    (hown : W.ownsRow base 5 1 v n xs) (hg : W.grownBy w1 v.ownBlock) (hown' : w1.ownsRow base 5 1 v' N (byteVals bs')) (hN : N = bs'.length) :
    IsW (w1.setCell ⟨p, 0, none⟩ v') p base bs' ∧ Kept (WS W base p) W (w1.setCell ⟨p, 0, none⟩ v') := by
  subst hN
  obtain ⟨A, c, rfl, hA, hc, _⟩ := own_form hown'
  have hne := own_ne hown hb (by decide)
  have hb1 : Blk w1 p 50 cs0 := (hg.block p hb.lt (fun e => hne e.symm)).trans hb
  have hne' := own_ne hown' hb1 (by decide)
  refine ⟨⟨hlo, A, c, _, rfl, ?_, ownsRow_setCell_other hown' (a := ⟨p, 0, none⟩) hne' _⟩, ?_⟩
  · have := hb1.set_ 0 (.slice A bs'.length c)
    rcases cs0 with ⟨l⟩
    match l, hz with
    | [x], _ => exact this
  · refine ((Kept.refl _ W).grown hg ?_).setCell (fun _ => .inl rfl) _
    intro k hk _
    rcases hown.2 with ⟨rfl, _⟩ | ⟨g', cap, cur, rfl, hbg, hh, _⟩
    · simp [Value.ownBlock] at hk
    · have : g' = k := by simpa [Value.ownBlock] using hk
      subst this
      exact .inr ⟨hbg, cur, hh⟩
theorem IsW.kept {w w' : World} {p base : Nat} {bs : List UInt8} {S : Nat → Prop} (h : IsW w p base bs) (k : Kept S w w') (hp : ¬ S p) (hS : ∀ g cs, base ≤ g → w.heap[g]? = some (.cells cs 5 (0, 0)) → ¬ S g) : IsW w' p base bs := by
  obtain ⟨hlo, A, c, n, hnl, hb, hown⟩ := h
  refine ⟨hlo, A, c, n, hnl, hb.kept k hp, hown.1, ?_⟩
  rcases hown.2 with h1 | ⟨g, cap, cur, hv, hg, hh, r⟩
  · exact .inl h1
  · exact .inr ⟨g, cap, cur, hv, hg, k.heap hh (hS g cur hg hh), r⟩
theorem IsW.cln {w w' : World} {p base : Nat} {bs : List UInt8} (h : IsW w p base bs) (k : Cln w w') : IsW w' p base bs :=
  h.kept (Kept.of_below (S := fun _ => False) k) (fun h => h) fun _ _ _ _ h => h
theorem IsW.drewN {w : World} {p base : Nat} {bs : List UInt8} (h : IsW w p base bs) (n : Nat) : IsW (w.drewN n) p base bs := h.cln ⟨rfl, rfl, rfl, Nat.le_refl _, fun _ _ => rfl⟩
theorem kept_alloc (S : Nat → Prop) (w : World) (o : Obj) : Kept S w (w.alloc o) := (Kept.refl S w).alloc o
theorem byteVals_one (b : UInt8) : byteVals [b] = [.int .u8 (b.toNat : Nat)] := rfl
theorem wU_small (n : Nat) (h : n < 128) : wU n = [UInt8.ofNat n] := by rw [wU, if_pos h]
theorem wU_big (n : Nat) (h : 128 ≤ n) : wU n = UInt8.ofNat (n % 128 + 128) :: wU (n / 128) := by rw [wU, if_neg (by omega)]

theorem wu_any (p base : Nat) (bs : List UInt8) (n : Nat) (w : World) (hw : IsW w p base bs) (hn : n < 18446744073709551616) (hl : bs.length + (wU n).length ≤ 1099511627776) :
    Calls Tryd.prog 51 #[.pointer (some ⟨p, 0, none⟩), .int .u64 (n : Nat)] w (WPost w p base (bs ++ wU n)) := by
  obtain ⟨i0, hi, hz0, hz1, hz2⟩ := info_parts Tryd.info5
  go_enter Tryd.func51, Tryd.ntmps51
  go_wp2_with fail
  go_loopw [1] (fun v wr => ∃ (m : Nat) (cs : List UInt8), v = .int .u64 (m : Nat) ∧ m < 18446744073709551616 ∧ IsW wr p base cs ∧ Kept (WS w base p) w wr ∧ Hid (bs ++ wU n = cs ++ wU m)) (fun v _ => (intOf v).toNat)
  case atStart => exact ⟨n, bs, rfl, hn, hw, Kept.refl _ _, rfl⟩
  case round =>
    obtain ⟨m, cs, rfl, hm, hw', hk, hH⟩ := hrel
    obtain ⟨hlo, A, c, k, hnl, hb, hown⟩ := hw'
    have hc := hb.cell
    have hf := hb.frozen
    have hlt := hb.lt
    by_cases h128 : 128 ≤ m
    · have t1 : decide (128 ≤ (m : Int)) = true := decide_eq_true (by omega)
      have hv := Lib.hid (orHigh m)
      have hbig := Lib.hid (wU_big m h128)
      have hl' : cs.length + (wU m).length ≤ 1099511627776 := by have := congrArg List.length hH.out; simp only [List.length_append] at this; omega
      have hl2 : k + 1 ≤ 1099511627776 := by have := hnl.out; rw [hbig.out, List.length_cons] at hl'; omega
      have h128' := Lib.hid h128
      clear hl' h128
      have hm2 : m / 128 < 18446744073709551616 := by omega
      have hby : (UInt8.ofNat (m % 128 + 128)).toNat = m % 128 + 128 := by rw [UInt8.toNat_ofNat']; omega
      have hby' := Lib.hid hby; clear hby
      go_wp2_with (
        at_builtin
        refine wpList_push rfl _ _ 38 rfl base 5 i0 (.int .u8 0) 1 1 Tryd.underlying38 hi hz0 hz1 hz2 rfl (by decide) (by decide) (.slice A k c) k (byteVals cs) [.int .u8 (bits .or .u8 ((m : Int) % 256) 128)] rfl (by simp [Value.oneCell']) rfl rfl hown (by omega) (by omega) ?_
        intro v' w1 hown1 hg1
        obtain ⟨A', c', rfl, hA', _⟩ := own_form hown1
        have hxs : byteVals cs ++ [.int .u8 (bits .or .u8 ((m : Int) % 256) 128)] = byteVals (cs ++ [UInt8.ofNat (m % 128 + 128)]) := by rw [byteVals_append, byteVals_one, hv.out, hby'.out]
        have hown2 := Lib.hid (hxs ▸ hown1); clear hxs
        obtain ⟨hW, hK⟩ := IsW.push (bs' := cs ++ [UInt8.ofNat (m % 128 + 128)]) hlo (hb.alloc _) rfl (hown.alloc _) hg1 hown2.out (by rw [hnl.out]; simp)
        have hb1 := hb.alloc (.cells #[.int .u8 (bits .or .u8 ((m : Int) % 256) 128)] 5)
        have hb2 : Blk w1 p 50 #[.slice A k c] := (hg1.block p hb1.lt (fun e => own_ne (hown.alloc _) hb1 (by decide) e.symm)).trans hb1
        have hc2 := hb2.cell
        have hf2 := hb2.frozen
        have hK' := WS.trans hk (WS.trans (kept_alloc _ wr _) hK)
        have hkeep := Lib.hid (And.intro hW hK')
        clear hW hK hK' hb1)
      go_roundw
      case rel => exact ⟨m / 128, _, by go_num, hm2, hkeep.out.1, hkeep.out.2, by unfold Hid; rw [hH.out, hbig.out]; simp⟩
      case measure => have := h128'.out; simp [intOf]; omega
    · have t1 : decide (128 ≤ (m : Int)) = false := decide_eq_false (by omega)
      have hbig := Lib.hid (wU_small m (by omega))
      have hv := Lib.hid (show (m : Int) % 256 = ((UInt8.ofNat m).toNat : Nat) from by rw [UInt8.toNat_ofNat']; omega)
      have hl' : cs.length + (wU m).length ≤ 1099511627776 := by have := congrArg List.length hH.out; simp only [List.length_append] at this; omega
      have hl2 : k + 1 ≤ 1099511627776 := by have := hnl.out; rw [hbig.out, List.length_singleton] at hl'; omega
      clear hl' h128
      go_wp2_with (
        at_builtin
        refine wpList_push rfl _ _ 38 rfl base 5 i0 (.int .u8 0) 1 1 Tryd.underlying38 hi hz0 hz1 hz2 rfl (by decide) (by decide) (.slice A k c) k (byteVals cs) [.int .u8 ((m : Int) % 256)] rfl (by simp [Value.oneCell']) rfl rfl hown (by omega) (by omega) ?_
        intro v' w1 hown1 hg1
        obtain ⟨A', c', rfl, hA', _⟩ := own_form hown1
        have hxs : byteVals cs ++ [.int .u8 ((m : Int) % 256)] = byteVals (cs ++ [UInt8.ofNat m]) := by rw [byteVals_append, byteVals_one, hv.out]
        have hown2 := Lib.hid (hxs ▸ hown1); clear hxs
        obtain ⟨hW, hK⟩ := IsW.push (bs' := cs ++ [UInt8.ofNat m]) hlo (hb.alloc _) rfl (hown.alloc _) hg1 hown2.out (by rw [hnl.out]; simp)
        have hb1 := hb.alloc (.cells #[.int .u8 ((m : Int) % 256)] 5)
        have hb2 : Blk w1 p 50 #[.slice A k c] := (hg1.block p hb1.lt (fun e => own_ne (hown.alloc _) hb1 (by decide) e.symm)).trans hb1
        have hc2 := hb2.cell
        have hf2 := hb2.frozen
        have hK' := WS.trans hk (WS.trans (kept_alloc _ wr _) hK)
        have hkeep := Lib.hid (And.intro hW hK')
        clear hW hK hK' hb1)
      go_end0
      refine ⟨rfl, ?_⟩
      rw [hH.out, hbig.out]
      exact hkeep.out

theorem wi_any (p base : Nat) (bs : List UInt8) (n : Int) (w : World) (hw : IsW w p base bs) (hn : -9223372036854775808 ≤ n ∧ n < 9223372036854775808) (hl : bs.length + (wI n).length ≤ 1099511627776) :
    Calls Tryd.prog 54 #[.pointer (some ⟨p, 0, none⟩), .int .i64 n] w (WPost w p base (bs ++ wI n)) := by
  go_enter Tryd.func54, Tryd.ntmps54
  have hv := Lib.hid (zig_bits n hn.1 hn.2)
  go_wp2_with fail
  simp only [hv.out]
  refine (wu_any p base bs (zig n) _ hw (zig_lt n hn.1 hn.2) hl).mono ?_
  rintro e w1 ⟨rfl, h⟩
  go_wp2_with fail
  go_end0
  exact ⟨rfl, h⟩

theorem ws_any (p base : Nat) (bs : List UInt8) (s : ByteArray) (w : World) (hw : IsW w p base bs) (hl : bs.length + (wS s.data.toList).length ≤ 1099511627776) :
    Calls Tryd.prog 53 #[.pointer (some ⟨p, 0, none⟩), .string s] w (WPost w p base (bs ++ wS s.data.toList)) := by
  obtain ⟨i0, hi, hz0, hz1, hz2⟩ := info_parts Tryd.info5
  have hsz : s.size = s.data.toList.length := (Array.length_toList (xs := s.data)).symm
  have hl2 : bs.length + (wU s.size).length + s.size ≤ 1099511627776 := by unfold wS at hl; rw [List.length_append, ← hsz] at hl; omega
  have hsz' := Lib.hid hsz; clear hsz
  have hs64 : IntKind.u64.wrap (s.size : Int) = (s.size : Int) := by rw [IntKind.wrap_u64]; omega
  go_enter Tryd.func53, Tryd.ntmps53
  go_wp2_with fail
  refine (wu_any p base bs s.size _ hw (by omega) (by omega)).mono ?_
  rintro e w1 ⟨rfl, ⟨hlo, A, c, k, hnl, hb, hown⟩, hk⟩
  have hk2 : k + s.size ≤ 1099511627776 := by have := hnl.out; rw [List.length_append] at this; omega
  have hc := hb.cell
  have hf := hb.frozen
  go_wp2_with (
    at_builtin
    refine Lib.wpList_append_own_string _ rfl _ _ 38 9 rfl base 5 i0 Tryd.underlying38 Tryd.underlying9 hi hz0 hz1 hz2 (.slice A k c) k (byteVals (bs ++ wU s.size)) rfl hown s rfl (by unfold maxLen; omega) (by omega) (by have := hb.lt; omega) ?_
    intro v' w2 hown1 hg1 _
    obtain ⟨A', c', rfl, hA', _⟩ := own_form hown1
    have hxs : byteVals (bs ++ wU s.size) ++ Lib.strCells s = byteVals (bs ++ wS s.data.toList) := by
      have : Lib.strCells s = byteVals s.data.toList := rfl
      rw [this, ← byteVals_append]; unfold wS; rw [← hsz'.out, List.append_assoc]
    have hown2 := Lib.hid (hxs ▸ hown1); clear hxs
    obtain ⟨hW, hK⟩ := IsW.push (bs' := bs ++ wS s.data.toList) hlo hb rfl hown hg1 hown2.out (by rw [hnl.out]; unfold wS; rw [← hsz'.out]; simp only [List.length_append]; rw [← hsz'.out]; omega)
    have hb2 : Blk w2 p 50 #[.slice A k c] := (hg1.block p hb.lt (fun e => own_ne hown hb (by decide) e.symm)).trans hb
    have hc2 := hb2.cell
    have hf2 := hb2.frozen
    have hK' := WS.trans hk hK
    have hkeep := Lib.hid (And.intro hW hK')
    clear hW hK hK')
  go_end0
  exact ⟨rfl, hkeep.out⟩
end Go.Proofs.YtocllhghbmbjpaaDoor
