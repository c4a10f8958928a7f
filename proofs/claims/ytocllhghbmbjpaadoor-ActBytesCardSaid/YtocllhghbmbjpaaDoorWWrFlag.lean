/- The walk of pack's Writer.Flag. -/
import Derived.Test.YtocllhghbmbjpaaDoorWWr
set_option linter.unusedSimpArgs false
set_option linter.unusedVariables false
set_option maxRecDepth 20000
namespace Go.Proofs.YtocllhghbmbjpaaDoor
open Go.RowKit Moi
theorem wflag_one (x : UInt8) (yes : Bool) (hx : x = if yes then 1 else 0) (p base : Nat) (bs : List UInt8) (w : World) (hw : IsW w p base bs) (hl : bs.length + 1 ≤ 1099511627776) :
    Calls Tryd.prog 52 #[.pointer (some ⟨p, 0, none⟩), .bool yes] w (WPost w p base (bs ++ [x])) := by
  obtain ⟨i0, hi, hz0, hz1, hz2⟩ := info_parts Tryd.info5
  obtain ⟨hlo, A, c, k, hnl, hb, hown⟩ := hw
  have hc := hb.cell
  have hf := hb.frozen
  have hlt := hb.lt
  have hl2 : k + 1 ≤ 1099511627776 := by have := hnl.out; omega
  have hxs0 : Hid (byteVals bs ++ [.int .u8 ((x.toNat : Nat) : Int)] = byteVals (bs ++ [x])) := by unfold Hid; rw [byteVals_append, byteVals_one]
  cases yes with
  | true =>
    obtain rfl : x = 1 := hx
    go_enter Tryd.func52, Tryd.ntmps52
    go_wp2_with (
      at_builtin
      refine wpList_push rfl _ _ 38 rfl base 5 i0 (.int .u8 0) 1 1 Tryd.underlying38 hi hz0 hz1 hz2 rfl (by decide) (by decide) (.slice A k c) k (byteVals bs) [.int .u8 1] rfl (by simp [Value.oneCell']) rfl rfl hown (by omega) (by omega) ?_
      intro v' w1 hown1 hg1
      obtain ⟨A', c', rfl, hA', _⟩ := own_form hown1
      have hown2 := Lib.hid (show w1.ownsRow base 5 1 (.slice A' (k + 1) c') (k + 1) (byteVals (bs ++ [1])) from hxs0.out ▸ hown1)
      obtain ⟨hW, hK⟩ := IsW.push (bs' := bs ++ [1]) hlo (hb.alloc _) rfl (hown.alloc _) hg1 hown2.out (by rw [hnl.out]; simp)
      have hb1 := hb.alloc (.cells #[.int .u8 1] 5)
      have hb2 : Blk w1 p 50 #[.slice A k c] := (hg1.block p hb1.lt (fun e => own_ne (hown.alloc _) hb1 (by decide) e.symm)).trans hb1
      have hc2 := hb2.cell
      have hf2 := hb2.frozen
      have hK' := WS.trans (kept_alloc _ w _) hK
      have hkeep := Lib.hid (And.intro hW hK')
      clear hW hK hK' hb1)
    go_end0
    exact ⟨rfl, hkeep.out⟩
  | false =>
    obtain rfl : x = 0 := hx
    go_enter Tryd.func52, Tryd.ntmps52
    go_wp2_with (
      at_builtin
      refine wpList_push rfl _ _ 38 rfl base 5 i0 (.int .u8 0) 1 1 Tryd.underlying38 hi hz0 hz1 hz2 rfl (by decide) (by decide) (.slice A k c) k (byteVals bs) [.int .u8 0] rfl (by simp [Value.oneCell']) rfl rfl hown (by omega) (by omega) ?_
      intro v' w1 hown1 hg1
      obtain ⟨A', c', rfl, hA', _⟩ := own_form hown1
      have hown2 := Lib.hid (show w1.ownsRow base 5 1 (.slice A' (k + 1) c') (k + 1) (byteVals (bs ++ [0])) from hxs0.out ▸ hown1)
      obtain ⟨hW, hK⟩ := IsW.push (bs' := bs ++ [0]) hlo (hb.alloc _) rfl (hown.alloc _) hg1 hown2.out (by rw [hnl.out]; simp)
      have hb1 := hb.alloc (.cells #[.int .u8 0] 5)
      have hb2 : Blk w1 p 50 #[.slice A k c] := (hg1.block p hb1.lt (fun e => own_ne (hown.alloc _) hb1 (by decide) e.symm)).trans hb1
      have hc2 := hb2.cell
      have hf2 := hb2.frozen
      have hK' := WS.trans (kept_alloc _ w _) hK
      have hkeep := Lib.hid (And.intro hW hK')
      clear hW hK hK' hb1)
    go_end0
    exact ⟨rfl, hkeep.out⟩
theorem wflag_any (yes : Bool) (p base : Nat) (bs : List UInt8) (w : World) (hw : IsW w p base bs) (hl : bs.length + 1 ≤ 1099511627776) :
    Calls Tryd.prog 52 #[.pointer (some ⟨p, 0, none⟩), .bool yes] w (WPost w p base (bs ++ wFlag yes)) := wflag_one _ yes rfl p base bs w hw hl
end Go.Proofs.YtocllhghbmbjpaaDoor
