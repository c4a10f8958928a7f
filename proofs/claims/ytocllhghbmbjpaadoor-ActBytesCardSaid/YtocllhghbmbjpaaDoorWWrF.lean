/- The walk of pack's Writer.F and Bytes. -/
import Derived.Test.YtocllhghbmbjpaaDoorWWr
import Derived.Deep.RegionLaw
import Derived.Deep.AppendLies
import Derived.Deep.RegionHeld3
set_option linter.unusedSimpArgs false
set_option linter.unusedVariables false
set_option maxRecDepth 20000
namespace Go.Proofs.YtocllhghbmbjpaaDoor
open Go.RowKit Moi

/-- The t-th byte of a place, the highest first. -/
def placeByte (k t : Nat) : UInt8 := UInt8.ofNat (k / 256 ^ (7 - t))
def placeTo (k t : Nat) : List UInt8 := (List.range t).map (placeByte k)
theorem placeTo_succ (k t : Nat) : placeTo k (t + 1) = placeTo k t ++ [placeByte k t] := by unfold placeTo; rw [List.range_succ, List.map_append]; rfl
theorem placeTo_length (k t : Nat) : (placeTo k t).length = t := by unfold placeTo; simp
theorem placeTo_all (k : Nat) : placeTo k 8 = wPlace k := by
  unfold placeTo wPlace placeByte
  simp [List.range_succ]

theorem step_push {P : Program} {w0 : World} {ops : Array Oper} {o : Oper} {a : Act} {K : Act → World → Prop} {Q : Exit → Act → World → Prop} {E : Prop} (hgd : o.guard = none) (s x : Operand) (t : TypeId)
    (ho : o.op = .call { callee := .builtin .append, args := #[s, x], argTypes := #[t, t] })
    (base : Nat) (e : TypeId) (i : TypeInfo) (z : Value) (size bytes : Nat) (ht : P.underlying t = some (.slice e)) (hi : P.info? e = some i) (hz : i.zero = some z)
    (hsize : i.size = size) (hby : i.bytes = bytes) (hzs : z.cells.size = size) (hsz : 0 < size) (hbpos : 0 < bytes)
    (v : Value) (n : Nat) (xs : List Value) (l : List Value) (hl : l.length = size) (h1 : ∀ u ∈ l, u.oneCell' = true)
    (hs : a.eval s = v) (hx : a.eval x = .slice (some ⟨w0.heap.size, 0, none⟩) 1 1)
    (hown : w0.ownsRow base e size v n xs) (hbytes : (n + 1) * bytes ≤ 140737488355328) (hbase : base ≤ w0.heap.size)
    (h : ∀ v' w', w'.ownsRow base e size v' (n + 1) (xs ++ l) → ((w0.alloc (.cells l.toArray e)).drew).grownBy w' v.ownBlock → K (a.put o.dst v') w') :
    if Region.wanted o (yielded ops a.tmps) = true then Oper.wp P o a (w0.alloc (.cells l.toArray e)).drew K Q else E := by
  have h63 : n + 1 ≤ maxLen := by
    have : n + 1 ≤ (n + 1) * bytes := Nat.le_mul_of_pos_right _ hbpos
    simp only [maxLen]; omega
  refine step_append_lies _ hgd s x t ho base e i z size bytes ht hi hz hsize hby hzs hsz v n xs hs (hown.alloc _).drew ⟨w0.heap.size, 0, none⟩ 1 1 l hx (by omega) ?_ h1 (by omega) h63 hbytes (by simp [World.drew]; omega) _ rfl fun g cap w' h2 h3 _ _ => h _ w' h2 h3
  intro j u hj
  have e2 : (⟨w0.heap.size, 0, none⟩ : Addr).add j = ⟨w0.heap.size, j, none⟩ := by unfold Addr.add; split <;> simp_all
  rw [e2]
  have := (Blk.new w0 e l.toArray).drew.cell j
  rw [this]
  simpa using hj
theorem place_cell (k t : Nat) (h : t < 8) : IntKind.u8.wrap ((k : Int) / 2 ^ (56 - 8 * (t : Int)).toNat) = ((placeByte k t).toNat : Nat) := by
  unfold placeByte
  rw [UInt8.toNat_ofNat', show (56 - 8 * (t : Int)).toNat = 8 * (7 - t) from by omega]
  have : (2 : Int) ^ (8 * (7 - t)) = ((256 ^ (7 - t) : Nat) : Int) := by rw [Int.natCast_pow, Int.pow_mul]; rfl
  rw [this]
  have e : IntKind.u8.wrap = fun n : Int => n % 256 := by funext n; simp [IntKind.wrap, IntKind.bits, IntKind.signed]
  rw [e]
  show ((k : Int) / _) % 256 = _
  rw [← Int.natCast_ediv]
  generalize k / 256 ^ (7 - t) = q
  omega

set_option maxHeartbeats 800000 in
theorem wf_any (p base : Nat) (bs : List UInt8) (x : Nat) (hx : x < 18446744073709551616) (w : World) (hw : IsW w p base bs) (hl : bs.length + 8 ≤ 1099511627776) :
    Calls Tryd.prog 55 #[.pointer (some ⟨p, 0, none⟩), .float .f64 x] w (WPost w p base (bs ++ wF x)) := by
  obtain ⟨i0, hi, hz0, hz1, hz2⟩ := info_parts Tryd.info5
  have hk64 := fkey_lt x hx
  go_enter Tryd.func55, Tryd.ntmps55
  go_wp2_with fail
  refine (key_any x hx _).mono ?_; rintro e w' ⟨rfl, rfl⟩
  have hwF : Hid (wF x = placeTo (fkey x) 8) := (placeTo_all _).symm
  generalize fkey x = k at *
  go_wp2_with fail
  go_loopw [5] (fun v wr => ∃ (t : Nat), t ≤ 8 ∧ v = .int .i64 (56 - 8 * (t : Nat)) ∧ IsW wr p base (bs ++ placeTo k t) ∧ Kept (WS w base p) w wr) (fun v _ => (8 + intOf v).toNat)
  case atStart => exact ⟨0, by omega, rfl, by simpa [placeTo] using hw, Kept.refl _ _⟩
  case round =>
    obtain ⟨t, ht, rfl, hw', hk⟩ := hrel
    obtain ⟨hlo, A, c, n, hnl, hb, hown⟩ := hw'
    have hc := hb.cell
    have hf := hb.frozen
    have hlt := hb.lt
    by_cases h8 : t < 8
    · have t1 : decide ((0 : Int) ≤ 56 - 8 * (t : Int)) = true := decide_eq_true (by omega)
      have h8' := Lib.hid h8
      have hn2 : n + 1 ≤ 1099511627776 := by have := hnl.out; rw [List.length_append, placeTo_length] at this; omega
      have hv := Lib.hid (place_cell k t h8)
      go_wp2_with fail
      go_region_law (
        refine step_push rfl _ _ 38 rfl base 5 i0 (.int .u8 0) 1 1 Tryd.underlying38 hi hz0 hz1 hz2 rfl (by decide) (by decide) (.slice A n c) n _ [.int .u8 (IntKind.u8.wrap ((k : Int) / 2 ^ (56 - 8 * (t : Int)).toNat))] rfl (by simp [Value.oneCell']) rfl rfl hown (by omega) (by omega) ?_
        intro v' w1 hown1 hg1
        obtain ⟨A', c', rfl, hA', _⟩ := own_form hown1
        have hxs : byteVals (bs ++ placeTo k t) ++ [.int .u8 (IntKind.u8.wrap ((k : Int) / 2 ^ (56 - 8 * (t : Int)).toNat))] = byteVals (bs ++ placeTo k (t + 1)) := by rw [placeTo_succ, ← List.append_assoc, byteVals_append (bs ++ placeTo k t), byteVals_one, hv.out]
        have hown2 := Lib.hid (hxs ▸ hown1); clear hxs
        have hb1 := (hb.alloc (.cells #[.int .u8 (IntKind.u8.wrap ((k : Int) / 2 ^ (56 - 8 * (t : Int)).toNat))] 5)).drew
        obtain ⟨hW, hK⟩ := IsW.push (bs' := bs ++ placeTo k (t + 1)) hlo hb1 rfl (hown.alloc _).drew hg1 hown2.out (by rw [hnl.out, placeTo_succ]; simp; omega)
        have hb2 : Blk w1 p 50 #[.slice A n c] := (hg1.block p hb1.lt (fun e => own_ne (hown.alloc _).drew hb1 (by decide) e.symm)).trans hb1
        have hc2 := hb2.cell
        have hf2 := hb2.frozen
        have hK' := WS.trans hk (WS.trans (kept_alloc _ wr _).drew hK)
        have hkeep := Lib.hid (And.intro hW hK')
        clear hW hK hK' hb1)
      go_wp2_with fail
      all_goals
        refine ⟨⟨t + 1, h8'.out, congrArg (Value.int .i64) (by omega), hkeep.out⟩, ?_⟩
        have := h8'.out; simp [intOf]; omega
    · obtain rfl : t = 8 := by omega
      have t1 : decide ((0 : Int) ≤ 56 - 8 * ((8 : Nat) : Int)) = false := by decide
      go_wp2_with fail
      go_end0
      exact ⟨rfl, by rw [hwF.out]; exact ⟨hlo, A, c, n, hnl, hb, hown⟩, hk⟩

theorem bytes_any (p base : Nat) (bs : List UInt8) (w : World) (hw : IsW w p base bs) (hl : bs.length ≤ 1099511627776) :
    Calls Tryd.prog 27 #[.pointer (some ⟨p, 0, none⟩)] w fun e w' => ∃ A c n, Hid (n = bs.length) ∧ e = .returned (.slice A n c) ∧ w'.ownsRow w.heap.size 5 1 (.slice A n c) n (byteVals bs) ∧ Cln w w' := by
  obtain ⟨i0, hi, hz0, hz1, hz2⟩ := info_parts Tryd.info5
  obtain ⟨hlo, A, c, n, hnl, hb, hown⟩ := hw
  have hc := hb.cell
  have hn : n ≤ 1099511627776 := by have := hnl.out; omega
  obtain ⟨hsrc, hnone⟩ := own_src hown
  have hsrc' := Lib.hid hsrc; have hnone' := Lib.hid hnone; clear hsrc hnone
  go_enter Tryd.func27, Tryd.ntmps27
  go_wp2_with (
    at_builtin
    refine wpList_cat rfl _ _ 38 rfl w.heap.size 5 i0 (.int .u8 0) 1 1 Tryd.underlying38 hi hz0 hz1 hz2 rfl (by decide) (by decide) (.slice none 0 0) 0 [] A n c (byteVals bs) (by rw [byteVals_length, hnl.out]; omega) (byteVals_one_cell bs) hsrc'.out hnone'.out rfl rfl (World.ownsRow_nil w w.heap.size 5 1) (by omega) (Nat.le_refl _) ?_
    intro v' w1 hown1 hg1
    rw [Nat.zero_add, List.nil_append] at hown1
    obtain ⟨A', c', rfl, hA', _⟩ := own_form hown1
    have hkeep := Lib.hid (And.intro hown1 ((Below.refl w.heap.size w).grown hg1 (Nat.le_refl _) (fun k hk => by simp [Value.ownBlock] at hk)))
    clear hown1 hg1 hA')
  go_ret
  exact ⟨A', c', n, hnl, rfl, hkeep.out⟩
end Go.Proofs.YtocllhghbmbjpaaDoor
