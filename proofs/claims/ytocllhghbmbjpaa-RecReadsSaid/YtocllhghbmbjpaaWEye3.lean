/- The walks of the document's Eye: parts by their kinds, Upto, Fail and End. -/
import Derived.Test.YtocllhghbmbjpaaWEye2
set_option linter.unusedSimpArgs false
set_option linter.unusedVariables false
set_option maxRecDepth 20000
namespace Go.Proofs.Ytocllhghbmbjpaa
open Go.RowKit Moi
attribute [local go_sem] toList_str str_size less_ltB store_float
theorem shR_mapR {α β : Type} (s : Nat) (f : α → β) (r : RRes α) : shR s (mapR f r) = mapR f (shR s r) := by
  rcases r with ⟨c, a⟩ | ⟨x, a⟩ <;> rfl
theorem posR_mapR {α β : Type} (f : α → β) (r : RRes α) : posR (mapR f r) = posR r := by
  rcases r with ⟨c, a⟩ | ⟨x, a⟩ <;> rfl
theorem mapR_err {α β : Type} {f : α → β} {r : RRes α} {cd k : Nat} (h : mapR f r = .error (cd, k)) : r = .error (cd, k) := by
  rcases r with ⟨c, a⟩ | ⟨x, a⟩
  · have h2 : (Except.error (c, a) : RRes β) = .error (cd, k) := h
    injection h2 with h2; rw [h2]
  · cases h
section
variable (p : Nat) (A : Option Addr) (n c : Nat) (bs : List UInt8) (a : Nat) (w : World) (hE : IsE w p A n c bs a 0)
include hE
theorem part_u (m : Int) : Calls Try.prog 71 #[.pointer (some ⟨p, 0, none⟩), .int .u8 117, .int .i64 m] w (PartPost w p A n c bs (mapR .u (rU bs a))) := by
  have hl : (bs.drop a).length = n - a := by rw [List.length_drop, hE.rd.len]
  have h := eye_part p A n c bs a 117 m (mapR .u (rU (bs.drop a) 0)) (by rw [posR_mapR, ← hl]; exact rU_pos _) (fun cd k h => rU_nz (mapR_err h))
    (fun W A' c' hc hr => first_u A' (n - a) c' (bs.drop a) (by have := hE.big; omega) m W hr) w hE
  rw [shR_mapR, ← rU_sh] at h
  exact h
theorem part_i (m : Int) : Calls Try.prog 71 #[.pointer (some ⟨p, 0, none⟩), .int .u8 105, .int .i64 m] w (PartPost w p A n c bs (mapR .i (rI bs a))) := by
  have hl : (bs.drop a).length = n - a := by rw [List.length_drop, hE.rd.len]
  have h := eye_part p A n c bs a 105 m (mapR .i (rI (bs.drop a) 0)) (by rw [posR_mapR, ← hl]; exact rI_pos _) (fun cd k h => rI_nz (mapR_err h))
    (fun W A' c' hc hr => first_i A' (n - a) c' (bs.drop a) (by have := hE.big; omega) m W hr) w hE
  rw [shR_mapR, ← rI_sh] at h
  exact h
theorem part_f (m : Int) : Calls Try.prog 71 #[.pointer (some ⟨p, 0, none⟩), .int .u8 102, .int .i64 m] w (PartPost w p A n c bs (mapR (fun x => .f (fkey x)) (rF bs a))) := by
  have hl : (bs.drop a).length = n - a := by rw [List.length_drop, hE.rd.len]
  have h := eye_part p A n c bs a 102 m (mapR (fun x => .f (fkey x)) (rF (bs.drop a) 0)) (by rw [posR_mapR, ← hl]; exact rF_pos _) (fun cd k h => rF_nz (mapR_err h))
    (fun W A' c' hc hr => first_f A' (n - a) c' (bs.drop a) (by have := hE.big; omega) m W hr) w hE
  rw [shR_mapR, ← rF_sh] at h
  exact h
theorem part_s (M : Nat) (hM : M ≤ 1000000) : Calls Try.prog 71 #[.pointer (some ⟨p, 0, none⟩), .int .u8 115, .int .i64 (M : Nat)] w (PartPost w p A n c bs (mapR .s (rS M bs a))) := by
  have hl : (bs.drop a).length = n - a := by rw [List.length_drop, hE.rd.len]
  have h := eye_part p A n c bs a 115 (M : Nat) (mapR .s (rS M (bs.drop a) 0)) (by rw [posR_mapR, ← hl]; exact rS_pos _ _) (fun cd k h => rS_nz (mapR_err h))
    (fun W A' c' hc hr => first_s A' (n - a) c' (bs.drop a) (by have := hE.big; omega) hc M hM W hr) w hE
  rw [shR_mapR, ← rS_sh] at h
  exact h
end
theorem fail_new (p : Nat) (A : Option Addr) (n c : Nat) (bs : List UInt8) (a : Nat) (cd : Nat) (w : World) (hE : IsE w p A n c bs a 0) :
    Calls Try.prog 70 #[.pointer (some ⟨p, 0, none⟩), .int .i64 (cd : Nat)] w fun e w' => e = .returned (.tuple #[]) ∧ IsE w' p A n c bs a cd ∧ Kept (· = p) w w' := by
  have c2 := hE.blk.cell 2
  have f2 := hE.blk.frozen 2
  have hlt := hE.blk.lt
  have hEH := Lib.hid hE
  go_enter Try.func70, Try.ntmps70
  go_wp2_with fail
  go_end0
  have hk : Kept (· = p) w (w.setCell ⟨p, 2, none⟩ (.int .i64 (cd : Nat))) := (Kept.refl (fun i => i = p) w).setCell (p := ⟨p, 2, none⟩) (fun _ => rfl) _
  exact ⟨rfl, hEH.out.set2 a cd hEH.out.le hk (Blk.store1 hEH.out.blk 2 _ rfl), hk⟩
theorem fail_old (p : Nat) (A : Option Addr) (n c : Nat) (bs : List UInt8) (a er : Nat) (hz : er ≠ 0) (cd : Int) (w : World) (hE : IsE w p A n c bs a er) :
    Calls Try.prog 70 #[.pointer (some ⟨p, 0, none⟩), .int .i64 cd] w fun e w' => e = .returned (.tuple #[]) ∧ w = w' := by
  have c2 := hE.blk.cell 2
  have hlt := hE.blk.lt
  have t1 : (((er : Nat) : Int) == 0) = false := by rw [beq_eq_false_iff_ne]; omega
  go_enter Try.func70, Try.ntmps70
  go_wp2_with fail
  go_end0
  exact ⟨rfl, rfl⟩
end Go.Proofs.Ytocllhghbmbjpaa
