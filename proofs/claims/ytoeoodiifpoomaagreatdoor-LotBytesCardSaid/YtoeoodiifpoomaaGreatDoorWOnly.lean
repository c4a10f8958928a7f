/- The walks of the document's Fields and only. (Printed by wip/tools/gen_only.py.) -/
import Derived.Test.YtoeoodiifpoomaaGreatDoorRecs
set_option linter.unusedSimpArgs false
set_option linter.unusedVariables false
set_option maxRecDepth 20000
namespace Go.Proofs.YtoeoodiifpoomaaGreatDoor
open Go.RowKit Moi
attribute [local go_sem] toList_str str_size less_ltB store_float

set_option maxHeartbeats 4000000 in
theorem only_t (r : MRec) (A : Option Addr) (n c : Nat) (hn : Hid (r.list.length = n)) (hr : r.real < 18446744073709551616) (w : World) :
    Calls Tryz.prog 146 #[recVal r A n c, .string ⟨#[116]⟩] w fun e w' => e = .returned (.bool (bareB r ⟨true, false, false, false, false⟩)) ∧ Cln w w' := by
  have hl : Hid ((r.list == []) = decide (n = 0)) := by
    unfold Hid; rw [← hn.out]; cases r.list <;> simp
  have hb0 := Blk.new w 83 #[.int .i64 r.kind, .int .i64 r.num, .int .i64 r.low, .int .i64 r.high, .float .f64 r.real, .int .i64 r.cap, .string (str r.text), .slice A n c]
  have hcl : Cln w (w.alloc (.cells #[.int .i64 r.kind, .int .i64 r.num, .int .i64 r.low, .int .i64 r.high, .float .f64 r.real, .int .i64 r.cap, .string (str r.text), .slice A n c] 83)) := by (repeat (first | (with_reducible exact Below.refl _ _) | (with_reducible assumption) | (with_reducible refine Below.setCell ?_ (by first | omega | (simp; done) | (simp; omega)) _) | (with_reducible refine Below.alloc ?_ (by first | omega | (simp; done) | (simp; omega)) _) | (with_reducible refine Below.drew ?_) | (with_reducible refine below_drewN ?_ _)))
  unfold recVal
  go_enter Tryz.func146, Tryz.ntmps146
  go_wp2_with fail
  go_loopw [5, 6, 7, 8, 9, 10] (fun v5 v6 v7 v8 v9 v10 wr => wr = w.alloc (.cells #[.int .i64 r.kind, .int .i64 r.num, .int .i64 r.low, .int .i64 r.high, .float .f64 r.real, .int .i64 r.cap, .string (str r.text), .slice A n c] 83) ∧ ((v10 = .int .i64 0 ∧ v5 = .bool false ∧ v6 = .bool false ∧ v7 = .bool false ∧ v8 = .bool false ∧ v9 = .bool false) ∨ (v10 = .int .i64 1 ∧ v5 = .bool true ∧ v6 = .bool false ∧ v7 = .bool false ∧ v8 = .bool false ∧ v9 = .bool false))) (fun v5 v6 v7 v8 v9 v10 _ => (1 - intOf v10).toNat)
  case atStart => exact ⟨rfl, .inl ⟨rfl, rfl, rfl, rfl, rfl, rfl⟩⟩
  case round =>
    obtain ⟨rfl, hrel⟩ := hrel
    rcases hrel with ⟨rfl, rfl, rfl, rfl, rfl, rfl⟩ | ⟨rfl, rfl, rfl, rfl, rfl, rfl⟩
    · go_wp2_with fail
      go_roundw
      case rel => first | exact ⟨rfl, .inr ⟨rfl, rfl, rfl, rfl, rfl, rfl⟩⟩ | (simp; done) | (simp; decide)
      case measure => simp [intOf]
    · have hc := hb0.cell
      clear hb0
      go_wp2_with (go_at_call 175; refine (zero_any _ hr _).mono ?_; rintro e w' ⟨rfl, rfl⟩)
      all_goals
        go_ret
        refine ⟨ret_bool ?_, by (repeat (first | (with_reducible exact Below.refl _ _) | (with_reducible assumption) | (with_reducible refine Below.setCell ?_ (by first | omega | (simp; done) | (simp; omega)) _) | (with_reducible refine Below.alloc ?_ (by first | omega | (simp; done) | (simp; omega)) _) | (with_reducible refine Below.drew ?_) | (with_reducible refine below_drewN ?_ _)))⟩
        have hl' := hl.out
        simp_all [bareB]
        try exact beq_cast n 0
set_option maxHeartbeats 4000000 in
theorem only_n (r : MRec) (A : Option Addr) (n c : Nat) (hn : Hid (r.list.length = n)) (hr : r.real < 18446744073709551616) (w : World) :
    Calls Tryz.prog 146 #[recVal r A n c, .string ⟨#[110]⟩] w fun e w' => e = .returned (.bool (bareB r ⟨false, true, false, false, false⟩)) ∧ Cln w w' := by
  have hl : Hid ((r.list == []) = decide (n = 0)) := by
    unfold Hid; rw [← hn.out]; cases r.list <;> simp
  have hb0 := Blk.new w 83 #[.int .i64 r.kind, .int .i64 r.num, .int .i64 r.low, .int .i64 r.high, .float .f64 r.real, .int .i64 r.cap, .string (str r.text), .slice A n c]
  have hcl : Cln w (w.alloc (.cells #[.int .i64 r.kind, .int .i64 r.num, .int .i64 r.low, .int .i64 r.high, .float .f64 r.real, .int .i64 r.cap, .string (str r.text), .slice A n c] 83)) := by (repeat (first | (with_reducible exact Below.refl _ _) | (with_reducible assumption) | (with_reducible refine Below.setCell ?_ (by first | omega | (simp; done) | (simp; omega)) _) | (with_reducible refine Below.alloc ?_ (by first | omega | (simp; done) | (simp; omega)) _) | (with_reducible refine Below.drew ?_) | (with_reducible refine below_drewN ?_ _)))
  unfold recVal
  go_enter Tryz.func146, Tryz.ntmps146
  go_wp2_with fail
  go_loopw [5, 6, 7, 8, 9, 10] (fun v5 v6 v7 v8 v9 v10 wr => wr = w.alloc (.cells #[.int .i64 r.kind, .int .i64 r.num, .int .i64 r.low, .int .i64 r.high, .float .f64 r.real, .int .i64 r.cap, .string (str r.text), .slice A n c] 83) ∧ ((v10 = .int .i64 0 ∧ v5 = .bool false ∧ v6 = .bool false ∧ v7 = .bool false ∧ v8 = .bool false ∧ v9 = .bool false) ∨ (v10 = .int .i64 1 ∧ v5 = .bool false ∧ v6 = .bool true ∧ v7 = .bool false ∧ v8 = .bool false ∧ v9 = .bool false))) (fun v5 v6 v7 v8 v9 v10 _ => (1 - intOf v10).toNat)
  case atStart => exact ⟨rfl, .inl ⟨rfl, rfl, rfl, rfl, rfl, rfl⟩⟩
  case round =>
    obtain ⟨rfl, hrel⟩ := hrel
    rcases hrel with ⟨rfl, rfl, rfl, rfl, rfl, rfl⟩ | ⟨rfl, rfl, rfl, rfl, rfl, rfl⟩
    · go_wp2_with fail
      go_roundw
      case rel => first | exact ⟨rfl, .inr ⟨rfl, rfl, rfl, rfl, rfl, rfl⟩⟩ | (simp; done) | (simp; decide)
      case measure => simp [intOf]
    · have hc := hb0.cell
      clear hb0
      go_wp2_with (go_at_call 175; refine (zero_any _ hr _).mono ?_; rintro e w' ⟨rfl, rfl⟩)
      all_goals
        go_ret
        refine ⟨ret_bool ?_, by (repeat (first | (with_reducible exact Below.refl _ _) | (with_reducible assumption) | (with_reducible refine Below.setCell ?_ (by first | omega | (simp; done) | (simp; omega)) _) | (with_reducible refine Below.alloc ?_ (by first | omega | (simp; done) | (simp; omega)) _) | (with_reducible refine Below.drew ?_) | (with_reducible refine below_drewN ?_ _)))⟩
        have hl' := hl.out
        simp_all [bareB]
        try exact beq_cast n 0
set_option maxHeartbeats 4000000 in
theorem only_nb (r : MRec) (A : Option Addr) (n c : Nat) (hn : Hid (r.list.length = n)) (hr : r.real < 18446744073709551616) (w : World) :
    Calls Tryz.prog 146 #[recVal r A n c, .string ⟨#[110, 98]⟩] w fun e w' => e = .returned (.bool (bareB r ⟨false, true, true, false, false⟩)) ∧ Cln w w' := by
  have hl : Hid ((r.list == []) = decide (n = 0)) := by
    unfold Hid; rw [← hn.out]; cases r.list <;> simp
  have hb0 := Blk.new w 83 #[.int .i64 r.kind, .int .i64 r.num, .int .i64 r.low, .int .i64 r.high, .float .f64 r.real, .int .i64 r.cap, .string (str r.text), .slice A n c]
  have hcl : Cln w (w.alloc (.cells #[.int .i64 r.kind, .int .i64 r.num, .int .i64 r.low, .int .i64 r.high, .float .f64 r.real, .int .i64 r.cap, .string (str r.text), .slice A n c] 83)) := by (repeat (first | (with_reducible exact Below.refl _ _) | (with_reducible assumption) | (with_reducible refine Below.setCell ?_ (by first | omega | (simp; done) | (simp; omega)) _) | (with_reducible refine Below.alloc ?_ (by first | omega | (simp; done) | (simp; omega)) _) | (with_reducible refine Below.drew ?_) | (with_reducible refine below_drewN ?_ _)))
  unfold recVal
  go_enter Tryz.func146, Tryz.ntmps146
  go_wp2_with fail
  go_loopw [5, 6, 7, 8, 9, 10] (fun v5 v6 v7 v8 v9 v10 wr => wr = w.alloc (.cells #[.int .i64 r.kind, .int .i64 r.num, .int .i64 r.low, .int .i64 r.high, .float .f64 r.real, .int .i64 r.cap, .string (str r.text), .slice A n c] 83) ∧ ((v10 = .int .i64 0 ∧ v5 = .bool false ∧ v6 = .bool false ∧ v7 = .bool false ∧ v8 = .bool false ∧ v9 = .bool false) ∨ (v10 = .int .i64 1 ∧ v5 = .bool false ∧ v6 = .bool true ∧ v7 = .bool false ∧ v8 = .bool false ∧ v9 = .bool false) ∨ (v10 = .int .i64 2 ∧ v5 = .bool false ∧ v6 = .bool true ∧ v7 = .bool true ∧ v8 = .bool false ∧ v9 = .bool false))) (fun v5 v6 v7 v8 v9 v10 _ => (2 - intOf v10).toNat)
  case atStart => exact ⟨rfl, .inl ⟨rfl, rfl, rfl, rfl, rfl, rfl⟩⟩
  case round =>
    obtain ⟨rfl, hrel⟩ := hrel
    rcases hrel with ⟨rfl, rfl, rfl, rfl, rfl, rfl⟩ | ⟨rfl, rfl, rfl, rfl, rfl, rfl⟩ | ⟨rfl, rfl, rfl, rfl, rfl, rfl⟩
    · go_wp2_with fail
      go_roundw
      case rel => first | exact ⟨rfl, .inr (.inl ⟨rfl, rfl, rfl, rfl, rfl, rfl⟩)⟩ | (simp; done) | (simp; decide)
      case measure => simp [intOf]
    · go_wp2_with fail
      go_roundw
      case rel => first | exact ⟨rfl, .inr (.inr ⟨rfl, rfl, rfl, rfl, rfl, rfl⟩)⟩ | (simp; done) | (simp; decide)
      case measure => simp [intOf]
    · have hc := hb0.cell
      clear hb0
      go_wp2_with (go_at_call 175; refine (zero_any _ hr _).mono ?_; rintro e w' ⟨rfl, rfl⟩)
      all_goals
        go_ret
        refine ⟨ret_bool ?_, by (repeat (first | (with_reducible exact Below.refl _ _) | (with_reducible assumption) | (with_reducible refine Below.setCell ?_ (by first | omega | (simp; done) | (simp; omega)) _) | (with_reducible refine Below.alloc ?_ (by first | omega | (simp; done) | (simp; omega)) _) | (with_reducible refine Below.drew ?_) | (with_reducible refine below_drewN ?_ _)))⟩
        have hl' := hl.out
        simp_all [bareB]
        try exact beq_cast n 0
set_option maxHeartbeats 4000000 in
theorem only_r (r : MRec) (A : Option Addr) (n c : Nat) (hn : Hid (r.list.length = n)) (hr : r.real < 18446744073709551616) (w : World) :
    Calls Tryz.prog 146 #[recVal r A n c, .string ⟨#[114]⟩] w fun e w' => e = .returned (.bool (bareB r ⟨false, false, false, true, false⟩)) ∧ Cln w w' := by
  have hl : Hid ((r.list == []) = decide (n = 0)) := by
    unfold Hid; rw [← hn.out]; cases r.list <;> simp
  have hb0 := Blk.new w 83 #[.int .i64 r.kind, .int .i64 r.num, .int .i64 r.low, .int .i64 r.high, .float .f64 r.real, .int .i64 r.cap, .string (str r.text), .slice A n c]
  have hcl : Cln w (w.alloc (.cells #[.int .i64 r.kind, .int .i64 r.num, .int .i64 r.low, .int .i64 r.high, .float .f64 r.real, .int .i64 r.cap, .string (str r.text), .slice A n c] 83)) := by (repeat (first | (with_reducible exact Below.refl _ _) | (with_reducible assumption) | (with_reducible refine Below.setCell ?_ (by first | omega | (simp; done) | (simp; omega)) _) | (with_reducible refine Below.alloc ?_ (by first | omega | (simp; done) | (simp; omega)) _) | (with_reducible refine Below.drew ?_) | (with_reducible refine below_drewN ?_ _)))
  unfold recVal
  go_enter Tryz.func146, Tryz.ntmps146
  go_wp2_with fail
  go_loopw [5, 6, 7, 8, 9, 10] (fun v5 v6 v7 v8 v9 v10 wr => wr = w.alloc (.cells #[.int .i64 r.kind, .int .i64 r.num, .int .i64 r.low, .int .i64 r.high, .float .f64 r.real, .int .i64 r.cap, .string (str r.text), .slice A n c] 83) ∧ ((v10 = .int .i64 0 ∧ v5 = .bool false ∧ v6 = .bool false ∧ v7 = .bool false ∧ v8 = .bool false ∧ v9 = .bool false) ∨ (v10 = .int .i64 1 ∧ v5 = .bool false ∧ v6 = .bool false ∧ v7 = .bool false ∧ v8 = .bool true ∧ v9 = .bool false))) (fun v5 v6 v7 v8 v9 v10 _ => (1 - intOf v10).toNat)
  case atStart => exact ⟨rfl, .inl ⟨rfl, rfl, rfl, rfl, rfl, rfl⟩⟩
  case round =>
    obtain ⟨rfl, hrel⟩ := hrel
    rcases hrel with ⟨rfl, rfl, rfl, rfl, rfl, rfl⟩ | ⟨rfl, rfl, rfl, rfl, rfl, rfl⟩
    · go_wp2_with fail
      go_roundw
      case rel => first | exact ⟨rfl, .inr ⟨rfl, rfl, rfl, rfl, rfl, rfl⟩⟩ | (simp; done) | (simp; decide)
      case measure => simp [intOf]
    · have hc := hb0.cell
      clear hb0
      go_wp2_with (go_at_call 175; refine (zero_any _ hr _).mono ?_; rintro e w' ⟨rfl, rfl⟩)
      all_goals
        go_ret
        refine ⟨ret_bool ?_, by (repeat (first | (with_reducible exact Below.refl _ _) | (with_reducible assumption) | (with_reducible refine Below.setCell ?_ (by first | omega | (simp; done) | (simp; omega)) _) | (with_reducible refine Below.alloc ?_ (by first | omega | (simp; done) | (simp; omega)) _) | (with_reducible refine Below.drew ?_) | (with_reducible refine below_drewN ?_ _)))⟩
        have hl' := hl.out
        simp_all [bareB]
        try exact beq_cast n 0
set_option maxHeartbeats 4000000 in
theorem only_l (r : MRec) (A : Option Addr) (n c : Nat) (hn : Hid (r.list.length = n)) (hr : r.real < 18446744073709551616) (w : World) :
    Calls Tryz.prog 146 #[recVal r A n c, .string ⟨#[108]⟩] w fun e w' => e = .returned (.bool (bareB r ⟨false, false, false, false, true⟩)) ∧ Cln w w' := by
  have hl : Hid ((r.list == []) = decide (n = 0)) := by
    unfold Hid; rw [← hn.out]; cases r.list <;> simp
  have hb0 := Blk.new w 83 #[.int .i64 r.kind, .int .i64 r.num, .int .i64 r.low, .int .i64 r.high, .float .f64 r.real, .int .i64 r.cap, .string (str r.text), .slice A n c]
  have hcl : Cln w (w.alloc (.cells #[.int .i64 r.kind, .int .i64 r.num, .int .i64 r.low, .int .i64 r.high, .float .f64 r.real, .int .i64 r.cap, .string (str r.text), .slice A n c] 83)) := by (repeat (first | (with_reducible exact Below.refl _ _) | (with_reducible assumption) | (with_reducible refine Below.setCell ?_ (by first | omega | (simp; done) | (simp; omega)) _) | (with_reducible refine Below.alloc ?_ (by first | omega | (simp; done) | (simp; omega)) _) | (with_reducible refine Below.drew ?_) | (with_reducible refine below_drewN ?_ _)))
  unfold recVal
  go_enter Tryz.func146, Tryz.ntmps146
  go_wp2_with fail
  go_loopw [5, 6, 7, 8, 9, 10] (fun v5 v6 v7 v8 v9 v10 wr => wr = w.alloc (.cells #[.int .i64 r.kind, .int .i64 r.num, .int .i64 r.low, .int .i64 r.high, .float .f64 r.real, .int .i64 r.cap, .string (str r.text), .slice A n c] 83) ∧ ((v10 = .int .i64 0 ∧ v5 = .bool false ∧ v6 = .bool false ∧ v7 = .bool false ∧ v8 = .bool false ∧ v9 = .bool false) ∨ (v10 = .int .i64 1 ∧ v5 = .bool false ∧ v6 = .bool false ∧ v7 = .bool false ∧ v8 = .bool false ∧ v9 = .bool true))) (fun v5 v6 v7 v8 v9 v10 _ => (1 - intOf v10).toNat)
  case atStart => exact ⟨rfl, .inl ⟨rfl, rfl, rfl, rfl, rfl, rfl⟩⟩
  case round =>
    obtain ⟨rfl, hrel⟩ := hrel
    rcases hrel with ⟨rfl, rfl, rfl, rfl, rfl, rfl⟩ | ⟨rfl, rfl, rfl, rfl, rfl, rfl⟩
    · go_wp2_with fail
      go_roundw
      case rel => first | exact ⟨rfl, .inr ⟨rfl, rfl, rfl, rfl, rfl, rfl⟩⟩ | (simp; done) | (simp; decide)
      case measure => simp [intOf]
    · have hc := hb0.cell
      clear hb0
      go_wp2_with (go_at_call 175; refine (zero_any _ hr _).mono ?_; rintro e w' ⟨rfl, rfl⟩)
      all_goals
        go_ret
        refine ⟨ret_bool ?_, by (repeat (first | (with_reducible exact Below.refl _ _) | (with_reducible assumption) | (with_reducible refine Below.setCell ?_ (by first | omega | (simp; done) | (simp; omega)) _) | (with_reducible refine Below.alloc ?_ (by first | omega | (simp; done) | (simp; omega)) _) | (with_reducible refine Below.drew ?_) | (with_reducible refine below_drewN ?_ _)))⟩
        have hl' := hl.out
        simp_all [bareB]
        try exact beq_cast n 0

def fieldsOf (k : Int) : List UInt8 := ([[], [116], [110], [110], [110, 98], [114], [114], [114], [108], [108]] : List (List UInt8)).getD k.toNat []
set_option maxHeartbeats 4000000 in
theorem fields_any (k : Int) (hk : 1 ≤ k ∧ k ≤ 9) (w : World) :
    Calls Tryz.prog 147 #[.int .i64 k] w fun e w' => e = .returned (.string (str (fieldsOf k))) ∧ Cln w w' := by
  have hk' : k = 1 ∨ k = 2 ∨ k = 3 ∨ k = 4 ∨ k = 5 ∨ k = 6 ∨ k = 7 ∨ k = 8 ∨ k = 9 := by omega
  clear hk
  rcases hk' with rfl | rfl | rfl | rfl | rfl | rfl | rfl | rfl | rfl
  all_goals
    go_enter Tryz.func147, Tryz.ntmps147
    go_wp2_with fail
    go_ret
    exact ⟨rfl, by (repeat (first | (with_reducible exact Below.refl _ _) | (with_reducible assumption) | (with_reducible refine Below.setCell ?_ (by first | omega | (simp; done) | (simp; omega)) _) | (with_reducible refine Below.alloc ?_ (by first | omega | (simp; done) | (simp; omega)) _) | (with_reducible refine Below.drew ?_) | (with_reducible refine below_drewN ?_ _)))⟩
end Go.Proofs.YtoeoodiifpoomaaGreatDoor
