/- The walks of acts' kinds: of, field, Name, On, Reads, Field; the document's On, Fields, Has. -/
import Derived.Test.YtbemnfbndjolpaaGreatDoorPlain
import Derived.Test.YtbemnfbndjolpaaGreatDoorRecs
import Derived.StillTailTactics
set_option linter.unusedSimpArgs false
set_option linter.unusedVariables false
set_option maxRecDepth 20000
namespace Go.Proofs.YtbemnfbndjolpaaGreatDoor
open Go.RowKit Moi
attribute [local go_sem] toList_str str_size less_ltB store_float
def KindsAt (w : World) : Prop := ∀ i, i < 22 →
 w.cell? ⟨1, i * 3, none⟩ = some (.string (str (actWords.getD i []))) ∧ w.cell? ⟨1, i * 3 + 1, none⟩ = some (.int .i64 (actOns.getD i 0 : Nat)) ∧ w.cell? ⟨1, i * 3 + 2, none⟩ = some (.string (str (actFields.getD i [])))
theorem KindsAt.lt {w : World} (h : KindsAt w) : 1 < w.heap.size := World.block_lt_of_cell? w _ (h 0 (by decide)).1
theorem KindsAt.cln {w w' : World} (h : KindsAt w) (k : Cln w w') : KindsAt w' := fun i hi => by
 have k' := Kept.of_below (S := fun _ => False) k
 obtain ⟨h0, h1, h2⟩ := h i hi
 exact ⟨k'.cell h0 id, k'.cell h1 id, k'.cell h2 id⟩
theorem KindsAt.kept {S : Nat → Prop} {w w' : World} (h : KindsAt w) (k : Kept S w w') (hS : ¬ S 1) : KindsAt w' := fun i hi => by
 obtain ⟨h0, h1, h2⟩ := h i hi
 exact ⟨k.cell h0 hS, k.cell h1 hS, k.cell h2 hS⟩
def kindVal (k : Int) : Value := .agg #[.string (str (wordOf k)), .int .i64 (onOf k : Nat), .string (str (kindFs k))]
theorem size_kind : (Tryz.prog.info? 161).map (·.size) = some 3 := by kernel_rfl
theorem of_any (k : Int) (w : World) (hK : KindsAt w) :
  Calls Tryz.prog 97 #[.int .i64 k] w fun e w' => e = .returned (kindVal k) ∧ Cln w w' := by
 have hlt := hK.lt
 by_cases h : 0 < k ∧ k < 22
 ·obtain ⟨i, rfl⟩ := Int.eq_ofNat_of_zero_le (show 0 ≤ k by omega)
  have hi : i < 22 := by omega
  have t1 : decide ((i : Int) ≤ 0) = false := decide_eq_false (by omega)
  have t2 : decide (22 ≤ (i : Int)) = false := decide_eq_false (by omega)
  have hI : kindVal (i : Int) = .agg #[.string (str (actWords.getD i [])), .int .i64 (actOns.getD i 0 : Nat), .string (str (actFields.getD i []))] := by
   unfold kindVal wordOf onOf kindFs; rw [if_pos h, if_pos h, if_pos h]; rfl
  obtain ⟨c0, c1, c2⟩ := hK i hi
  have hne : ¬ 1 = w.heap.size := by omega
  rw [hI]
  generalize actWords.getD i [] = wd at c0 ⊢
  generalize actOns.getD i 0 = on at c1 ⊢
  generalize actFields.getD i [] = fl at c2 ⊢
  have hi0 : ¬ i = 0 := by omega
  clear hK h hI
  go_enter Tryz.func97, Tryz.ntmps97
  go_wp2_with fail
  refine bodyPost_ret (v := .agg #[.string (str wd), .int .i64 (on : Nat), .string (str fl)]) ?_ rfl ⟨rfl, ?_⟩
  ·exact results_cell_row Tryz.results97 _ _ w.heap.size 161 #[.string (str wd), .int .i64 (on : Nat), .string (str fl)] (0, 0) _ rfl (Blk.new w _ _) Tryz.underlying161 rfl size_kind
  ·(repeat with_reducible first | exact cR _ | assumption | refine cA ?_ _ | refine cD ?_ | refine cN ?_ _ | refine cS ?_ (by first | omega | (simp <;> omega)) _)
 ·have hI : kindVal k = .agg #[.string ⟨#[]⟩, .int .i64 0, .string ⟨#[]⟩] := by
   unfold kindVal wordOf onOf kindFs; rw [if_neg h, if_neg h, if_neg h]; rfl
  rw [hI]
  clear hK hI
  by_cases h0 : k ≤ 0
  ·have t1 : decide (k ≤ 0) = true := decide_eq_true h0
   clear h h0
   go_enter Tryz.func97, Tryz.ntmps97
   go_wp2_with fail
   refine bodyPost_ret (v := .agg #[.string ⟨#[]⟩, .int .i64 0, .string ⟨#[]⟩]) ?_ rfl ⟨rfl, ?_⟩
   ·exact results_cell_row Tryz.results97 _ _ w.heap.size 161 #[.string ⟨#[]⟩, .int .i64 0, .string ⟨#[]⟩] (0, 0) _ rfl (Blk.new w _ _) Tryz.underlying161 rfl size_kind
   ·(repeat with_reducible first | exact cR _ | assumption | refine cA ?_ _ | refine cD ?_ | refine cN ?_ _ | refine cS ?_ (by first | omega | (simp <;> omega)) _)
  ·have t1 : decide (k ≤ 0) = false := decide_eq_false h0
   have t2 : decide (22 ≤ k) = true := decide_eq_true (by omega)
   clear h h0
   go_enter Tryz.func97, Tryz.ntmps97
   go_wp2_with fail
   refine bodyPost_ret (v := .agg #[.string ⟨#[]⟩, .int .i64 0, .string ⟨#[]⟩]) ?_ rfl ⟨rfl, ?_⟩
   ·exact results_cell_row Tryz.results97 _ _ w.heap.size 161 #[.string ⟨#[]⟩, .int .i64 0, .string ⟨#[]⟩] (0, 0) _ rfl (Blk.new w _ _) Tryz.underlying161 rfl size_kind
   ·(repeat with_reducible first | exact cR _ | assumption | refine cA ?_ _ | refine cD ?_ | refine cN ?_ _ | refine cS ?_ (by first | omega | (simp <;> omega)) _)
set_option maxHeartbeats 4000000 in
theorem field_any (k : Int) (c : UInt8) (w : World) :
  Calls Tryz.prog 100 #[kindVal k, .int .u8 (c.toNat : Nat)] w fun e w' => e = .returned (.bool (hasF k c)) ∧ Cln w w' := by
 unfold kindVal hasF
 have hl : (kindFs k).length ≤ 2 := by
  unfold kindFs
  split
  ·rename_i h
   obtain ⟨i, rfl⟩ := Int.eq_ofNat_of_zero_le (show 0 ≤ k by omega)
   have : ∀ i, i < 22 → (actFields.getD i []).length ≤ 2 := by decide
   exact this i (by omega)
  ·exact Nat.zero_le _
 generalize wordOf k = wd
 generalize onOf k = on
 generalize kindFs k = fl at hl ⊢
 have hb := Blk.new w 161 #[.string (str wd), .int .i64 (on : Nat), .string (str fl)]
 have hc := hb.cell 2
 have hlt := hb.lt
 go_enter Tryz.func100, Tryz.ntmps100
 have hH : Hid (fl.contains c = (fl.drop 0).contains c) := by rw [List.drop_zero]; exact rfl
 go_wp2_with fail
 go_loopw [9] (fun v wr => ∃ i : Nat, i ≤ fl.length ∧ v = .int .i64 (i : Nat) ∧ wr = w.alloc (.cells #[.string (str wd), .int .i64 (on : Nat), .string (str fl)] 161) ∧ Hid (fl.contains c = (fl.drop i).contains c)) (fun v _ => (fl.length - intOf v).toNat)
 case atStart => exact ⟨0, Nat.zero_le _, rfl, rfl, hH⟩
 case round =>
  obtain ⟨i, hi, rfl, rfl, hI⟩ := hrel
  clear hH
  by_cases hlt5 : i < fl.length
  ·have t2 : decide ((i : Int) < (fl.length : Int)) = true := decide_eq_true (by omega)
   have hs : i < (str fl).size := by rw [str_size]; exact hlt5
   have he : (str fl)[i]'hs = (fl[i]'hlt5 : UInt8) := rfl
   by_cases hq : (fl[i]'hlt5 : UInt8) = c
   ·have t3 : (((((str fl)[i]'hs).toNat : Nat) : Int) == ((c.toNat : Nat) : Int)) = true := by rw [he, hq]; simp
    have hR : Hid (fl.contains c = true) := by unfold Hid; rw [hI.out, List.drop_eq_getElem_cons hlt5, List.contains_cons, hq, BEq.rfl, Bool.true_or]
    clear he hq
    go_wp2_with fail
    go_ret
    exact ⟨ret_bool hR.out.symm, by (repeat with_reducible first | exact cR _ | assumption | refine cA ?_ _ | refine cD ?_ | refine cN ?_ _ | refine cS ?_ (by first | omega | (simp <;> omega)) _)⟩
   ·have t3 : (((((str fl)[i]'hs).toNat : Nat) : Int) == ((c.toNat : Nat) : Int)) = false := by
     rw [he, beq_eq_false_iff_ne]; intro e; exact hq (UInt8.toNat_inj.1 (by omega))
    have hR : Hid (fl.contains c = (fl.drop (i + 1)).contains c) := by
     unfold Hid; rw [hI.out, List.drop_eq_getElem_cons hlt5, List.contains_cons]
     rw [show (c == (fl[i]'hlt5 : UInt8)) = false from by rw [beq_eq_false_iff_ne]; exact fun e => hq e.symm]; rfl
    clear he hq
    go_wp2_with fail
    refine ⟨⟨i + 1, hlt5, congrArg (Value.int .i64) (by omega), trivial, hR⟩, by simp [intOf]; omega⟩
  ·obtain rfl : i = fl.length := by omega
   have t2 : decide ((fl.length : Int) < (fl.length : Int)) = false := decide_eq_false (by omega)
   have hR : Hid (fl.contains c = false) := by unfold Hid; rw [hI.out, List.drop_length]; rfl
   go_wp2_with fail
   go_ret
   exact ⟨ret_bool hR.out.symm, by (repeat with_reducible first | exact cR _ | assumption | refine cA ?_ _ | refine cD ?_ | refine cN ?_ _ | refine cS ?_ (by first | omega | (simp <;> omega)) _)⟩
end Go.Proofs.YtbemnfbndjolpaaGreatDoor
