/- The walk of the document's Keys. (Printed by wip/tools/gen_rkeys.py.) -/
import Derived.Test.YtoeoodiifpoomaaGreatDoorKeysLaw
import Derived.Test.YtoeoodiifpoomaaGreatDoorParts
set_option linter.unusedSimpArgs false
set_option linter.unusedVariables false
set_option maxRecDepth 20000
namespace Go.Proofs.YtoeoodiifpoomaaGreatDoor
open Go.RowKit Moi
attribute [local go_sem] toList_str str_size less_ltB store_float
def lenOf : Value → Nat
 | .slice _ n _ => n
 | _ => 0
set_option maxHeartbeats 8000000 in
theorem rkeys_any (l : List MAct) (A : Option Addr) (n c : Nat) (hn : n ≤ 1048576) (w : World) (hr : RdActs w A n l) :
  Calls Tryz.prog 31 #[.agg #[.slice A n c]] w fun e w' => ∃ A' m c', e = .returned (.slice A' m c') ∧ RdStrs w' A' m (keysOf l) ∧ Cln w w' := by
 have hll := hr.len
 have hkl := keysOf_len l
 have hcl0 : Cln w (w.alloc (.cells #[.slice A n c] 48)) := by (repeat with_reducible first | exact cR _ | assumption | refine cA ?_ _ | refine cD ?_ | refine cN ?_ _ | refine cS ?_ (by first | omega | (simp <;> omega)) _)
 have hclA : Cln (w.alloc (.cells #[.slice A n c] 48)) ((w.alloc (.cells #[.slice A n c] 48)).alloc (.cells #[] 9)) := by (repeat with_reducible first | exact cR _ | assumption | refine cA ?_ _ | refine cD ?_ | refine cN ?_ _ | refine cS ?_ (by first | omega | (simp <;> omega)) _)
 have hb := Lib.hid ((Blk.new w 48 #[.slice A n c]).alloc (.cells #[] 9))
 have hO0 : Hid (((w.alloc (.cells #[.slice A n c] 48)).alloc (.cells #[] 9)).ownsRow (w.heap.size + 1) 9 1 (.slice (some ⟨w.heap.size + 1, 0, none⟩) 0 0) 0 (((keysOf l).take 0).map encStr)) := by
  have := World.ownsRow_lit (base := w.heap.size + 1) (e := 9) (size := 1) (w.alloc (.cells #[.slice A n c] 48)) #[] 0 (by simp) (by decide) rfl
  simp only [World.size_alloc] at this
  exact this
 have hcl2 : Hid (Cln w ((w.alloc (.cells #[.slice A n c] 48)).alloc (.cells #[] 9))) := cln_trans hcl0 hclA
 have hx0 : Hid (Cln (w.alloc (.cells #[.slice A n c] 48)) ((w.alloc (.cells #[.slice A n c] 48)).alloc (.cells #[] 9))) := hclA
 have hx1 : Hid (Cln (w.alloc (.cells #[.slice A n c] 48)) (w.alloc (.cells #[.slice A n c] 48))) := Below.refl _ _
 have hb' := Lib.hid (Blk.new w 48 #[.slice A n c])
 go_enter Tryz.func31, Tryz.ntmps31
 go_wp2_with fail
 generalize hw1 : (w.alloc (.cells #[.slice A n c] 48)) = w1 at hb' hx0 hx1 hcl0 hO0
 have hsz1 : w1.heap.size = w.heap.size + 1 := by rw [← hw1]; simp
 replace hw1 := Lib.hid hw1
 clear hcl2 hclA hb
 go_loopw [3] (fun v3 wr => ∃ (j : Nat) (A2 : Option Addr) (c2 : Nat), j ≤ (keysOf l).length ∧ v3 = .slice A2 j c2 ∧ Hid (Cln w1 wr) ∧ Hid (wr.ownsRow (w.heap.size + 1) 9 1 (.slice A2 j c2) j (((keysOf l).take j).map encStr))) (fun v _ => n - lenOf v)
 case atStart => exact ⟨0, some ⟨w.heap.size + 1, 0, none⟩, 0, Nat.zero_le _, rfl, hx0, hO0⟩
 case round =>
  clear hO0 hx0
  obtain ⟨j, A2, c2, hj, rfl, hcl1, hO⟩ := hrel
  have hcl := Lib.hid (cln_trans hcl0 hcl1.out)
  have u1 := (hb'.out.cln hcl1.out).cell 0
  have l1 := (hb'.out.cln hcl1.out).lt
  by_cases hlt : j < n
  case neg =>
   have t3 : decide ((j : Int) < (n : Int)) = false := decide_eq_false (by omega)
   have hfin : Hid ((keysOf l).take j = keysOf l) := List.take_of_length_le (by omega)
   rw [hfin.out] at hO
   go_wp2_with fail
   go_ret
   exact ⟨A2, j, c2, rfl, own_strs hO.out, hcl.out⟩
  have t3 : decide ((j : Int) < (n : Int)) = true := decide_eq_true (by omega)
  go_wp2_with fail
  clear u1 l1
  go_loopw [4, 5, 6] (fun v4 v5 v wr => ∃ (i : Nat) (s : Option (List UInt8)), i ≤ n ∧ v = .int .i64 (i : Nat) ∧ v4 = .string (str (s.getD [])) ∧ v5 = .bool s.isSome ∧ Hid (Best ((keysOf l).take j) (l.take i) s) ∧ Hid (Cln w1 wr) ∧ Hid (wr.ownsRow (w.heap.size + 1) 9 1 (.slice A2 j c2) j (((keysOf l).take j).map encStr))) (fun _ _ v _ => (n - intOf v).toNat)
  case atStart => exact ⟨0, none, Nat.zero_le _, rfl, rfl, rfl, fun a ha => by simp at ha, hcl1, hO⟩
  case round =>
   clear hcl1 hcl hO
   obtain ⟨i, s, hi, rfl, rfl, rfl, hB, hcl1, hO⟩ := hrel
   have hcl := Lib.hid (cln_trans hcl0 hcl1.out)
   have u1 := (hb'.out.cln hcl1.out).cell 0
   have l1 := (hb'.out.cln hcl1.out).lt
   by_cases hlt2 : i < n
   ·have t4 : decide ((i : Int) < (n : Int)) = true := decide_eq_true (by omega)
    obtain ⟨b, o, rfl, hblt, hcell⟩ := hr.rows (by omega)
    obtain ⟨Ax, nx, cx, hc0⟩ := hcell i hlt2
    clear hcell
    have f1 := (hc0.cln hcl.out).c1
    have hblt2 : b < wr.heap.size := by have := hcl.out.size; omega
    have hstep : Hid (Best ((keysOf l).take j) (l.take (i + 1)) (bestStep ((keysOf l).take j) s (actAt l i).key)) := by
     have := best_step hB.out (actAt l i)
     have e : l.take (i + 1) = l.take i ++ [actAt l i] := by
      rw [List.take_add_one, List.getElem?_eq_getElem (by omega)]; simp [actAt, List.getD, show i < l.length by omega]
     unfold Hid; rw [e]; exact this
    clear hc0 hB
    generalize (actAt l i).key = kx at f1 hstep
    have hRS := own_strs hO.out
    cases hcn : ((keysOf l).take j).contains kx with
    | true =>
     have hst : Hid (Best ((keysOf l).take j) (l.take (i + 1)) s) := by have h := hstep.out; unfold bestStep at h; rw [if_pos hcn] at h; exact h
     clear hstep
     replace hcn := Lib.hid hcn
     go_wp2_with fail
     refine (has_any _ kx A2 j c2 (by omega) _ hRS).mono ?_
     rintro e w3 ⟨rfl, hq⟩
     rw [hcn.out]
     have hcl3 := Lib.hid (cln_trans hcl1.out hq)
     have hO3 := Lib.hid (own_cln hO.out hq)
     clear f1 u1 l1 hq
     go_wp2_with fail
     go_roundw
     case rel => exact ⟨i + 1, s, hlt2, by go_num, rfl, rfl, hst, hcl3, hO3⟩
     case measure => simp [intOf]; omega
    | false =>
     cases s with
     | none =>
      have hst : Hid (Best ((keysOf l).take j) (l.take (i + 1)) (some kx)) := by have h := hstep.out; unfold bestStep at h; rw [if_neg (by rw [hcn]; decide)] at h; exact h
      clear hstep
      replace hcn := Lib.hid hcn
      go_wp2_with fail
      refine (has_any _ kx A2 j c2 (by omega) _ hRS).mono ?_
      rintro e w3 ⟨rfl, hq⟩
      rw [hcn.out]
      have hcl3 := Lib.hid (cln_trans hcl1.out hq)
      have hO3 := Lib.hid (own_cln hO.out hq)
      clear f1 u1 l1 hq
      go_wp2_with fail
      go_roundw
      case rel => exact ⟨i + 1, some kx, hlt2, by go_num, rfl, rfl, hst, hcl3, hO3⟩
      case measure => simp [intOf]; omega
     | some bb =>
      cases hlb : ltB kx bb with
      | true =>
       have hst : Hid (Best ((keysOf l).take j) (l.take (i + 1)) (some kx)) := by have h := hstep.out; unfold bestStep at h; rw [if_neg (by rw [hcn]; decide)] at h; simp only [hlb, if_true] at h; exact h
       clear hstep
       replace hcn := Lib.hid hcn
       go_wp2_with fail
       refine (has_any _ kx A2 j c2 (by omega) _ hRS).mono ?_
       rintro e w3 ⟨rfl, hq⟩
       rw [hcn.out]
       have hcl3 := Lib.hid (cln_trans hcl1.out hq)
       have hO3 := Lib.hid (own_cln hO.out hq)
       clear f1 u1 l1 hq
       go_wp2_with fail
       go_roundw
       case rel => exact ⟨i + 1, some kx, hlt2, by go_num, rfl, rfl, hst, hcl3, hO3⟩
       case measure => simp [intOf]; omega
      | false =>
       have hst : Hid (Best ((keysOf l).take j) (l.take (i + 1)) (some bb)) := by have h := hstep.out; unfold bestStep at h; rw [if_neg (by rw [hcn]; decide)] at h; simp only [hlb] at h; exact h
       clear hstep
       replace hcn := Lib.hid hcn
       go_wp2_with fail
       refine (has_any _ kx A2 j c2 (by omega) _ hRS).mono ?_
       rintro e w3 ⟨rfl, hq⟩
       rw [hcn.out]
       have hcl3 := Lib.hid (cln_trans hcl1.out hq)
       have hO3 := Lib.hid (own_cln hO.out hq)
       clear f1 u1 l1 hq
       go_wp2_with fail
       go_roundw
       case rel => exact ⟨i + 1, some bb, hlt2, by go_num, rfl, rfl, hst, hcl3, hO3⟩
       case measure => simp [intOf]; omega
   ·obtain rfl : i = n := by omega
    have t4 : decide ((i : Int) < (i : Int)) = false := decide_eq_false (by omega)
    rw [List.take_of_length_le (by omega : l.length ≤ i)] at hB
    have hbest := Lib.hid (best_all hB.out)
    clear hB
    cases s with
    | none =>
     have hfin : Hid ((keysOf l).take j = keysOf l) := List.take_of_length_le (by have := hbest.out; rw [eq_comm, List.getElem?_eq_none_iff] at this; exact this)
     rw [hfin.out] at hO
     go_wp2_with fail
     go_ret
     exact ⟨A2, j, c2, rfl, own_strs hO.out, hcl.out⟩
    | some bb =>
     have hjl : j < (keysOf l).length := by
      rcases Nat.lt_or_ge j (keysOf l).length with h | h
      ·exact h
      ·have := hbest.out; rw [List.getElem?_eq_none h] at this; cases this
     have hkt : Hid ((((keysOf l).take j).map encStr) ++ [.string (str bb)] = ((keysOf l).take (j + 1)).map encStr) := by
      unfold Hid; rw [List.take_add_one, ← hbest.out]; simp [encStr, str]
     have hs1 : w.heap.size + 1 ≤ wr.heap.size := by have := hcl1.out.size; omega
     obtain ⟨i0, hi0, hz0, hz1, hz2⟩ := info_parts info_strn
     clear hbest
     go_wp2_with (
      at_builtin
      refine wpList_push rfl _ _ 54 rfl (w.heap.size + 1) 9 i0 (.string ⟨#[]⟩) 1 16 Tryz.underlying54 hi0 hz0 hz1 hz2 rfl (by decide) (by decide) (.slice A2 j c2) j (((keysOf l).take j).map encStr) [.string (str bb)] rfl (by simp [Value.oneCell']) rfl rfl hO.out (by omega) hs1 ?_
      intro v' w7 hown7 hgr7
      obtain ⟨A3, c3, rfl, _, _⟩ := own_form hown7
      rw [hkt.out] at hown7
      have hk7 : Kept (fun k => w.heap.size + 1 ≤ k) _ w7 := ((Kept.refl _ wr).alloc _).grown hgr7 (fun k hk _ => (own_ge hO.out k hk).1)
      have hcl7 := Lib.hid (((Kept.of_below (S := fun k => w.heap.size + 1 ≤ k) hcl1.out).then_ hk7 (fun _ _ h => h)).toBelow (Nat.le_refl _) (fun k hk h => by omega))
      replace hown7 := Lib.hid hown7
      clear hgr7 hk7 u1 l1)
     go_roundw
     case rel => exact ⟨j + 1, A3, c3, by omega, rfl, hcl7, hown7⟩
     case measure => simp [lenOf]; omega
end Go.Proofs.YtoeoodiifpoomaaGreatDoor
