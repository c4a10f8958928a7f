/- The walk of rec.Take, class by class. (Printed by wip/tools/gen_take.py.) -/
import Derived.Test.YtocllhghbmbjpaaDoorWTake
set_option linter.unusedSimpArgs false
set_option linter.unusedVariables false
set_option maxRecDepth 20000
namespace Go.Proofs.YtocllhghbmbjpaaDoor
open Go.RowKit Moi
attribute [local go_sem] toList_str str_size less_ltB store_float

set_option maxHeartbeats 2000000 in
theorem take_text (p : Nat) (A : Option Addr) (n c : Nat) (bs : List UInt8) (a : Nat) (w : World) (hr : IsR w p A n c bs a) (hA : ∀ ad, A = some ad → ad.block < w.heap.size)
    (k a1 : Nat) (hk : rUpto 9 bs a = .ok (k, a1)) (hk1 : k = 1) :
    Calls Tryd.prog 63 #[.pointer (some ⟨p, 0, none⟩)] w (RPost (encRec w.heap.size) w p A n c bs (rRec bs a)) := by
  have hs : shapeOf (k : Int) = ⟨true, false, false, false, false⟩ := by rw [hk1]; rfl
  have hspec1 : Hid (rRec bs a = (match rS 64 bs a1 with | .error e => .error e | .ok (x, a) => rDone ⟨(k : Int), 0, 0, 0, 0, 0, x, []⟩  a)) := by unfold Hid rRec; simp only [hk]; rw [if_neg (by omega)]; unfold rBody; rw [if_pos hk1]; try rfl
  have hk9 : k ≤ 9 := by omega
  have hk0 : ((k : Int) == 0) = false := by rw [beq_eq_false_iff_ne]; omega
  have hkW : Hid (-9223372036854775808 ≤ (k : Int) ∧ (k : Int) < 9223372036854775808) := ⟨by omega, by omega⟩
  have hk' := Lib.hid hk
  have hk1' := Lib.hid hk1
  clear hk hk1
  have hpl := hr.blk.lt
  go_enter Tryd.func63, Tryd.ntmps63
  go_wp2_with fail
  have hcl0 : Cln w ((w.alloc (.cells #[.int .i64 0, .int .i64 0, .int .i64 0, .int .i64 0, .float .f64 0, .int .i64 0, .string ⟨#[]⟩, .slice none 0 0] 31)).alloc (.cells #[.int .i64 0, .int .i64 0, .int .i64 0, .int .i64 0, .float .f64 0, .int .i64 0, .string ⟨#[]⟩, .slice none 0 0] 31)) := by (repeat (first | (with_reducible exact Below.refl _ _) | (with_reducible assumption) | (with_reducible refine Below.setCell ?_ (by first | omega | (simp; done) | (simp; omega)) _) | (with_reducible refine Below.alloc ?_ (by first | omega | (simp; done) | (simp; omega)) _) | (with_reducible refine Below.drew ?_) | (with_reducible refine below_drewN ?_ _)))
  have hb0 := (Blk.new w 31 #[.int .i64 0, .int .i64 0, .int .i64 0, .int .i64 0, .float .f64 0, .int .i64 0, .string ⟨#[]⟩, .slice none 0 0]).alloc (.cells #[.int .i64 0, .int .i64 0, .int .i64 0, .int .i64 0, .float .f64 0, .int .i64 0, .string ⟨#[]⟩, .slice none 0 0] 31)
  have hb1 := Blk.new (w.alloc (.cells #[.int .i64 0, .int .i64 0, .int .i64 0, .int .i64 0, .float .f64 0, .int .i64 0, .string ⟨#[]⟩, .slice none 0 0] 31)) 31 #[.int .i64 0, .int .i64 0, .int .i64 0, .int .i64 0, .float .f64 0, .int .i64 0, .string ⟨#[]⟩, .slice none 0 0]
  simp only [World.size_alloc] at hb1
  refine (upto_any p A n c bs a 9 (by omega) _ (hr.cln hcl0)).mono ?_
  intro e w1 h
  rcases h.cases with ⟨x, a2, v, hres, rfl, hv, hr2, hk2⟩ | ⟨f, hres, rfl, hk2⟩
  case inr => rw [hk'.out] at hres; cases hres
  rw [hk'.out] at hres
  injection hres with hres; injection hres with e1 e2; subst e1; subst e2
  have hv' : v = .int .i64 (k : Nat) := hv
  subst hv'
  clear hv h
  have hb0' := hb0.kept hk2 (show ¬ w.heap.size = p by omega)
  have hb1' := hb1.kept hk2 (show ¬ w.heap.size + 1 = p by omega)
  have hlt0 := hb0'.lt
  have hlt1 := hb1'.lt
  have hc1 := hb1'.cell
  have hf1 := hb1'.frozen
  have hK1 := (Kept.of_below (S := (· = p)) hcl0).trans hk2
  have hr2' := Lib.hid hr2
  clear hb0 hb1 hcl0
  go_wp2_with fail
  refine (shaped_any (k : Int) _).mono ?_; rintro e w2 ⟨rfl, hq⟩; rw [hs]; unfold shapeVal
  have st1 : TakeSt w p A n c bs w.heap.size (w.heap.size + 1) w2.heap.size #[.int .i64 (k : Int), .int .i64 0, .int .i64 0, .int .i64 0, .float .f64 0, .int .i64 0, .string ⟨#[]⟩, .slice none 0 0] #[.bool true, .bool false, .bool false, .bool false, .bool false] (w2.alloc (.cells #[.bool true, .bool false, .bool false, .bool false, .bool false] 98)) a1 := by
    have hne2 : ∀ ad, A = some ad → ad.block ≠ w.heap.size + 1 := fun ad e => by have := hA ad e; omega
    have hne0 : ∀ ad, A = some ad → ad.block ≠ w.heap.size := fun ad e => by have := hA ad e; omega
    have hb1s : Blk _ (w.heap.size + 1) 31 #[.int .i64 (k : Int), .int .i64 0, .int .i64 0, .int .i64 0, .float .f64 0, .int .i64 0, .string ⟨#[]⟩, .slice none 0 0] := hb1'.set_ 0 (.int .i64 (k : Int))
    have hcln2 : Cln (w1.setCell ⟨w.heap.size + 1, 0, none⟩ (.int .i64 (k : Int))) (w2.alloc (.cells #[.bool true, .bool false, .bool false, .bool false, .bool false] 98)) := cln_trans hq ((Below.refl _ _).alloc (Nat.le_refl _) _)
    have hsz2 := hq.size
    simp only [World.size_setCell] at hsz2
    exact ⟨(hr2'.out.other (q := ⟨w.heap.size + 1, 0, none⟩) (by simp; omega) hne2 _).cln hcln2, (hK1.setCell (p := ⟨w.heap.size + 1, 0, none⟩) (fun h => by simp at h; omega) _).below_ hcln2,
      (hb0'.far (p := ⟨w.heap.size + 1, 0, none⟩) (by simp) _).cln hcln2, hb1s.cln hcln2, Blk.new w2 _ _, by omega, by omega, by omega, by omega, by omega, by omega, hne0, hne2⟩
  have hA' := Lib.hid hA
  have hlt2 : Hid (w.heap.size + 1 < w2.heap.size) := by have hsz2 := hq.size; simp only [World.size_setCell] at hsz2; unfold Hid; omega
  have hne21 : ¬ w2.heap.size = w.heap.size + 1 := by have := hlt2.out; omega
  have hne12 : ¬ w.heap.size + 1 = w2.heap.size := by have := hlt2.out; omega
  clear hq hb0' hb1' hc1 hf1 hK1 hr2' hr2 hk2 hA hr hs
  have hc1 := st1.b1.cell
  have hf1 := st1.b1.frozen
  have hs1 := st1.b2.cell
  have hl1 := st1.b1.lt
  have hm1 := st1.b0.frozen
  go_wp2_with fail
  refine (s_any p A n c bs a1 64 (by omega) _ st1.R).mono ?_
  intro e w' h
  rcases h.cases with ⟨x, b2, v, hres, rfl, hv, hr2, hk2⟩ | ⟨f, hres, rfl, hk2⟩
  case inr =>
    have hres' := Lib.hid hres; clear hres h
    go_wp2_with fail
    refine ⟨rfl, ?_⟩
    rw [hspec1.out]; simp only [hres'.out]
    exact ⟨rfl, st1.K.trans hk2⟩
  have hv' : v = .string (str x) := hv
  subst hv'
  have hspec2 : Hid (rRec bs a = rDone ⟨(k : Int), 0, 0, 0, 0, 0, x, []⟩ b2) := by unfold Hid; rw [hspec1.out]; simp only [hres]
  skip
  have hres1 := Lib.hid hres
  have stm1 := st1.step hr2 hk2
  clear h hv hres hr2 hk2
  clear hc1 hf1 hs1 hl1 hm1
  have hc1 := stm1.b1.cell
  have hf1 := stm1.b1.frozen
  have hs1 := stm1.b2.cell
  have hl1 := stm1.b1.lt
  have hm1 := stm1.b0.frozen
  have st2 := stm1.store (cs1' := #[.int .i64 (k : Int), .int .i64 0, .int .i64 0, .int .i64 0, .float .f64 0, .int .i64 0, .string (str x), .slice none 0 0]) 6 (.string (str x)) rfl
  go_wp2_with fail
  refine (check_any ⟨(k : Int), 0, 0, 0, 0, 0, x, []⟩ none 0 0 (by omega) ⟨hkW.out, z64, z64, z64, zF, z64⟩ _ (RdItems.none_ _)).mono ?_
  rintro e w4 ⟨rfl, hq⟩
  have stF := st2.cln hq
  have hLF : RdItems w4 none 0 _ := RdItems.cln (RdItems.none_ _) hq
  have hwf : MRec.WF ⟨(k : Int), 0, 0, 0, 0, 0, x, []⟩ := ⟨hkW.out, z64, z64, z64, zF, z64⟩
  have hle9 : checkRec ⟨(k : Int), 0, 0, 0, 0, 0, x, []⟩ ≤ 8 := checkRec_le _
  have hspF := hspec2.out
  generalize hC : checkRec ⟨(k : Int), 0, 0, 0, 0, 0, x, []⟩ = ck at hle9 ⊢
  unfold rDone at hspF
  rw [hC] at hspF
  have hspF' := Lib.hid hspF
  clear hspF hC hq
  by_cases hz : ck = 0
  · subst hz
    have hspF : Hid (rRec bs a = .ok (⟨(k : Int), 0, 0, 0, 0, 0, x, []⟩, b2)) := by unfold Hid; rw [hspF'.out, if_pos rfl]
    have hc := stF.b1.cell
    have hf := stF.b1.frozen
    have hm := stF.b0.frozen
    have hl0 := stF.b0.lt
    have hc0 := stF.b0.cell
    have hl := stF.b1.lt
    go_wp2_with fail
    have hfin := stF.fin8 (.int .i64 (k : Int)) (.int .i64 0) (.int .i64 0) (.int .i64 0) (.float .f64 0) (.int .i64 0) (.string (str x)) (.slice none 0 0)
    have t1 : (Tryd.prog.info? 31).map (·.size) = some 8 := by kernel_rfl
    refine bodyPost_ret (v := .agg #[.int .i64 (k : Int), .int .i64 0, .int .i64 0, .int .i64 0, .float .f64 0, .int .i64 0, .string (str x), .slice none 0 0]) ?_ rfl ?_
    · refine results_cell_row Tryd.results63 _ _ w.heap.size 31 #[.int .i64 (k : Int), .int .i64 0, .int .i64 0, .int .i64 0, .float .f64 0, .int .i64 0, .string (str x), .slice none 0 0] (0, 0) _ ?_ ?_ Tryd.underlying31 ?_ ?_
      · rfl
      · exact hfin
      · rfl
      · exact t1
    · rw [hspF.out]
      exact stF.fin _ hwf _ _ _ hLF (by omega) (fun ad e => by cases e)
  · have hz1 : (((ck : Nat) : Int) == 0) = false := by rw [beq_eq_false_iff_ne]; omega
    have hz2 : ¬ ((ck : Nat) : Int) = 0 := by omega
    have hspF : Hid (rRec bs a = .error (ck, b2)) := by unfold Hid; rw [hspF'.out, if_neg hz]
    go_wp2_with fail
    refine (Fail_any p A n c bs b2 ck _ stF.R).mono ?_
    rintro e w5 ⟨rfl, rfl⟩
    go_wp2_with fail
    refine ⟨rfl, ?_⟩
    rw [hspF.out]
    exact ⟨rfl, stF.K⟩

set_option maxHeartbeats 2000000 in
theorem take_num (p : Nat) (A : Option Addr) (n c : Nat) (bs : List UInt8) (a : Nat) (w : World) (hr : IsR w p A n c bs a) (hA : ∀ ad, A = some ad → ad.block < w.heap.size)
    (k a1 : Nat) (hk : rUpto 9 bs a = .ok (k, a1)) (hk1 : k = 2 ∨ k = 3) :
    Calls Tryd.prog 63 #[.pointer (some ⟨p, 0, none⟩)] w (RPost (encRec w.heap.size) w p A n c bs (rRec bs a)) := by
  have hs : shapeOf (k : Int) = ⟨false, true, false, false, false⟩ := by rcases hk1 with rfl | rfl <;> rfl
  have hspec1 : Hid (rRec bs a = (match rI bs a1 with | .error e => .error e | .ok (x, a) => rDone ⟨(k : Int), x, 0, 0, 0, 0, [], []⟩  a)) := by unfold Hid rRec; simp only [hk]; rw [if_neg (by omega)]; unfold rBody; rw [if_neg (by omega), if_pos hk1]; try rfl
  have hk9 : k ≤ 9 := by omega
  have hk0 : ((k : Int) == 0) = false := by rw [beq_eq_false_iff_ne]; omega
  have hkW : Hid (-9223372036854775808 ≤ (k : Int) ∧ (k : Int) < 9223372036854775808) := ⟨by omega, by omega⟩
  have hk' := Lib.hid hk
  have hk1' := Lib.hid hk1
  clear hk hk1
  have hpl := hr.blk.lt
  go_enter Tryd.func63, Tryd.ntmps63
  go_wp2_with fail
  have hcl0 : Cln w ((w.alloc (.cells #[.int .i64 0, .int .i64 0, .int .i64 0, .int .i64 0, .float .f64 0, .int .i64 0, .string ⟨#[]⟩, .slice none 0 0] 31)).alloc (.cells #[.int .i64 0, .int .i64 0, .int .i64 0, .int .i64 0, .float .f64 0, .int .i64 0, .string ⟨#[]⟩, .slice none 0 0] 31)) := by (repeat (first | (with_reducible exact Below.refl _ _) | (with_reducible assumption) | (with_reducible refine Below.setCell ?_ (by first | omega | (simp; done) | (simp; omega)) _) | (with_reducible refine Below.alloc ?_ (by first | omega | (simp; done) | (simp; omega)) _) | (with_reducible refine Below.drew ?_) | (with_reducible refine below_drewN ?_ _)))
  have hb0 := (Blk.new w 31 #[.int .i64 0, .int .i64 0, .int .i64 0, .int .i64 0, .float .f64 0, .int .i64 0, .string ⟨#[]⟩, .slice none 0 0]).alloc (.cells #[.int .i64 0, .int .i64 0, .int .i64 0, .int .i64 0, .float .f64 0, .int .i64 0, .string ⟨#[]⟩, .slice none 0 0] 31)
  have hb1 := Blk.new (w.alloc (.cells #[.int .i64 0, .int .i64 0, .int .i64 0, .int .i64 0, .float .f64 0, .int .i64 0, .string ⟨#[]⟩, .slice none 0 0] 31)) 31 #[.int .i64 0, .int .i64 0, .int .i64 0, .int .i64 0, .float .f64 0, .int .i64 0, .string ⟨#[]⟩, .slice none 0 0]
  simp only [World.size_alloc] at hb1
  refine (upto_any p A n c bs a 9 (by omega) _ (hr.cln hcl0)).mono ?_
  intro e w1 h
  rcases h.cases with ⟨x, a2, v, hres, rfl, hv, hr2, hk2⟩ | ⟨f, hres, rfl, hk2⟩
  case inr => rw [hk'.out] at hres; cases hres
  rw [hk'.out] at hres
  injection hres with hres; injection hres with e1 e2; subst e1; subst e2
  have hv' : v = .int .i64 (k : Nat) := hv
  subst hv'
  clear hv h
  have hb0' := hb0.kept hk2 (show ¬ w.heap.size = p by omega)
  have hb1' := hb1.kept hk2 (show ¬ w.heap.size + 1 = p by omega)
  have hlt0 := hb0'.lt
  have hlt1 := hb1'.lt
  have hc1 := hb1'.cell
  have hf1 := hb1'.frozen
  have hK1 := (Kept.of_below (S := (· = p)) hcl0).trans hk2
  have hr2' := Lib.hid hr2
  clear hb0 hb1 hcl0
  go_wp2_with fail
  refine (shaped_any (k : Int) _).mono ?_; rintro e w2 ⟨rfl, hq⟩; rw [hs]; unfold shapeVal
  have st1 : TakeSt w p A n c bs w.heap.size (w.heap.size + 1) w2.heap.size #[.int .i64 (k : Int), .int .i64 0, .int .i64 0, .int .i64 0, .float .f64 0, .int .i64 0, .string ⟨#[]⟩, .slice none 0 0] #[.bool false, .bool true, .bool false, .bool false, .bool false] (w2.alloc (.cells #[.bool false, .bool true, .bool false, .bool false, .bool false] 98)) a1 := by
    have hne2 : ∀ ad, A = some ad → ad.block ≠ w.heap.size + 1 := fun ad e => by have := hA ad e; omega
    have hne0 : ∀ ad, A = some ad → ad.block ≠ w.heap.size := fun ad e => by have := hA ad e; omega
    have hb1s : Blk _ (w.heap.size + 1) 31 #[.int .i64 (k : Int), .int .i64 0, .int .i64 0, .int .i64 0, .float .f64 0, .int .i64 0, .string ⟨#[]⟩, .slice none 0 0] := hb1'.set_ 0 (.int .i64 (k : Int))
    have hcln2 : Cln (w1.setCell ⟨w.heap.size + 1, 0, none⟩ (.int .i64 (k : Int))) (w2.alloc (.cells #[.bool false, .bool true, .bool false, .bool false, .bool false] 98)) := cln_trans hq ((Below.refl _ _).alloc (Nat.le_refl _) _)
    have hsz2 := hq.size
    simp only [World.size_setCell] at hsz2
    exact ⟨(hr2'.out.other (q := ⟨w.heap.size + 1, 0, none⟩) (by simp; omega) hne2 _).cln hcln2, (hK1.setCell (p := ⟨w.heap.size + 1, 0, none⟩) (fun h => by simp at h; omega) _).below_ hcln2,
      (hb0'.far (p := ⟨w.heap.size + 1, 0, none⟩) (by simp) _).cln hcln2, hb1s.cln hcln2, Blk.new w2 _ _, by omega, by omega, by omega, by omega, by omega, by omega, hne0, hne2⟩
  have hA' := Lib.hid hA
  have hlt2 : Hid (w.heap.size + 1 < w2.heap.size) := by have hsz2 := hq.size; simp only [World.size_setCell] at hsz2; unfold Hid; omega
  have hne21 : ¬ w2.heap.size = w.heap.size + 1 := by have := hlt2.out; omega
  have hne12 : ¬ w.heap.size + 1 = w2.heap.size := by have := hlt2.out; omega
  clear hq hb0' hb1' hc1 hf1 hK1 hr2' hr2 hk2 hA hr hs
  have hc1 := st1.b1.cell
  have hf1 := st1.b1.frozen
  have hs1 := st1.b2.cell
  have hl1 := st1.b1.lt
  have hm1 := st1.b0.frozen
  go_wp2_with fail
  refine (i_any p A n c bs a1 _ st1.R).mono ?_
  intro e w' h
  rcases h.cases with ⟨x, b2, v, hres, rfl, hv, hr2, hk2⟩ | ⟨f, hres, rfl, hk2⟩
  case inr =>
    have hres' := Lib.hid hres; clear hres h
    go_wp2_with fail
    refine ⟨rfl, ?_⟩
    rw [hspec1.out]; simp only [hres'.out]
    exact ⟨rfl, st1.K.trans hk2⟩
  have hv' : v = .int .i64 x := hv
  subst hv'
  have hspec2 : Hid (rRec bs a = rDone ⟨(k : Int), x, 0, 0, 0, 0, [], []⟩ b2) := by unfold Hid; rw [hspec1.out]; simp only [hres]
  have hx := rI_lt hres
  have hres1 := Lib.hid hres
  have stm1 := st1.step hr2 hk2
  clear h hv hres hr2 hk2
  clear hc1 hf1 hs1 hl1 hm1
  have hc1 := stm1.b1.cell
  have hf1 := stm1.b1.frozen
  have hs1 := stm1.b2.cell
  have hl1 := stm1.b1.lt
  have hm1 := stm1.b0.frozen
  have st2 := stm1.store (cs1' := #[.int .i64 (k : Int), .int .i64 x, .int .i64 0, .int .i64 0, .float .f64 0, .int .i64 0, .string ⟨#[]⟩, .slice none 0 0]) 1 (.int .i64 x) rfl
  go_wp2_with fail
  refine (check_any ⟨(k : Int), x, 0, 0, 0, 0, [], []⟩ none 0 0 (by omega) ⟨hkW.out, hx, z64, z64, zF, z64⟩ _ (RdItems.none_ _)).mono ?_
  rintro e w4 ⟨rfl, hq⟩
  have stF := st2.cln hq
  have hLF : RdItems w4 none 0 _ := RdItems.cln (RdItems.none_ _) hq
  have hwf : MRec.WF ⟨(k : Int), x, 0, 0, 0, 0, [], []⟩ := ⟨hkW.out, hx, z64, z64, zF, z64⟩
  have hle9 : checkRec ⟨(k : Int), x, 0, 0, 0, 0, [], []⟩ ≤ 8 := checkRec_le _
  have hspF := hspec2.out
  generalize hC : checkRec ⟨(k : Int), x, 0, 0, 0, 0, [], []⟩ = ck at hle9 ⊢
  unfold rDone at hspF
  rw [hC] at hspF
  have hspF' := Lib.hid hspF
  clear hspF hC hq
  by_cases hz : ck = 0
  · subst hz
    have hspF : Hid (rRec bs a = .ok (⟨(k : Int), x, 0, 0, 0, 0, [], []⟩, b2)) := by unfold Hid; rw [hspF'.out, if_pos rfl]
    have hc := stF.b1.cell
    have hf := stF.b1.frozen
    have hm := stF.b0.frozen
    have hl0 := stF.b0.lt
    have hc0 := stF.b0.cell
    have hl := stF.b1.lt
    go_wp2_with fail
    have hfin := stF.fin8 (.int .i64 (k : Int)) (.int .i64 x) (.int .i64 0) (.int .i64 0) (.float .f64 0) (.int .i64 0) (.string ⟨#[]⟩) (.slice none 0 0)
    have t1 : (Tryd.prog.info? 31).map (·.size) = some 8 := by kernel_rfl
    refine bodyPost_ret (v := .agg #[.int .i64 (k : Int), .int .i64 x, .int .i64 0, .int .i64 0, .float .f64 0, .int .i64 0, .string ⟨#[]⟩, .slice none 0 0]) ?_ rfl ?_
    · refine results_cell_row Tryd.results63 _ _ w.heap.size 31 #[.int .i64 (k : Int), .int .i64 x, .int .i64 0, .int .i64 0, .float .f64 0, .int .i64 0, .string ⟨#[]⟩, .slice none 0 0] (0, 0) _ ?_ ?_ Tryd.underlying31 ?_ ?_
      · rfl
      · exact hfin
      · rfl
      · exact t1
    · rw [hspF.out]
      exact stF.fin _ hwf _ _ _ hLF (by omega) (fun ad e => by cases e)
  · have hz1 : (((ck : Nat) : Int) == 0) = false := by rw [beq_eq_false_iff_ne]; omega
    have hz2 : ¬ ((ck : Nat) : Int) = 0 := by omega
    have hspF : Hid (rRec bs a = .error (ck, b2)) := by unfold Hid; rw [hspF'.out, if_neg hz]
    go_wp2_with fail
    refine (Fail_any p A n c bs b2 ck _ stF.R).mono ?_
    rintro e w5 ⟨rfl, rfl⟩
    go_wp2_with fail
    refine ⟨rfl, ?_⟩
    rw [hspF.out]
    exact ⟨rfl, stF.K⟩

set_option maxHeartbeats 2000000 in
theorem take_real (p : Nat) (A : Option Addr) (n c : Nat) (bs : List UInt8) (a : Nat) (w : World) (hr : IsR w p A n c bs a) (hA : ∀ ad, A = some ad → ad.block < w.heap.size)
    (k a1 : Nat) (hk : rUpto 9 bs a = .ok (k, a1)) (hk1 : k = 5 ∨ k = 6 ∨ k = 7) :
    Calls Tryd.prog 63 #[.pointer (some ⟨p, 0, none⟩)] w (RPost (encRec w.heap.size) w p A n c bs (rRec bs a)) := by
  have hs : shapeOf (k : Int) = ⟨false, false, false, true, false⟩ := by rcases hk1 with rfl | rfl | rfl <;> rfl
  have hspec1 : Hid (rRec bs a = (match rF bs a1 with | .error e => .error e | .ok (x, a) => rDone ⟨(k : Int), 0, 0, 0, x, 0, [], []⟩  a)) := by unfold Hid rRec; simp only [hk]; rw [if_neg (by omega)]; unfold rBody; rw [if_neg (by omega), if_neg (by omega), if_neg (by omega), if_pos hk1]; try rfl
  have hk9 : k ≤ 9 := by omega
  have hk0 : ((k : Int) == 0) = false := by rw [beq_eq_false_iff_ne]; omega
  have hkW : Hid (-9223372036854775808 ≤ (k : Int) ∧ (k : Int) < 9223372036854775808) := ⟨by omega, by omega⟩
  have hk' := Lib.hid hk
  have hk1' := Lib.hid hk1
  clear hk hk1
  have hpl := hr.blk.lt
  go_enter Tryd.func63, Tryd.ntmps63
  go_wp2_with fail
  have hcl0 : Cln w ((w.alloc (.cells #[.int .i64 0, .int .i64 0, .int .i64 0, .int .i64 0, .float .f64 0, .int .i64 0, .string ⟨#[]⟩, .slice none 0 0] 31)).alloc (.cells #[.int .i64 0, .int .i64 0, .int .i64 0, .int .i64 0, .float .f64 0, .int .i64 0, .string ⟨#[]⟩, .slice none 0 0] 31)) := by (repeat (first | (with_reducible exact Below.refl _ _) | (with_reducible assumption) | (with_reducible refine Below.setCell ?_ (by first | omega | (simp; done) | (simp; omega)) _) | (with_reducible refine Below.alloc ?_ (by first | omega | (simp; done) | (simp; omega)) _) | (with_reducible refine Below.drew ?_) | (with_reducible refine below_drewN ?_ _)))
  have hb0 := (Blk.new w 31 #[.int .i64 0, .int .i64 0, .int .i64 0, .int .i64 0, .float .f64 0, .int .i64 0, .string ⟨#[]⟩, .slice none 0 0]).alloc (.cells #[.int .i64 0, .int .i64 0, .int .i64 0, .int .i64 0, .float .f64 0, .int .i64 0, .string ⟨#[]⟩, .slice none 0 0] 31)
  have hb1 := Blk.new (w.alloc (.cells #[.int .i64 0, .int .i64 0, .int .i64 0, .int .i64 0, .float .f64 0, .int .i64 0, .string ⟨#[]⟩, .slice none 0 0] 31)) 31 #[.int .i64 0, .int .i64 0, .int .i64 0, .int .i64 0, .float .f64 0, .int .i64 0, .string ⟨#[]⟩, .slice none 0 0]
  simp only [World.size_alloc] at hb1
  refine (upto_any p A n c bs a 9 (by omega) _ (hr.cln hcl0)).mono ?_
  intro e w1 h
  rcases h.cases with ⟨x, a2, v, hres, rfl, hv, hr2, hk2⟩ | ⟨f, hres, rfl, hk2⟩
  case inr => rw [hk'.out] at hres; cases hres
  rw [hk'.out] at hres
  injection hres with hres; injection hres with e1 e2; subst e1; subst e2
  have hv' : v = .int .i64 (k : Nat) := hv
  subst hv'
  clear hv h
  have hb0' := hb0.kept hk2 (show ¬ w.heap.size = p by omega)
  have hb1' := hb1.kept hk2 (show ¬ w.heap.size + 1 = p by omega)
  have hlt0 := hb0'.lt
  have hlt1 := hb1'.lt
  have hc1 := hb1'.cell
  have hf1 := hb1'.frozen
  have hK1 := (Kept.of_below (S := (· = p)) hcl0).trans hk2
  have hr2' := Lib.hid hr2
  clear hb0 hb1 hcl0
  go_wp2_with fail
  refine (shaped_any (k : Int) _).mono ?_; rintro e w2 ⟨rfl, hq⟩; rw [hs]; unfold shapeVal
  have st1 : TakeSt w p A n c bs w.heap.size (w.heap.size + 1) w2.heap.size #[.int .i64 (k : Int), .int .i64 0, .int .i64 0, .int .i64 0, .float .f64 0, .int .i64 0, .string ⟨#[]⟩, .slice none 0 0] #[.bool false, .bool false, .bool false, .bool true, .bool false] (w2.alloc (.cells #[.bool false, .bool false, .bool false, .bool true, .bool false] 98)) a1 := by
    have hne2 : ∀ ad, A = some ad → ad.block ≠ w.heap.size + 1 := fun ad e => by have := hA ad e; omega
    have hne0 : ∀ ad, A = some ad → ad.block ≠ w.heap.size := fun ad e => by have := hA ad e; omega
    have hb1s : Blk _ (w.heap.size + 1) 31 #[.int .i64 (k : Int), .int .i64 0, .int .i64 0, .int .i64 0, .float .f64 0, .int .i64 0, .string ⟨#[]⟩, .slice none 0 0] := hb1'.set_ 0 (.int .i64 (k : Int))
    have hcln2 : Cln (w1.setCell ⟨w.heap.size + 1, 0, none⟩ (.int .i64 (k : Int))) (w2.alloc (.cells #[.bool false, .bool false, .bool false, .bool true, .bool false] 98)) := cln_trans hq ((Below.refl _ _).alloc (Nat.le_refl _) _)
    have hsz2 := hq.size
    simp only [World.size_setCell] at hsz2
    exact ⟨(hr2'.out.other (q := ⟨w.heap.size + 1, 0, none⟩) (by simp; omega) hne2 _).cln hcln2, (hK1.setCell (p := ⟨w.heap.size + 1, 0, none⟩) (fun h => by simp at h; omega) _).below_ hcln2,
      (hb0'.far (p := ⟨w.heap.size + 1, 0, none⟩) (by simp) _).cln hcln2, hb1s.cln hcln2, Blk.new w2 _ _, by omega, by omega, by omega, by omega, by omega, by omega, hne0, hne2⟩
  have hA' := Lib.hid hA
  have hlt2 : Hid (w.heap.size + 1 < w2.heap.size) := by have hsz2 := hq.size; simp only [World.size_setCell] at hsz2; unfold Hid; omega
  have hne21 : ¬ w2.heap.size = w.heap.size + 1 := by have := hlt2.out; omega
  have hne12 : ¬ w.heap.size + 1 = w2.heap.size := by have := hlt2.out; omega
  clear hq hb0' hb1' hc1 hf1 hK1 hr2' hr2 hk2 hA hr hs
  have hc1 := st1.b1.cell
  have hf1 := st1.b1.frozen
  have hs1 := st1.b2.cell
  have hl1 := st1.b1.lt
  have hm1 := st1.b0.frozen
  go_wp2_with fail
  refine (f_any p A n c bs a1 _ st1.R).mono ?_
  intro e w' h
  rcases h.cases with ⟨x, b2, v, hres, rfl, hv, hr2, hk2⟩ | ⟨f, hres, rfl, hk2⟩
  case inr =>
    have hres' := Lib.hid hres; clear hres h
    go_wp2_with fail
    refine ⟨rfl, ?_⟩
    rw [hspec1.out]; simp only [hres'.out]
    exact ⟨rfl, st1.K.trans hk2⟩
  have hv' : v = .float .f64 x := hv
  subst hv'
  have hspec2 : Hid (rRec bs a = rDone ⟨(k : Int), 0, 0, 0, x, 0, [], []⟩ b2) := by unfold Hid; rw [hspec1.out]; simp only [hres]
  have hx := rF_lt hres
  have hres1 := Lib.hid hres
  have stm1 := st1.step hr2 hk2
  clear h hv hres hr2 hk2
  clear hc1 hf1 hs1 hl1 hm1
  have hc1 := stm1.b1.cell
  have hf1 := stm1.b1.frozen
  have hs1 := stm1.b2.cell
  have hl1 := stm1.b1.lt
  have hm1 := stm1.b0.frozen
  have st2 := stm1.store (cs1' := #[.int .i64 (k : Int), .int .i64 0, .int .i64 0, .int .i64 0, .float .f64 x, .int .i64 0, .string ⟨#[]⟩, .slice none 0 0]) 4 (.float .f64 x) rfl
  go_wp2_with fail
  refine (check_any ⟨(k : Int), 0, 0, 0, x, 0, [], []⟩ none 0 0 (by omega) ⟨hkW.out, z64, z64, z64, hx, z64⟩ _ (RdItems.none_ _)).mono ?_
  rintro e w4 ⟨rfl, hq⟩
  have stF := st2.cln hq
  have hLF : RdItems w4 none 0 _ := RdItems.cln (RdItems.none_ _) hq
  have hwf : MRec.WF ⟨(k : Int), 0, 0, 0, x, 0, [], []⟩ := ⟨hkW.out, z64, z64, z64, hx, z64⟩
  have hle9 : checkRec ⟨(k : Int), 0, 0, 0, x, 0, [], []⟩ ≤ 8 := checkRec_le _
  have hspF := hspec2.out
  generalize hC : checkRec ⟨(k : Int), 0, 0, 0, x, 0, [], []⟩ = ck at hle9 ⊢
  unfold rDone at hspF
  rw [hC] at hspF
  have hspF' := Lib.hid hspF
  clear hspF hC hq
  by_cases hz : ck = 0
  · subst hz
    have hspF : Hid (rRec bs a = .ok (⟨(k : Int), 0, 0, 0, x, 0, [], []⟩, b2)) := by unfold Hid; rw [hspF'.out, if_pos rfl]
    have hc := stF.b1.cell
    have hf := stF.b1.frozen
    have hm := stF.b0.frozen
    have hl0 := stF.b0.lt
    have hc0 := stF.b0.cell
    have hl := stF.b1.lt
    go_wp2_with fail
    have hfin := stF.fin8 (.int .i64 (k : Int)) (.int .i64 0) (.int .i64 0) (.int .i64 0) (.float .f64 x) (.int .i64 0) (.string ⟨#[]⟩) (.slice none 0 0)
    have t1 : (Tryd.prog.info? 31).map (·.size) = some 8 := by kernel_rfl
    refine bodyPost_ret (v := .agg #[.int .i64 (k : Int), .int .i64 0, .int .i64 0, .int .i64 0, .float .f64 x, .int .i64 0, .string ⟨#[]⟩, .slice none 0 0]) ?_ rfl ?_
    · refine results_cell_row Tryd.results63 _ _ w.heap.size 31 #[.int .i64 (k : Int), .int .i64 0, .int .i64 0, .int .i64 0, .float .f64 x, .int .i64 0, .string ⟨#[]⟩, .slice none 0 0] (0, 0) _ ?_ ?_ Tryd.underlying31 ?_ ?_
      · rfl
      · exact hfin
      · rfl
      · exact t1
    · rw [hspF.out]
      exact stF.fin _ hwf _ _ _ hLF (by omega) (fun ad e => by cases e)
  · have hz1 : (((ck : Nat) : Int) == 0) = false := by rw [beq_eq_false_iff_ne]; omega
    have hz2 : ¬ ((ck : Nat) : Int) = 0 := by omega
    have hspF : Hid (rRec bs a = .error (ck, b2)) := by unfold Hid; rw [hspF'.out, if_neg hz]
    go_wp2_with fail
    refine (Fail_any p A n c bs b2 ck _ stF.R).mono ?_
    rintro e w5 ⟨rfl, rfl⟩
    go_wp2_with fail
    refine ⟨rfl, ?_⟩
    rw [hspF.out]
    exact ⟨rfl, stF.K⟩

set_option maxHeartbeats 2000000 in
theorem take_purse (p : Nat) (A : Option Addr) (n c : Nat) (bs : List UInt8) (a : Nat) (w : World) (hr : IsR w p A n c bs a) (hA : ∀ ad, A = some ad → ad.block < w.heap.size)
    (k a1 : Nat) (hk : rUpto 9 bs a = .ok (k, a1)) (hk1 : k = 4) :
    Calls Tryd.prog 63 #[.pointer (some ⟨p, 0, none⟩)] w (RPost (encRec w.heap.size) w p A n c bs (rRec bs a)) := by
  have hs : shapeOf (k : Int) = ⟨false, true, true, false, false⟩ := by rw [hk1]; rfl
  have hspec1 : Hid (rRec bs a = (match rI bs a1 with | .error e => .error e | .ok (lo, a) => (match rI bs a with | .error e => .error e | .ok (hi, a) => (match rI bs a with | .error e => .error e | .ok (x, a) => rDone ⟨(k : Int), x, lo, hi, 0, 0, [], []⟩  a)))) := by unfold Hid rRec; simp only [hk]; rw [if_neg (by omega)]; unfold rBody; rw [if_neg (by omega), if_neg (by omega), if_pos hk1]; try rfl
  have hk9 : k ≤ 9 := by omega
  have hk0 : ((k : Int) == 0) = false := by rw [beq_eq_false_iff_ne]; omega
  have hkW : Hid (-9223372036854775808 ≤ (k : Int) ∧ (k : Int) < 9223372036854775808) := ⟨by omega, by omega⟩
  have hk' := Lib.hid hk
  have hk1' := Lib.hid hk1
  clear hk hk1
  have hpl := hr.blk.lt
  go_enter Tryd.func63, Tryd.ntmps63
  go_wp2_with fail
  have hcl0 : Cln w ((w.alloc (.cells #[.int .i64 0, .int .i64 0, .int .i64 0, .int .i64 0, .float .f64 0, .int .i64 0, .string ⟨#[]⟩, .slice none 0 0] 31)).alloc (.cells #[.int .i64 0, .int .i64 0, .int .i64 0, .int .i64 0, .float .f64 0, .int .i64 0, .string ⟨#[]⟩, .slice none 0 0] 31)) := by (repeat (first | (with_reducible exact Below.refl _ _) | (with_reducible assumption) | (with_reducible refine Below.setCell ?_ (by first | omega | (simp; done) | (simp; omega)) _) | (with_reducible refine Below.alloc ?_ (by first | omega | (simp; done) | (simp; omega)) _) | (with_reducible refine Below.drew ?_) | (with_reducible refine below_drewN ?_ _)))
  have hb0 := (Blk.new w 31 #[.int .i64 0, .int .i64 0, .int .i64 0, .int .i64 0, .float .f64 0, .int .i64 0, .string ⟨#[]⟩, .slice none 0 0]).alloc (.cells #[.int .i64 0, .int .i64 0, .int .i64 0, .int .i64 0, .float .f64 0, .int .i64 0, .string ⟨#[]⟩, .slice none 0 0] 31)
  have hb1 := Blk.new (w.alloc (.cells #[.int .i64 0, .int .i64 0, .int .i64 0, .int .i64 0, .float .f64 0, .int .i64 0, .string ⟨#[]⟩, .slice none 0 0] 31)) 31 #[.int .i64 0, .int .i64 0, .int .i64 0, .int .i64 0, .float .f64 0, .int .i64 0, .string ⟨#[]⟩, .slice none 0 0]
  simp only [World.size_alloc] at hb1
  refine (upto_any p A n c bs a 9 (by omega) _ (hr.cln hcl0)).mono ?_
  intro e w1 h
  rcases h.cases with ⟨x, a2, v, hres, rfl, hv, hr2, hk2⟩ | ⟨f, hres, rfl, hk2⟩
  case inr => rw [hk'.out] at hres; cases hres
  rw [hk'.out] at hres
  injection hres with hres; injection hres with e1 e2; subst e1; subst e2
  have hv' : v = .int .i64 (k : Nat) := hv
  subst hv'
  clear hv h
  have hb0' := hb0.kept hk2 (show ¬ w.heap.size = p by omega)
  have hb1' := hb1.kept hk2 (show ¬ w.heap.size + 1 = p by omega)
  have hlt0 := hb0'.lt
  have hlt1 := hb1'.lt
  have hc1 := hb1'.cell
  have hf1 := hb1'.frozen
  have hK1 := (Kept.of_below (S := (· = p)) hcl0).trans hk2
  have hr2' := Lib.hid hr2
  clear hb0 hb1 hcl0
  go_wp2_with fail
  refine (shaped_any (k : Int) _).mono ?_; rintro e w2 ⟨rfl, hq⟩; rw [hs]; unfold shapeVal
  have st1 : TakeSt w p A n c bs w.heap.size (w.heap.size + 1) w2.heap.size #[.int .i64 (k : Int), .int .i64 0, .int .i64 0, .int .i64 0, .float .f64 0, .int .i64 0, .string ⟨#[]⟩, .slice none 0 0] #[.bool false, .bool true, .bool true, .bool false, .bool false] (w2.alloc (.cells #[.bool false, .bool true, .bool true, .bool false, .bool false] 98)) a1 := by
    have hne2 : ∀ ad, A = some ad → ad.block ≠ w.heap.size + 1 := fun ad e => by have := hA ad e; omega
    have hne0 : ∀ ad, A = some ad → ad.block ≠ w.heap.size := fun ad e => by have := hA ad e; omega
    have hb1s : Blk _ (w.heap.size + 1) 31 #[.int .i64 (k : Int), .int .i64 0, .int .i64 0, .int .i64 0, .float .f64 0, .int .i64 0, .string ⟨#[]⟩, .slice none 0 0] := hb1'.set_ 0 (.int .i64 (k : Int))
    have hcln2 : Cln (w1.setCell ⟨w.heap.size + 1, 0, none⟩ (.int .i64 (k : Int))) (w2.alloc (.cells #[.bool false, .bool true, .bool true, .bool false, .bool false] 98)) := cln_trans hq ((Below.refl _ _).alloc (Nat.le_refl _) _)
    have hsz2 := hq.size
    simp only [World.size_setCell] at hsz2
    exact ⟨(hr2'.out.other (q := ⟨w.heap.size + 1, 0, none⟩) (by simp; omega) hne2 _).cln hcln2, (hK1.setCell (p := ⟨w.heap.size + 1, 0, none⟩) (fun h => by simp at h; omega) _).below_ hcln2,
      (hb0'.far (p := ⟨w.heap.size + 1, 0, none⟩) (by simp) _).cln hcln2, hb1s.cln hcln2, Blk.new w2 _ _, by omega, by omega, by omega, by omega, by omega, by omega, hne0, hne2⟩
  have hA' := Lib.hid hA
  have hlt2 : Hid (w.heap.size + 1 < w2.heap.size) := by have hsz2 := hq.size; simp only [World.size_setCell] at hsz2; unfold Hid; omega
  have hne21 : ¬ w2.heap.size = w.heap.size + 1 := by have := hlt2.out; omega
  have hne12 : ¬ w.heap.size + 1 = w2.heap.size := by have := hlt2.out; omega
  clear hq hb0' hb1' hc1 hf1 hK1 hr2' hr2 hk2 hA hr hs
  have hc1 := st1.b1.cell
  have hf1 := st1.b1.frozen
  have hs1 := st1.b2.cell
  have hl1 := st1.b1.lt
  have hm1 := st1.b0.frozen
  go_wp2_with fail
  refine (i_any p A n c bs a1 _ st1.R).mono ?_
  intro e w' h
  rcases h.cases with ⟨lo, b2, v, hres, rfl, hv, hr2, hk2⟩ | ⟨f, hres, rfl, hk2⟩
  case inr =>
    have hres' := Lib.hid hres; clear hres h
    go_wp2_with fail
    refine ⟨rfl, ?_⟩
    rw [hspec1.out]; simp only [hres'.out]
    exact ⟨rfl, st1.K.trans hk2⟩
  have hv' : v = .int .i64 lo := hv
  subst hv'
  have hspec2 : Hid (rRec bs a = (match rI bs b2 with | .error e => .error e | .ok (hi, a) => (match rI bs a with | .error e => .error e | .ok (x, a) => rDone ⟨(k : Int), x, lo, hi, 0, 0, [], []⟩  a))) := by unfold Hid; rw [hspec1.out]; simp only [hres]
  have hlo := rI_lt hres
  have hres1 := Lib.hid hres
  have stm1 := st1.step hr2 hk2
  clear h hv hres hr2 hk2
  clear hc1 hf1 hs1 hl1 hm1
  have hc1 := stm1.b1.cell
  have hf1 := stm1.b1.frozen
  have hs1 := stm1.b2.cell
  have hl1 := stm1.b1.lt
  have hm1 := stm1.b0.frozen
  have st2 := stm1
  go_wp2_with fail
  refine (i_any p A n c bs b2 _ st2.R).mono ?_
  intro e w' h
  rcases h.cases with ⟨hi, b3, v, hres, rfl, hv, hr2, hk2⟩ | ⟨f, hres, rfl, hk2⟩
  case inr =>
    have hres' := Lib.hid hres; clear hres h
    go_wp2_with fail
    refine ⟨rfl, ?_⟩
    rw [hspec2.out]; simp only [hres'.out]
    exact ⟨rfl, st2.K.trans hk2⟩
  have hv' : v = .int .i64 hi := hv
  subst hv'
  have hspec3 : Hid (rRec bs a = (match rI bs b3 with | .error e => .error e | .ok (x, a) => rDone ⟨(k : Int), x, lo, hi, 0, 0, [], []⟩  a)) := by unfold Hid; rw [hspec2.out]; simp only [hres]
  have hhi := rI_lt hres
  have hres2 := Lib.hid hres
  have stm2 := st2.step hr2 hk2
  clear h hv hres hr2 hk2
  clear hc1 hf1 hs1 hl1 hm1
  have hc2 := stm2.b1.cell
  have hf2 := stm2.b1.frozen
  have hs2 := stm2.b2.cell
  have hl2 := stm2.b1.lt
  have hm2 := stm2.b0.frozen
  have st3 := (stm2.store (cs1' := #[.int .i64 (k : Int), .int .i64 0, .int .i64 lo, .int .i64 0, .float .f64 0, .int .i64 0, .string ⟨#[]⟩, .slice none 0 0]) 2 (.int .i64 lo) rfl).store (cs1' := #[.int .i64 (k : Int), .int .i64 0, .int .i64 lo, .int .i64 hi, .float .f64 0, .int .i64 0, .string ⟨#[]⟩, .slice none 0 0]) 3 (.int .i64 hi) rfl
  go_wp2_with fail
  refine (i_any p A n c bs b3 _ st3.R).mono ?_
  intro e w' h
  rcases h.cases with ⟨x, b4, v, hres, rfl, hv, hr2, hk2⟩ | ⟨f, hres, rfl, hk2⟩
  case inr =>
    have hres' := Lib.hid hres; clear hres h
    go_wp2_with fail
    refine ⟨rfl, ?_⟩
    rw [hspec3.out]; simp only [hres'.out]
    exact ⟨rfl, st3.K.trans hk2⟩
  have hv' : v = .int .i64 x := hv
  subst hv'
  have hspec4 : Hid (rRec bs a = rDone ⟨(k : Int), x, lo, hi, 0, 0, [], []⟩ b4) := by unfold Hid; rw [hspec3.out]; simp only [hres]
  have hx := rI_lt hres
  have hres3 := Lib.hid hres
  have stm3 := st3.step hr2 hk2
  clear h hv hres hr2 hk2
  clear hc2 hf2 hs2 hl2 hm2
  have hc3 := stm3.b1.cell
  have hf3 := stm3.b1.frozen
  have hs3 := stm3.b2.cell
  have hl3 := stm3.b1.lt
  have hm3 := stm3.b0.frozen
  have st4 := stm3.store (cs1' := #[.int .i64 (k : Int), .int .i64 x, .int .i64 lo, .int .i64 hi, .float .f64 0, .int .i64 0, .string ⟨#[]⟩, .slice none 0 0]) 1 (.int .i64 x) rfl
  go_wp2_with fail
  refine (check_any ⟨(k : Int), x, lo, hi, 0, 0, [], []⟩ none 0 0 (by omega) ⟨hkW.out, hx, hlo, hhi, zF, z64⟩ _ (RdItems.none_ _)).mono ?_
  rintro e w4 ⟨rfl, hq⟩
  have stF := st4.cln hq
  have hLF : RdItems w4 none 0 _ := RdItems.cln (RdItems.none_ _) hq
  have hwf : MRec.WF ⟨(k : Int), x, lo, hi, 0, 0, [], []⟩ := ⟨hkW.out, hx, hlo, hhi, zF, z64⟩
  have hle9 : checkRec ⟨(k : Int), x, lo, hi, 0, 0, [], []⟩ ≤ 8 := checkRec_le _
  have hspF := hspec4.out
  generalize hC : checkRec ⟨(k : Int), x, lo, hi, 0, 0, [], []⟩ = ck at hle9 ⊢
  unfold rDone at hspF
  rw [hC] at hspF
  have hspF' := Lib.hid hspF
  clear hspF hC hq
  by_cases hz : ck = 0
  · subst hz
    have hspF : Hid (rRec bs a = .ok (⟨(k : Int), x, lo, hi, 0, 0, [], []⟩, b4)) := by unfold Hid; rw [hspF'.out, if_pos rfl]
    have hc := stF.b1.cell
    have hf := stF.b1.frozen
    have hm := stF.b0.frozen
    have hl0 := stF.b0.lt
    have hc0 := stF.b0.cell
    have hl := stF.b1.lt
    go_wp2_with fail
    have hfin := stF.fin8 (.int .i64 (k : Int)) (.int .i64 x) (.int .i64 lo) (.int .i64 hi) (.float .f64 0) (.int .i64 0) (.string ⟨#[]⟩) (.slice none 0 0)
    have t1 : (Tryd.prog.info? 31).map (·.size) = some 8 := by kernel_rfl
    refine bodyPost_ret (v := .agg #[.int .i64 (k : Int), .int .i64 x, .int .i64 lo, .int .i64 hi, .float .f64 0, .int .i64 0, .string ⟨#[]⟩, .slice none 0 0]) ?_ rfl ?_
    · refine results_cell_row Tryd.results63 _ _ w.heap.size 31 #[.int .i64 (k : Int), .int .i64 x, .int .i64 lo, .int .i64 hi, .float .f64 0, .int .i64 0, .string ⟨#[]⟩, .slice none 0 0] (0, 0) _ ?_ ?_ Tryd.underlying31 ?_ ?_
      · rfl
      · exact hfin
      · rfl
      · exact t1
    · rw [hspF.out]
      exact stF.fin _ hwf _ _ _ hLF (by omega) (fun ad e => by cases e)
  · have hz1 : (((ck : Nat) : Int) == 0) = false := by rw [beq_eq_false_iff_ne]; omega
    have hz2 : ¬ ((ck : Nat) : Int) = 0 := by omega
    have hspF : Hid (rRec bs a = .error (ck, b4)) := by unfold Hid; rw [hspF'.out, if_neg hz]
    go_wp2_with fail
    refine (Fail_any p A n c bs b4 ck _ stF.R).mono ?_
    rintro e w5 ⟨rfl, rfl⟩
    go_wp2_with fail
    refine ⟨rfl, ?_⟩
    rw [hspF.out]
    exact ⟨rfl, stF.K⟩
end Go.Proofs.YtocllhghbmbjpaaDoor
