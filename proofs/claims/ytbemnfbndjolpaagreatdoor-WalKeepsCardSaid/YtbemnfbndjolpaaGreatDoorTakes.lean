import Derived.Test.YtbemnfbndjolpaaGreatDoorRecs
import Derived.Test.YtbemnfbndjolpaaGreatDoorRds
import Derived.Test.YtbemnfbndjolpaaGreatDoorPlain
/- The walk of rec.Take: what stands while a record is taken. (Printed by wip/tools/gen_take.py.) -/
set_option linter.unusedSimpArgs false
set_option linter.unusedVariables false
set_option maxRecDepth 20000
namespace Go.Proofs.YtbemnfbndjolpaaGreatDoor
open Go.RowKit Moi
attribute [local go_sem] toList_str str_size less_ltB store_float

theorem hzTakes0 (w : World) : Cln w ((w.alloc (.cells #[.int .i64 0, .int .i64 0, .int .i64 0, .int .i64 0, .float .f64 0, .int .i64 0, .string ⟨#[]⟩, .slice none 0 0] 62)).alloc (.cells #[.int .i64 0, .int .i64 0, .int .i64 0, .int .i64 0, .float .f64 0, .int .i64 0, .string ⟨#[]⟩, .slice none 0 0] 62)) := by (repeat with_reducible first | exact cR _ | assumption | refine cA ?_ _ | refine cD ?_ | refine cN ?_ _ | refine cS ?_ (by first | omega | (simp <;> omega)) _)
def encRec (base : Nat) (r : MRec) (v : Value) (w : World) : Prop :=
 ∃ A n c, v = recVal r A n c ∧ RdItems w A n r.list ∧ (∀ ad, A = some ad → base ≤ ad.block) ∧ r.WF ∧ n ≤ 32
structure TakeSt (w0 : World) (p : Nat) (A : Option Addr) (n c : Nat) (bs : List UInt8) (g0 g1 g2 : Nat) (cs1 cs2 : Array Value) (wk : World) (a : Nat) : Prop where
 R : IsR wk p A n c bs a
 K : Kept (· = p) w0 wk
 b0 : Blk wk g0 62 #[.int .i64 0, .int .i64 0, .int .i64 0, .int .i64 0, .float .f64 0, .int .i64 0, .string ⟨#[]⟩, .slice none 0 0]
 b1 : Blk wk g1 62 cs1
 b2 : Blk wk g2 181 cs2
 ne0 : g0 ≠ p
 ne1 : g1 ≠ p
 ne2 : g2 ≠ p
 ne01 : g0 ≠ g1
 ge0 : w0.heap.size ≤ g0
 ge1 : w0.heap.size ≤ g1
 neA0 : ∀ ad, A = some ad → ad.block ≠ g0
 neA : ∀ ad, A = some ad → ad.block ≠ g1
section
variable {w0 : World} {p : Nat} {A : Option Addr} {n c : Nat} {bs : List UInt8} {g0 g1 g2 : Nat} {cs1 cs2 : Array Value} {wk w' : World} {a a' : Nat}
theorem TakeSt.step (h : TakeSt w0 p A n c bs g0 g1 g2 cs1 cs2 wk a) (hr : IsR w' p A n c bs a') (hk : Kept (· = p) wk w') : TakeSt w0 p A n c bs g0 g1 g2 cs1 cs2 w' a' :=
 ⟨hr, h.K.trans hk, h.b0.kept hk h.ne0, h.b1.kept hk h.ne1, h.b2.kept hk h.ne2, h.ne0, h.ne1, h.ne2, h.ne01, h.ge0, h.ge1, h.neA0, h.neA⟩
theorem TakeSt.cln (h : TakeSt w0 p A n c bs g0 g1 g2 cs1 cs2 wk a) (hk : Cln wk w') : TakeSt w0 p A n c bs g0 g1 g2 cs1 cs2 w' a :=
 h.step (h.R.cln hk) (Kept.of_below hk)
theorem TakeSt.store {cs1' : Array Value} (h : TakeSt w0 p A n c bs g0 g1 g2 cs1 cs2 wk a) (i : Nat) (v : Value) (hc : cs1.setIfInBounds i v = cs1') : TakeSt w0 p A n c bs g0 g1 g2 cs1' cs2 (wk.setCell ⟨g1, i, none⟩ v) a := by
 subst hc
 have hne2 : g2 ≠ g1 := h.b2.ne_ h.b1 (by decide)
 exact ⟨h.R.other (q := ⟨g1, i, none⟩) (fun e => h.ne1 e.symm) (fun ad e => h.neA ad e) v, h.K.setCell (fun hlt => absurd h.ge1 (by simp at hlt; omega)) v,
  h.b0.far h.ne01 v, h.b1.set_ i v, h.b2.far hne2 v, h.ne0, h.ne1, h.ne2, h.ne01, h.ge0, h.ge1, h.neA0, h.neA⟩
theorem TakeSt.other (h : TakeSt w0 p A n c bs g0 g1 g2 cs1 cs2 wk a) (q : Addr) (hq : w0.heap.size ≤ q.block) (hp : p ≠ q.block) (hA : ∀ ad, A = some ad → ad.block ≠ q.block) (h0 : g0 ≠ q.block) (h1 : g1 ≠ q.block) (h2 : g2 ≠ q.block) (v : Value) :
  TakeSt w0 p A n c bs g0 g1 g2 cs1 cs2 (wk.setCell q v) a :=
 ⟨h.R.other hp hA v, h.K.setCell (fun hlt => absurd hq (by omega)) v, h.b0.far h0 v, h.b1.far h1 v, h.b2.far h2 v, h.ne0, h.ne1, h.ne2, h.ne01, h.ge0, h.ge1, h.neA0, h.neA⟩
def fill8 (wk : World) (g0 : Nat) (v0 v1 v2 v3 v4 v5 v6 v7 : Value) : World := ((((((((wk.setCell ⟨g0, 0, none⟩ v0).setCell ⟨g0, 1, none⟩ v1).setCell ⟨g0, 2, none⟩ v2).setCell ⟨g0, 3, none⟩ v3).setCell ⟨g0, 4, none⟩ v4).setCell ⟨g0, 5, none⟩ v5).setCell ⟨g0, 6, none⟩ v6).setCell ⟨g0, 7, none⟩ v7)
theorem fill8_kept (wk : World) (g0 : Nat) (v0 v1 v2 v3 v4 v5 v6 v7 : Value) : Kept (· = g0) wk (fill8 wk g0 v0 v1 v2 v3 v4 v5 v6 v7) := by
 unfold fill8
 iterate 8 refine Kept.setCell (S := (· = g0)) ?_ (fun _ => rfl) _
 exact Kept.refl _ _
theorem TakeSt.fin (h : TakeSt w0 p A n c bs g0 g1 g2 cs1 cs2 wk a) (r : MRec) (hwf : r.WF) (AL : Option Addr) (nL cL : Nat) (hL : RdItems wk AL nL r.list) (hn : nL ≤ 32) (hge : ∀ ad, AL = some ad → w0.heap.size ≤ ad.block ∧ ad.block ≠ g0) :
  RPost (encRec w0.heap.size) w0 p A n c bs (.ok (r, a)) (.returned (recVal r AL nL cL)) (fill8 wk g0 (.int .i64 r.kind) (.int .i64 r.num) (.int .i64 r.low) (.int .i64 r.high) (.float .f64 r.real) (.int .i64 r.cap) (.string (str r.text)) (.slice AL nL cL)) := by
 refine ⟨_, rfl, ⟨AL, nL, cL, rfl, hL.kept (fill8_kept ..) (fun ad e _ => (hge ad e).2), fun ad e => (hge ad e).1, hwf, hn⟩, ?_, ?_⟩
 ·exact h.R.kept (fill8_kept ..) (fun e => h.ne0 e.symm) (fun ad e => h.neA0 ad e)
 ·unfold fill8
  iterate 8 refine Kept.setCell ?_ (fun hlt => absurd h.ge0 (by simp at hlt; omega)) _
  exact h.K
theorem TakeSt.fin8 (h : TakeSt w0 p A n c bs g0 g1 g2 cs1 cs2 wk a) (v0 v1 v2 v3 v4 v5 v6 v7 : Value) : Blk (fill8 wk g0 v0 v1 v2 v3 v4 v5 v6 v7) g0 62 #[v0, v1, v2, v3, v4, v5, v6, v7] := h.b0.store8
end
theorem itemErr_le (k : Int) (p : Option MItem) (x : MItem) : itemErr k p x ≤ 8 := by
 unfold itemErr; repeat' split
 all_goals omega
theorem itemsErr_le (k : Int) : ∀ (l : List MItem) (p : Option MItem), itemsErr k p l ≤ 8
 | [], _ => Nat.zero_le _
 | x :: l, p => by
  unfold itemsErr; split
  ·exact itemsErr_le k l _
  ·exact itemErr_le ..
theorem checkRec_le (r : MRec) : checkRec r ≤ 8 := by
 unfold checkRec; repeat' split
 all_goals first | omega | exact itemsErr_le ..
theorem z64 : -9223372036854775808 ≤ (0 : Int) ∧ (0 : Int) < 9223372036854775808 := by decide
theorem zF : 0 < 18446744073709551616 := by decide
theorem RdItems.none_ (w : World) : RdItems w none 0 [] := ⟨rfl, fun i => (by simp [itAt]), fun h => absurd h (by omega)⟩

set_option maxHeartbeats 2000000 in
theorem take_text (p : Nat) (A : Option Addr) (n c : Nat) (bs : List UInt8) (a : Nat) (w : World) (hr : IsR w p A n c bs a) (hA : ∀ ad, A = some ad → ad.block < w.heap.size)
  (k a1 : Nat) (hk : rUpto 9 bs a = .ok (k, a1)) (hk1 : k = 1) :
  Calls Tryz.prog 104 #[.pointer (some ⟨p, 0, none⟩)] w (RPost (encRec w.heap.size) w p A n c bs (rRec bs a)) := by
 have hs : shapeOf (k : Int) = ⟨true, false, false, false, false⟩ := by rw [hk1]; rfl
 have hspec1 : Hid (rRec bs a = (match rS 64 bs a1 with | .error e => .error e | .ok (x, a) => rDone ⟨(k : Int), 0, 0, 0, 0, 0, x, []⟩  a)) := by unfold Hid rRec; simp only [hk]; rw [if_neg (by omega)]; unfold rBody; rw [if_pos hk1]; try rfl
 have hk9 : k ≤ 9 := by omega
 have hk0 : ((k : Int) == 0) = false := by rw [beq_eq_false_iff_ne]; omega
 have hkW : Hid (-9223372036854775808 ≤ (k : Int) ∧ (k : Int) < 9223372036854775808) := ⟨by omega, by omega⟩
 have hk' := Lib.hid hk
 have hk1' := Lib.hid hk1
 clear hk hk1
 have hpl := hr.blk.lt
 go_enter Tryz.func104, Tryz.ntmps104
 go_wp2_with fail
 have hcl0 := hzTakes0 w
 have hb0 := (Blk.new w 62 #[.int .i64 0, .int .i64 0, .int .i64 0, .int .i64 0, .float .f64 0, .int .i64 0, .string ⟨#[]⟩, .slice none 0 0]).alloc (.cells #[.int .i64 0, .int .i64 0, .int .i64 0, .int .i64 0, .float .f64 0, .int .i64 0, .string ⟨#[]⟩, .slice none 0 0] 62)
 have hb1 := Blk.new (w.alloc (.cells #[.int .i64 0, .int .i64 0, .int .i64 0, .int .i64 0, .float .f64 0, .int .i64 0, .string ⟨#[]⟩, .slice none 0 0] 62)) 62 #[.int .i64 0, .int .i64 0, .int .i64 0, .int .i64 0, .float .f64 0, .int .i64 0, .string ⟨#[]⟩, .slice none 0 0]
 simp only [World.size_alloc] at hb1
 refine (upto_any p A n c bs a 9 (by omega) _ (hr.cln hcl0)).mono ?_
 intro e w1 h
 rcases h.cases with ⟨x, a2, v, hres, rfl, hv, hr2, hk2⟩ | ⟨f, hres, rfl, hk2⟩
 case inr => rw [hk'.out] at hres; cases hres
 rw [hk'.out] at hres
 injection hres with hres; injection hres with e1 e2; subst e1; subst e2
 have hv' : v = .int .i64 (k : Nat) := hv
 subst hv'
 clear hv h
 have hb0' := hb0.kept hk2 (show ¬ w.heap.size = p by omega)
 have hb1' := hb1.kept hk2 (show ¬ w.heap.size + 1 = p by omega)
 have hlt0 := hb0'.lt
 have hlt1 := hb1'.lt
 have hc1 := hb1'.cell
 have hf1 := hb1'.frozen
 have hK1 := (Kept.of_below (S := (· = p)) hcl0).trans hk2
 have hr2' := Lib.hid hr2
 clear hb0 hb1 hcl0
 go_wp2_with fail
 refine (shaped_any (k : Int) _).mono ?_; rintro e w2 ⟨rfl, hq⟩; rw [hs]; unfold shapeVal
 have st1 : TakeSt w p A n c bs w.heap.size (w.heap.size + 1) w2.heap.size #[.int .i64 (k : Int), .int .i64 0, .int .i64 0, .int .i64 0, .float .f64 0, .int .i64 0, .string ⟨#[]⟩, .slice none 0 0] #[.bool true, .bool false, .bool false, .bool false, .bool false] (w2.alloc (.cells #[.bool true, .bool false, .bool false, .bool false, .bool false] 181)) a1 := by
  have hne2 : ∀ ad, A = some ad → ad.block ≠ w.heap.size + 1 := fun ad e => by have := hA ad e; omega
  have hne0 : ∀ ad, A = some ad → ad.block ≠ w.heap.size := fun ad e => by have := hA ad e; omega
  have hb1s : Blk _ (w.heap.size + 1) 62 #[.int .i64 (k : Int), .int .i64 0, .int .i64 0, .int .i64 0, .float .f64 0, .int .i64 0, .string ⟨#[]⟩, .slice none 0 0] := hb1'.set_ 0 (.int .i64 (k : Int))
  have hcln2 : Cln (w1.setCell ⟨w.heap.size + 1, 0, none⟩ (.int .i64 (k : Int))) (w2.alloc (.cells #[.bool true, .bool false, .bool false, .bool false, .bool false] 181)) := cln_trans hq ((Below.refl _ _).alloc (Nat.le_refl _) _)
  have hsz2 := hq.size
  simp only [World.size_setCell] at hsz2
  exact ⟨(hr2'.out.other (q := ⟨w.heap.size + 1, 0, none⟩) (by simp; omega) hne2 _).cln hcln2, (hK1.setCell (p := ⟨w.heap.size + 1, 0, none⟩) (fun h => by simp at h; omega) _).below_ hcln2,
   (hb0'.far (p := ⟨w.heap.size + 1, 0, none⟩) (by simp) _).cln hcln2, hb1s.cln hcln2, Blk.new w2 _ _, by omega, by omega, by omega, by omega, by omega, by omega, hne0, hne2⟩
 have hA' := Lib.hid hA
 have hlt2 : Hid (w.heap.size + 1 < w2.heap.size) := by have hsz2 := hq.size; simp only [World.size_setCell] at hsz2; unfold Hid; omega
 have hne21 : ¬ w2.heap.size = w.heap.size + 1 := by have := hlt2.out; omega
 have hne12 : ¬ w.heap.size + 1 = w2.heap.size := by have := hlt2.out; omega
 clear hq hb0' hb1' hc1 hf1 hK1 hr2' hr2 hk2 hA hr hs
 have hc1 := st1.b1.cell
 have hf1 := st1.b1.frozen
 have hs1 := st1.b2.cell
 have hl1 := st1.b1.lt
 have hm1 := st1.b0.frozen
 go_wp2_with fail
 refine (s_any p A n c bs a1 64 (by omega) _ st1.R).mono ?_
 intro e w' h
 rcases h.cases with ⟨x, b2, v, hres, rfl, hv, hr2, hk2⟩ | ⟨f, hres, rfl, hk2⟩
 case inr =>
  have hres' := Lib.hid hres; clear hres h
  go_wp2_with fail
  refine ⟨rfl, ?_⟩
  rw [hspec1.out]; simp only [hres'.out]
  exact ⟨rfl, st1.K.trans hk2⟩
 have hv' : v = .string (str x) := hv
 subst hv'
 have hspec2 : Hid (rRec bs a = rDone ⟨(k : Int), 0, 0, 0, 0, 0, x, []⟩ b2) := by unfold Hid; rw [hspec1.out]; simp only [hres]
 skip
 have hres1 := Lib.hid hres
 have stm1 := st1.step hr2 hk2
 clear h hv hres hr2 hk2
 clear hc1 hf1 hs1 hl1 hm1
 have hc1 := stm1.b1.cell
 have hf1 := stm1.b1.frozen
 have hs1 := stm1.b2.cell
 have hl1 := stm1.b1.lt
 have hm1 := stm1.b0.frozen
 have st2 := stm1.store (cs1' := #[.int .i64 (k : Int), .int .i64 0, .int .i64 0, .int .i64 0, .float .f64 0, .int .i64 0, .string (str x), .slice none 0 0]) 6 (.string (str x)) rfl
 go_wp2_with fail
 refine (check_any ⟨(k : Int), 0, 0, 0, 0, 0, x, []⟩ none 0 0 (by omega) ⟨hkW.out, z64, z64, z64, zF, z64⟩ _ (RdItems.none_ _)).mono ?_
 rintro e w4 ⟨rfl, hq⟩
 have stF := st2.cln hq
 have hLF : RdItems w4 none 0 _ := RdItems.cln (RdItems.none_ _) hq
 have hwf : MRec.WF ⟨(k : Int), 0, 0, 0, 0, 0, x, []⟩ := ⟨hkW.out, z64, z64, z64, zF, z64⟩
 have hle9 : checkRec ⟨(k : Int), 0, 0, 0, 0, 0, x, []⟩ ≤ 8 := checkRec_le _
 have hspF := hspec2.out
 generalize hC : checkRec ⟨(k : Int), 0, 0, 0, 0, 0, x, []⟩ = ck at hle9 ⊢
 unfold rDone at hspF
 rw [hC] at hspF
 have hspF' := Lib.hid hspF
 clear hspF hC hq
 by_cases hz : ck = 0
 ·subst hz
  have hspF : Hid (rRec bs a = .ok (⟨(k : Int), 0, 0, 0, 0, 0, x, []⟩, b2)) := by unfold Hid; rw [hspF'.out, if_pos rfl]
  have hc := stF.b1.cell
  have hf := stF.b1.frozen
  have hm := stF.b0.frozen
  have hl0 := stF.b0.lt
  have hc0 := stF.b0.cell
  have hl := stF.b1.lt
  go_wp2_with fail
  have hfin := stF.fin8 (.int .i64 (k : Int)) (.int .i64 0) (.int .i64 0) (.int .i64 0) (.float .f64 0) (.int .i64 0) (.string (str x)) (.slice none 0 0)
  have t1 : (Tryz.prog.info? 62).map (·.size) = some 8 := by kernel_rfl
  refine bodyPost_ret (v := .agg #[.int .i64 (k : Int), .int .i64 0, .int .i64 0, .int .i64 0, .float .f64 0, .int .i64 0, .string (str x), .slice none 0 0]) ?_ rfl ?_
  ·refine results_cell_row Tryz.results104 _ _ w.heap.size 62 #[.int .i64 (k : Int), .int .i64 0, .int .i64 0, .int .i64 0, .float .f64 0, .int .i64 0, .string (str x), .slice none 0 0] (0, 0) _ ?_ ?_ Tryz.underlying62 ?_ ?_
   ·rfl
   ·exact hfin
   ·rfl
   ·exact t1
  ·rw [hspF.out]
   exact stF.fin _ hwf _ _ _ hLF (by omega) (fun ad e => by cases e)
 ·have hz1 : (((ck : Nat) : Int) == 0) = false := by rw [beq_eq_false_iff_ne]; omega
  have hz2 : ¬ ((ck : Nat) : Int) = 0 := by omega
  have hspF : Hid (rRec bs a = .error (ck, b2)) := by unfold Hid; rw [hspF'.out, if_neg hz]
  go_wp2_with fail
  refine (Fail_any p A n c bs b2 ck _ stF.R).mono ?_
  rintro e w5 ⟨rfl, rfl⟩
  go_wp2_with fail
  refine ⟨rfl, ?_⟩
  rw [hspF.out]
  exact ⟨rfl, stF.K⟩

set_option maxHeartbeats 2000000 in
theorem take_num (p : Nat) (A : Option Addr) (n c : Nat) (bs : List UInt8) (a : Nat) (w : World) (hr : IsR w p A n c bs a) (hA : ∀ ad, A = some ad → ad.block < w.heap.size)
  (k a1 : Nat) (hk : rUpto 9 bs a = .ok (k, a1)) (hk1 : k = 2 ∨ k = 3) :
  Calls Tryz.prog 104 #[.pointer (some ⟨p, 0, none⟩)] w (RPost (encRec w.heap.size) w p A n c bs (rRec bs a)) := by
 have hs : shapeOf (k : Int) = ⟨false, true, false, false, false⟩ := by rcases hk1 with rfl | rfl <;> rfl
 have hspec1 : Hid (rRec bs a = (match rI bs a1 with | .error e => .error e | .ok (x, a) => rDone ⟨(k : Int), x, 0, 0, 0, 0, [], []⟩  a)) := by unfold Hid rRec; simp only [hk]; rw [if_neg (by omega)]; unfold rBody; rw [if_neg (by omega), if_pos hk1]; try rfl
 have hk9 : k ≤ 9 := by omega
 have hk0 : ((k : Int) == 0) = false := by rw [beq_eq_false_iff_ne]; omega
 have hkW : Hid (-9223372036854775808 ≤ (k : Int) ∧ (k : Int) < 9223372036854775808) := ⟨by omega, by omega⟩
 have hk' := Lib.hid hk
 have hk1' := Lib.hid hk1
 clear hk hk1
 have hpl := hr.blk.lt
 go_enter Tryz.func104, Tryz.ntmps104
 go_wp2_with fail
 have hcl0 := hzTakes0 w
 have hb0 := (Blk.new w 62 #[.int .i64 0, .int .i64 0, .int .i64 0, .int .i64 0, .float .f64 0, .int .i64 0, .string ⟨#[]⟩, .slice none 0 0]).alloc (.cells #[.int .i64 0, .int .i64 0, .int .i64 0, .int .i64 0, .float .f64 0, .int .i64 0, .string ⟨#[]⟩, .slice none 0 0] 62)
 have hb1 := Blk.new (w.alloc (.cells #[.int .i64 0, .int .i64 0, .int .i64 0, .int .i64 0, .float .f64 0, .int .i64 0, .string ⟨#[]⟩, .slice none 0 0] 62)) 62 #[.int .i64 0, .int .i64 0, .int .i64 0, .int .i64 0, .float .f64 0, .int .i64 0, .string ⟨#[]⟩, .slice none 0 0]
 simp only [World.size_alloc] at hb1
 refine (upto_any p A n c bs a 9 (by omega) _ (hr.cln hcl0)).mono ?_
 intro e w1 h
 rcases h.cases with ⟨x, a2, v, hres, rfl, hv, hr2, hk2⟩ | ⟨f, hres, rfl, hk2⟩
 case inr => rw [hk'.out] at hres; cases hres
 rw [hk'.out] at hres
 injection hres with hres; injection hres with e1 e2; subst e1; subst e2
 have hv' : v = .int .i64 (k : Nat) := hv
 subst hv'
 clear hv h
 have hb0' := hb0.kept hk2 (show ¬ w.heap.size = p by omega)
 have hb1' := hb1.kept hk2 (show ¬ w.heap.size + 1 = p by omega)
 have hlt0 := hb0'.lt
 have hlt1 := hb1'.lt
 have hc1 := hb1'.cell
 have hf1 := hb1'.frozen
 have hK1 := (Kept.of_below (S := (· = p)) hcl0).trans hk2
 have hr2' := Lib.hid hr2
 clear hb0 hb1 hcl0
 go_wp2_with fail
 refine (shaped_any (k : Int) _).mono ?_; rintro e w2 ⟨rfl, hq⟩; rw [hs]; unfold shapeVal
 have st1 : TakeSt w p A n c bs w.heap.size (w.heap.size + 1) w2.heap.size #[.int .i64 (k : Int), .int .i64 0, .int .i64 0, .int .i64 0, .float .f64 0, .int .i64 0, .string ⟨#[]⟩, .slice none 0 0] #[.bool false, .bool true, .bool false, .bool false, .bool false] (w2.alloc (.cells #[.bool false, .bool true, .bool false, .bool false, .bool false] 181)) a1 := by
  have hne2 : ∀ ad, A = some ad → ad.block ≠ w.heap.size + 1 := fun ad e => by have := hA ad e; omega
  have hne0 : ∀ ad, A = some ad → ad.block ≠ w.heap.size := fun ad e => by have := hA ad e; omega
  have hb1s : Blk _ (w.heap.size + 1) 62 #[.int .i64 (k : Int), .int .i64 0, .int .i64 0, .int .i64 0, .float .f64 0, .int .i64 0, .string ⟨#[]⟩, .slice none 0 0] := hb1'.set_ 0 (.int .i64 (k : Int))
  have hcln2 : Cln (w1.setCell ⟨w.heap.size + 1, 0, none⟩ (.int .i64 (k : Int))) (w2.alloc (.cells #[.bool false, .bool true, .bool false, .bool false, .bool false] 181)) := cln_trans hq ((Below.refl _ _).alloc (Nat.le_refl _) _)
  have hsz2 := hq.size
  simp only [World.size_setCell] at hsz2
  exact ⟨(hr2'.out.other (q := ⟨w.heap.size + 1, 0, none⟩) (by simp; omega) hne2 _).cln hcln2, (hK1.setCell (p := ⟨w.heap.size + 1, 0, none⟩) (fun h => by simp at h; omega) _).below_ hcln2,
   (hb0'.far (p := ⟨w.heap.size + 1, 0, none⟩) (by simp) _).cln hcln2, hb1s.cln hcln2, Blk.new w2 _ _, by omega, by omega, by omega, by omega, by omega, by omega, hne0, hne2⟩
 have hA' := Lib.hid hA
 have hlt2 : Hid (w.heap.size + 1 < w2.heap.size) := by have hsz2 := hq.size; simp only [World.size_setCell] at hsz2; unfold Hid; omega
 have hne21 : ¬ w2.heap.size = w.heap.size + 1 := by have := hlt2.out; omega
 have hne12 : ¬ w.heap.size + 1 = w2.heap.size := by have := hlt2.out; omega
 clear hq hb0' hb1' hc1 hf1 hK1 hr2' hr2 hk2 hA hr hs
 have hc1 := st1.b1.cell
 have hf1 := st1.b1.frozen
 have hs1 := st1.b2.cell
 have hl1 := st1.b1.lt
 have hm1 := st1.b0.frozen
 go_wp2_with fail
 refine (i_any p A n c bs a1 _ st1.R).mono ?_
 intro e w' h
 rcases h.cases with ⟨x, b2, v, hres, rfl, hv, hr2, hk2⟩ | ⟨f, hres, rfl, hk2⟩
 case inr =>
  have hres' := Lib.hid hres; clear hres h
  go_wp2_with fail
  refine ⟨rfl, ?_⟩
  rw [hspec1.out]; simp only [hres'.out]
  exact ⟨rfl, st1.K.trans hk2⟩
 have hv' : v = .int .i64 x := hv
 subst hv'
 have hspec2 : Hid (rRec bs a = rDone ⟨(k : Int), x, 0, 0, 0, 0, [], []⟩ b2) := by unfold Hid; rw [hspec1.out]; simp only [hres]
 have hx := rI_lt hres
 have hres1 := Lib.hid hres
 have stm1 := st1.step hr2 hk2
 clear h hv hres hr2 hk2
 clear hc1 hf1 hs1 hl1 hm1
 have hc1 := stm1.b1.cell
 have hf1 := stm1.b1.frozen
 have hs1 := stm1.b2.cell
 have hl1 := stm1.b1.lt
 have hm1 := stm1.b0.frozen
 have st2 := stm1.store (cs1' := #[.int .i64 (k : Int), .int .i64 x, .int .i64 0, .int .i64 0, .float .f64 0, .int .i64 0, .string ⟨#[]⟩, .slice none 0 0]) 1 (.int .i64 x) rfl
 go_wp2_with fail
 refine (check_any ⟨(k : Int), x, 0, 0, 0, 0, [], []⟩ none 0 0 (by omega) ⟨hkW.out, hx, z64, z64, zF, z64⟩ _ (RdItems.none_ _)).mono ?_
 rintro e w4 ⟨rfl, hq⟩
 have stF := st2.cln hq
 have hLF : RdItems w4 none 0 _ := RdItems.cln (RdItems.none_ _) hq
 have hwf : MRec.WF ⟨(k : Int), x, 0, 0, 0, 0, [], []⟩ := ⟨hkW.out, hx, z64, z64, zF, z64⟩
 have hle9 : checkRec ⟨(k : Int), x, 0, 0, 0, 0, [], []⟩ ≤ 8 := checkRec_le _
 have hspF := hspec2.out
 generalize hC : checkRec ⟨(k : Int), x, 0, 0, 0, 0, [], []⟩ = ck at hle9 ⊢
 unfold rDone at hspF
 rw [hC] at hspF
 have hspF' := Lib.hid hspF
 clear hspF hC hq
 by_cases hz : ck = 0
 ·subst hz
  have hspF : Hid (rRec bs a = .ok (⟨(k : Int), x, 0, 0, 0, 0, [], []⟩, b2)) := by unfold Hid; rw [hspF'.out, if_pos rfl]
  have hc := stF.b1.cell
  have hf := stF.b1.frozen
  have hm := stF.b0.frozen
  have hl0 := stF.b0.lt
  have hc0 := stF.b0.cell
  have hl := stF.b1.lt
  go_wp2_with fail
  have hfin := stF.fin8 (.int .i64 (k : Int)) (.int .i64 x) (.int .i64 0) (.int .i64 0) (.float .f64 0) (.int .i64 0) (.string ⟨#[]⟩) (.slice none 0 0)
  have t1 : (Tryz.prog.info? 62).map (·.size) = some 8 := by kernel_rfl
  refine bodyPost_ret (v := .agg #[.int .i64 (k : Int), .int .i64 x, .int .i64 0, .int .i64 0, .float .f64 0, .int .i64 0, .string ⟨#[]⟩, .slice none 0 0]) ?_ rfl ?_
  ·refine results_cell_row Tryz.results104 _ _ w.heap.size 62 #[.int .i64 (k : Int), .int .i64 x, .int .i64 0, .int .i64 0, .float .f64 0, .int .i64 0, .string ⟨#[]⟩, .slice none 0 0] (0, 0) _ ?_ ?_ Tryz.underlying62 ?_ ?_
   ·rfl
   ·exact hfin
   ·rfl
   ·exact t1
  ·rw [hspF.out]
   exact stF.fin _ hwf _ _ _ hLF (by omega) (fun ad e => by cases e)
 ·have hz1 : (((ck : Nat) : Int) == 0) = false := by rw [beq_eq_false_iff_ne]; omega
  have hz2 : ¬ ((ck : Nat) : Int) = 0 := by omega
  have hspF : Hid (rRec bs a = .error (ck, b2)) := by unfold Hid; rw [hspF'.out, if_neg hz]
  go_wp2_with fail
  refine (Fail_any p A n c bs b2 ck _ stF.R).mono ?_
  rintro e w5 ⟨rfl, rfl⟩
  go_wp2_with fail
  refine ⟨rfl, ?_⟩
  rw [hspF.out]
  exact ⟨rfl, stF.K⟩

set_option maxHeartbeats 2000000 in
theorem take_real (p : Nat) (A : Option Addr) (n c : Nat) (bs : List UInt8) (a : Nat) (w : World) (hr : IsR w p A n c bs a) (hA : ∀ ad, A = some ad → ad.block < w.heap.size)
  (k a1 : Nat) (hk : rUpto 9 bs a = .ok (k, a1)) (hk1 : k = 5 ∨ k = 6 ∨ k = 7) :
  Calls Tryz.prog 104 #[.pointer (some ⟨p, 0, none⟩)] w (RPost (encRec w.heap.size) w p A n c bs (rRec bs a)) := by
 have hs : shapeOf (k : Int) = ⟨false, false, false, true, false⟩ := by rcases hk1 with rfl | rfl | rfl <;> rfl
 have hspec1 : Hid (rRec bs a = (match rF bs a1 with | .error e => .error e | .ok (x, a) => rDone ⟨(k : Int), 0, 0, 0, x, 0, [], []⟩  a)) := by unfold Hid rRec; simp only [hk]; rw [if_neg (by omega)]; unfold rBody; rw [if_neg (by omega), if_neg (by omega), if_neg (by omega), if_pos hk1]; try rfl
 have hk9 : k ≤ 9 := by omega
 have hk0 : ((k : Int) == 0) = false := by rw [beq_eq_false_iff_ne]; omega
 have hkW : Hid (-9223372036854775808 ≤ (k : Int) ∧ (k : Int) < 9223372036854775808) := ⟨by omega, by omega⟩
 have hk' := Lib.hid hk
 have hk1' := Lib.hid hk1
 clear hk hk1
 have hpl := hr.blk.lt
 go_enter Tryz.func104, Tryz.ntmps104
 go_wp2_with fail
 have hcl0 := hzTakes0 w
 have hb0 := (Blk.new w 62 #[.int .i64 0, .int .i64 0, .int .i64 0, .int .i64 0, .float .f64 0, .int .i64 0, .string ⟨#[]⟩, .slice none 0 0]).alloc (.cells #[.int .i64 0, .int .i64 0, .int .i64 0, .int .i64 0, .float .f64 0, .int .i64 0, .string ⟨#[]⟩, .slice none 0 0] 62)
 have hb1 := Blk.new (w.alloc (.cells #[.int .i64 0, .int .i64 0, .int .i64 0, .int .i64 0, .float .f64 0, .int .i64 0, .string ⟨#[]⟩, .slice none 0 0] 62)) 62 #[.int .i64 0, .int .i64 0, .int .i64 0, .int .i64 0, .float .f64 0, .int .i64 0, .string ⟨#[]⟩, .slice none 0 0]
 simp only [World.size_alloc] at hb1
 refine (upto_any p A n c bs a 9 (by omega) _ (hr.cln hcl0)).mono ?_
 intro e w1 h
 rcases h.cases with ⟨x, a2, v, hres, rfl, hv, hr2, hk2⟩ | ⟨f, hres, rfl, hk2⟩
 case inr => rw [hk'.out] at hres; cases hres
 rw [hk'.out] at hres
 injection hres with hres; injection hres with e1 e2; subst e1; subst e2
 have hv' : v = .int .i64 (k : Nat) := hv
 subst hv'
 clear hv h
 have hb0' := hb0.kept hk2 (show ¬ w.heap.size = p by omega)
 have hb1' := hb1.kept hk2 (show ¬ w.heap.size + 1 = p by omega)
 have hlt0 := hb0'.lt
 have hlt1 := hb1'.lt
 have hc1 := hb1'.cell
 have hf1 := hb1'.frozen
 have hK1 := (Kept.of_below (S := (· = p)) hcl0).trans hk2
 have hr2' := Lib.hid hr2
 clear hb0 hb1 hcl0
 go_wp2_with fail
 refine (shaped_any (k : Int) _).mono ?_; rintro e w2 ⟨rfl, hq⟩; rw [hs]; unfold shapeVal
 have st1 : TakeSt w p A n c bs w.heap.size (w.heap.size + 1) w2.heap.size #[.int .i64 (k : Int), .int .i64 0, .int .i64 0, .int .i64 0, .float .f64 0, .int .i64 0, .string ⟨#[]⟩, .slice none 0 0] #[.bool false, .bool false, .bool false, .bool true, .bool false] (w2.alloc (.cells #[.bool false, .bool false, .bool false, .bool true, .bool false] 181)) a1 := by
  have hne2 : ∀ ad, A = some ad → ad.block ≠ w.heap.size + 1 := fun ad e => by have := hA ad e; omega
  have hne0 : ∀ ad, A = some ad → ad.block ≠ w.heap.size := fun ad e => by have := hA ad e; omega
  have hb1s : Blk _ (w.heap.size + 1) 62 #[.int .i64 (k : Int), .int .i64 0, .int .i64 0, .int .i64 0, .float .f64 0, .int .i64 0, .string ⟨#[]⟩, .slice none 0 0] := hb1'.set_ 0 (.int .i64 (k : Int))
  have hcln2 : Cln (w1.setCell ⟨w.heap.size + 1, 0, none⟩ (.int .i64 (k : Int))) (w2.alloc (.cells #[.bool false, .bool false, .bool false, .bool true, .bool false] 181)) := cln_trans hq ((Below.refl _ _).alloc (Nat.le_refl _) _)
  have hsz2 := hq.size
  simp only [World.size_setCell] at hsz2
  exact ⟨(hr2'.out.other (q := ⟨w.heap.size + 1, 0, none⟩) (by simp; omega) hne2 _).cln hcln2, (hK1.setCell (p := ⟨w.heap.size + 1, 0, none⟩) (fun h => by simp at h; omega) _).below_ hcln2,
   (hb0'.far (p := ⟨w.heap.size + 1, 0, none⟩) (by simp) _).cln hcln2, hb1s.cln hcln2, Blk.new w2 _ _, by omega, by omega, by omega, by omega, by omega, by omega, hne0, hne2⟩
 have hA' := Lib.hid hA
 have hlt2 : Hid (w.heap.size + 1 < w2.heap.size) := by have hsz2 := hq.size; simp only [World.size_setCell] at hsz2; unfold Hid; omega
 have hne21 : ¬ w2.heap.size = w.heap.size + 1 := by have := hlt2.out; omega
 have hne12 : ¬ w.heap.size + 1 = w2.heap.size := by have := hlt2.out; omega
 clear hq hb0' hb1' hc1 hf1 hK1 hr2' hr2 hk2 hA hr hs
 have hc1 := st1.b1.cell
 have hf1 := st1.b1.frozen
 have hs1 := st1.b2.cell
 have hl1 := st1.b1.lt
 have hm1 := st1.b0.frozen
 go_wp2_with fail
 refine (f_any p A n c bs a1 _ st1.R).mono ?_
 intro e w' h
 rcases h.cases with ⟨x, b2, v, hres, rfl, hv, hr2, hk2⟩ | ⟨f, hres, rfl, hk2⟩
 case inr =>
  have hres' := Lib.hid hres; clear hres h
  go_wp2_with fail
  refine ⟨rfl, ?_⟩
  rw [hspec1.out]; simp only [hres'.out]
  exact ⟨rfl, st1.K.trans hk2⟩
 have hv' : v = .float .f64 x := hv
 subst hv'
 have hspec2 : Hid (rRec bs a = rDone ⟨(k : Int), 0, 0, 0, x, 0, [], []⟩ b2) := by unfold Hid; rw [hspec1.out]; simp only [hres]
 have hx := rF_lt hres
 have hres1 := Lib.hid hres
 have stm1 := st1.step hr2 hk2
 clear h hv hres hr2 hk2
 clear hc1 hf1 hs1 hl1 hm1
 have hc1 := stm1.b1.cell
 have hf1 := stm1.b1.frozen
 have hs1 := stm1.b2.cell
 have hl1 := stm1.b1.lt
 have hm1 := stm1.b0.frozen
 have st2 := stm1.store (cs1' := #[.int .i64 (k : Int), .int .i64 0, .int .i64 0, .int .i64 0, .float .f64 x, .int .i64 0, .string ⟨#[]⟩, .slice none 0 0]) 4 (.float .f64 x) rfl
 go_wp2_with fail
 refine (check_any ⟨(k : Int), 0, 0, 0, x, 0, [], []⟩ none 0 0 (by omega) ⟨hkW.out, z64, z64, z64, hx, z64⟩ _ (RdItems.none_ _)).mono ?_
 rintro e w4 ⟨rfl, hq⟩
 have stF := st2.cln hq
 have hLF : RdItems w4 none 0 _ := RdItems.cln (RdItems.none_ _) hq
 have hwf : MRec.WF ⟨(k : Int), 0, 0, 0, x, 0, [], []⟩ := ⟨hkW.out, z64, z64, z64, hx, z64⟩
 have hle9 : checkRec ⟨(k : Int), 0, 0, 0, x, 0, [], []⟩ ≤ 8 := checkRec_le _
 have hspF := hspec2.out
 generalize hC : checkRec ⟨(k : Int), 0, 0, 0, x, 0, [], []⟩ = ck at hle9 ⊢
 unfold rDone at hspF
 rw [hC] at hspF
 have hspF' := Lib.hid hspF
 clear hspF hC hq
 by_cases hz : ck = 0
 ·subst hz
  have hspF : Hid (rRec bs a = .ok (⟨(k : Int), 0, 0, 0, x, 0, [], []⟩, b2)) := by unfold Hid; rw [hspF'.out, if_pos rfl]
  have hc := stF.b1.cell
  have hf := stF.b1.frozen
  have hm := stF.b0.frozen
  have hl0 := stF.b0.lt
  have hc0 := stF.b0.cell
  have hl := stF.b1.lt
  go_wp2_with fail
  have hfin := stF.fin8 (.int .i64 (k : Int)) (.int .i64 0) (.int .i64 0) (.int .i64 0) (.float .f64 x) (.int .i64 0) (.string ⟨#[]⟩) (.slice none 0 0)
  have t1 : (Tryz.prog.info? 62).map (·.size) = some 8 := by kernel_rfl
  refine bodyPost_ret (v := .agg #[.int .i64 (k : Int), .int .i64 0, .int .i64 0, .int .i64 0, .float .f64 x, .int .i64 0, .string ⟨#[]⟩, .slice none 0 0]) ?_ rfl ?_
  ·refine results_cell_row Tryz.results104 _ _ w.heap.size 62 #[.int .i64 (k : Int), .int .i64 0, .int .i64 0, .int .i64 0, .float .f64 x, .int .i64 0, .string ⟨#[]⟩, .slice none 0 0] (0, 0) _ ?_ ?_ Tryz.underlying62 ?_ ?_
   ·rfl
   ·exact hfin
   ·rfl
   ·exact t1
  ·rw [hspF.out]
   exact stF.fin _ hwf _ _ _ hLF (by omega) (fun ad e => by cases e)
 ·have hz1 : (((ck : Nat) : Int) == 0) = false := by rw [beq_eq_false_iff_ne]; omega
  have hz2 : ¬ ((ck : Nat) : Int) = 0 := by omega
  have hspF : Hid (rRec bs a = .error (ck, b2)) := by unfold Hid; rw [hspF'.out, if_neg hz]
  go_wp2_with fail
  refine (Fail_any p A n c bs b2 ck _ stF.R).mono ?_
  rintro e w5 ⟨rfl, rfl⟩
  go_wp2_with fail
  refine ⟨rfl, ?_⟩
  rw [hspF.out]
  exact ⟨rfl, stF.K⟩

set_option maxHeartbeats 2000000 in
theorem take_purse (p : Nat) (A : Option Addr) (n c : Nat) (bs : List UInt8) (a : Nat) (w : World) (hr : IsR w p A n c bs a) (hA : ∀ ad, A = some ad → ad.block < w.heap.size)
  (k a1 : Nat) (hk : rUpto 9 bs a = .ok (k, a1)) (hk1 : k = 4) :
  Calls Tryz.prog 104 #[.pointer (some ⟨p, 0, none⟩)] w (RPost (encRec w.heap.size) w p A n c bs (rRec bs a)) := by
 have hs : shapeOf (k : Int) = ⟨false, true, true, false, false⟩ := by rw [hk1]; rfl
 have hspec1 : Hid (rRec bs a = (match rI bs a1 with | .error e => .error e | .ok (lo, a) => (match rI bs a with | .error e => .error e | .ok (hi, a) => (match rI bs a with | .error e => .error e | .ok (x, a) => rDone ⟨(k : Int), x, lo, hi, 0, 0, [], []⟩  a)))) := by unfold Hid rRec; simp only [hk]; rw [if_neg (by omega)]; unfold rBody; rw [if_neg (by omega), if_neg (by omega), if_pos hk1]; try rfl
 have hk9 : k ≤ 9 := by omega
 have hk0 : ((k : Int) == 0) = false := by rw [beq_eq_false_iff_ne]; omega
 have hkW : Hid (-9223372036854775808 ≤ (k : Int) ∧ (k : Int) < 9223372036854775808) := ⟨by omega, by omega⟩
 have hk' := Lib.hid hk
 have hk1' := Lib.hid hk1
 clear hk hk1
 have hpl := hr.blk.lt
 go_enter Tryz.func104, Tryz.ntmps104
 go_wp2_with fail
 have hcl0 := hzTakes0 w
 have hb0 := (Blk.new w 62 #[.int .i64 0, .int .i64 0, .int .i64 0, .int .i64 0, .float .f64 0, .int .i64 0, .string ⟨#[]⟩, .slice none 0 0]).alloc (.cells #[.int .i64 0, .int .i64 0, .int .i64 0, .int .i64 0, .float .f64 0, .int .i64 0, .string ⟨#[]⟩, .slice none 0 0] 62)
 have hb1 := Blk.new (w.alloc (.cells #[.int .i64 0, .int .i64 0, .int .i64 0, .int .i64 0, .float .f64 0, .int .i64 0, .string ⟨#[]⟩, .slice none 0 0] 62)) 62 #[.int .i64 0, .int .i64 0, .int .i64 0, .int .i64 0, .float .f64 0, .int .i64 0, .string ⟨#[]⟩, .slice none 0 0]
 simp only [World.size_alloc] at hb1
 refine (upto_any p A n c bs a 9 (by omega) _ (hr.cln hcl0)).mono ?_
 intro e w1 h
 rcases h.cases with ⟨x, a2, v, hres, rfl, hv, hr2, hk2⟩ | ⟨f, hres, rfl, hk2⟩
 case inr => rw [hk'.out] at hres; cases hres
 rw [hk'.out] at hres
 injection hres with hres; injection hres with e1 e2; subst e1; subst e2
 have hv' : v = .int .i64 (k : Nat) := hv
 subst hv'
 clear hv h
 have hb0' := hb0.kept hk2 (show ¬ w.heap.size = p by omega)
 have hb1' := hb1.kept hk2 (show ¬ w.heap.size + 1 = p by omega)
 have hlt0 := hb0'.lt
 have hlt1 := hb1'.lt
 have hc1 := hb1'.cell
 have hf1 := hb1'.frozen
 have hK1 := (Kept.of_below (S := (· = p)) hcl0).trans hk2
 have hr2' := Lib.hid hr2
 clear hb0 hb1 hcl0
 go_wp2_with fail
 refine (shaped_any (k : Int) _).mono ?_; rintro e w2 ⟨rfl, hq⟩; rw [hs]; unfold shapeVal
 have st1 : TakeSt w p A n c bs w.heap.size (w.heap.size + 1) w2.heap.size #[.int .i64 (k : Int), .int .i64 0, .int .i64 0, .int .i64 0, .float .f64 0, .int .i64 0, .string ⟨#[]⟩, .slice none 0 0] #[.bool false, .bool true, .bool true, .bool false, .bool false] (w2.alloc (.cells #[.bool false, .bool true, .bool true, .bool false, .bool false] 181)) a1 := by
  have hne2 : ∀ ad, A = some ad → ad.block ≠ w.heap.size + 1 := fun ad e => by have := hA ad e; omega
  have hne0 : ∀ ad, A = some ad → ad.block ≠ w.heap.size := fun ad e => by have := hA ad e; omega
  have hb1s : Blk _ (w.heap.size + 1) 62 #[.int .i64 (k : Int), .int .i64 0, .int .i64 0, .int .i64 0, .float .f64 0, .int .i64 0, .string ⟨#[]⟩, .slice none 0 0] := hb1'.set_ 0 (.int .i64 (k : Int))
  have hcln2 : Cln (w1.setCell ⟨w.heap.size + 1, 0, none⟩ (.int .i64 (k : Int))) (w2.alloc (.cells #[.bool false, .bool true, .bool true, .bool false, .bool false] 181)) := cln_trans hq ((Below.refl _ _).alloc (Nat.le_refl _) _)
  have hsz2 := hq.size
  simp only [World.size_setCell] at hsz2
  exact ⟨(hr2'.out.other (q := ⟨w.heap.size + 1, 0, none⟩) (by simp; omega) hne2 _).cln hcln2, (hK1.setCell (p := ⟨w.heap.size + 1, 0, none⟩) (fun h => by simp at h; omega) _).below_ hcln2,
   (hb0'.far (p := ⟨w.heap.size + 1, 0, none⟩) (by simp) _).cln hcln2, hb1s.cln hcln2, Blk.new w2 _ _, by omega, by omega, by omega, by omega, by omega, by omega, hne0, hne2⟩
 have hA' := Lib.hid hA
 have hlt2 : Hid (w.heap.size + 1 < w2.heap.size) := by have hsz2 := hq.size; simp only [World.size_setCell] at hsz2; unfold Hid; omega
 have hne21 : ¬ w2.heap.size = w.heap.size + 1 := by have := hlt2.out; omega
 have hne12 : ¬ w.heap.size + 1 = w2.heap.size := by have := hlt2.out; omega
 clear hq hb0' hb1' hc1 hf1 hK1 hr2' hr2 hk2 hA hr hs
 have hc1 := st1.b1.cell
 have hf1 := st1.b1.frozen
 have hs1 := st1.b2.cell
 have hl1 := st1.b1.lt
 have hm1 := st1.b0.frozen
 go_wp2_with fail
 refine (i_any p A n c bs a1 _ st1.R).mono ?_
 intro e w' h
 rcases h.cases with ⟨lo, b2, v, hres, rfl, hv, hr2, hk2⟩ | ⟨f, hres, rfl, hk2⟩
 case inr =>
  have hres' := Lib.hid hres; clear hres h
  go_wp2_with fail
  refine ⟨rfl, ?_⟩
  rw [hspec1.out]; simp only [hres'.out]
  exact ⟨rfl, st1.K.trans hk2⟩
 have hv' : v = .int .i64 lo := hv
 subst hv'
 have hspec2 : Hid (rRec bs a = (match rI bs b2 with | .error e => .error e | .ok (hi, a) => (match rI bs a with | .error e => .error e | .ok (x, a) => rDone ⟨(k : Int), x, lo, hi, 0, 0, [], []⟩  a))) := by unfold Hid; rw [hspec1.out]; simp only [hres]
 have hlo := rI_lt hres
 have hres1 := Lib.hid hres
 have stm1 := st1.step hr2 hk2
 clear h hv hres hr2 hk2
 clear hc1 hf1 hs1 hl1 hm1
 have hc1 := stm1.b1.cell
 have hf1 := stm1.b1.frozen
 have hs1 := stm1.b2.cell
 have hl1 := stm1.b1.lt
 have hm1 := stm1.b0.frozen
 have st2 := stm1
 go_wp2_with fail
 refine (i_any p A n c bs b2 _ st2.R).mono ?_
 intro e w' h
 rcases h.cases with ⟨hi, b3, v, hres, rfl, hv, hr2, hk2⟩ | ⟨f, hres, rfl, hk2⟩
 case inr =>
  have hres' := Lib.hid hres; clear hres h
  go_wp2_with fail
  refine ⟨rfl, ?_⟩
  rw [hspec2.out]; simp only [hres'.out]
  exact ⟨rfl, st2.K.trans hk2⟩
 have hv' : v = .int .i64 hi := hv
 subst hv'
 have hspec3 : Hid (rRec bs a = (match rI bs b3 with | .error e => .error e | .ok (x, a) => rDone ⟨(k : Int), x, lo, hi, 0, 0, [], []⟩  a)) := by unfold Hid; rw [hspec2.out]; simp only [hres]
 have hhi := rI_lt hres
 have hres2 := Lib.hid hres
 have stm2 := st2.step hr2 hk2
 clear h hv hres hr2 hk2
 clear hc1 hf1 hs1 hl1 hm1
 have hc2 := stm2.b1.cell
 have hf2 := stm2.b1.frozen
 have hs2 := stm2.b2.cell
 have hl2 := stm2.b1.lt
 have hm2 := stm2.b0.frozen
 have st3 := (stm2.store (cs1' := #[.int .i64 (k : Int), .int .i64 0, .int .i64 lo, .int .i64 0, .float .f64 0, .int .i64 0, .string ⟨#[]⟩, .slice none 0 0]) 2 (.int .i64 lo) rfl).store (cs1' := #[.int .i64 (k : Int), .int .i64 0, .int .i64 lo, .int .i64 hi, .float .f64 0, .int .i64 0, .string ⟨#[]⟩, .slice none 0 0]) 3 (.int .i64 hi) rfl
 go_wp2_with fail
 refine (i_any p A n c bs b3 _ st3.R).mono ?_
 intro e w' h
 rcases h.cases with ⟨x, b4, v, hres, rfl, hv, hr2, hk2⟩ | ⟨f, hres, rfl, hk2⟩
 case inr =>
  have hres' := Lib.hid hres; clear hres h
  go_wp2_with fail
  refine ⟨rfl, ?_⟩
  rw [hspec3.out]; simp only [hres'.out]
  exact ⟨rfl, st3.K.trans hk2⟩
 have hv' : v = .int .i64 x := hv
 subst hv'
 have hspec4 : Hid (rRec bs a = rDone ⟨(k : Int), x, lo, hi, 0, 0, [], []⟩ b4) := by unfold Hid; rw [hspec3.out]; simp only [hres]
 have hx := rI_lt hres
 have hres3 := Lib.hid hres
 have stm3 := st3.step hr2 hk2
 clear h hv hres hr2 hk2
 clear hc2 hf2 hs2 hl2 hm2
 have hc3 := stm3.b1.cell
 have hf3 := stm3.b1.frozen
 have hs3 := stm3.b2.cell
 have hl3 := stm3.b1.lt
 have hm3 := stm3.b0.frozen
 have st4 := stm3.store (cs1' := #[.int .i64 (k : Int), .int .i64 x, .int .i64 lo, .int .i64 hi, .float .f64 0, .int .i64 0, .string ⟨#[]⟩, .slice none 0 0]) 1 (.int .i64 x) rfl
 go_wp2_with fail
 refine (check_any ⟨(k : Int), x, lo, hi, 0, 0, [], []⟩ none 0 0 (by omega) ⟨hkW.out, hx, hlo, hhi, zF, z64⟩ _ (RdItems.none_ _)).mono ?_
 rintro e w4 ⟨rfl, hq⟩
 have stF := st4.cln hq
 have hLF : RdItems w4 none 0 _ := RdItems.cln (RdItems.none_ _) hq
 have hwf : MRec.WF ⟨(k : Int), x, lo, hi, 0, 0, [], []⟩ := ⟨hkW.out, hx, hlo, hhi, zF, z64⟩
 have hle9 : checkRec ⟨(k : Int), x, lo, hi, 0, 0, [], []⟩ ≤ 8 := checkRec_le _
 have hspF := hspec4.out
 generalize hC : checkRec ⟨(k : Int), x, lo, hi, 0, 0, [], []⟩ = ck at hle9 ⊢
 unfold rDone at hspF
 rw [hC] at hspF
 have hspF' := Lib.hid hspF
 clear hspF hC hq
 by_cases hz : ck = 0
 ·subst hz
  have hspF : Hid (rRec bs a = .ok (⟨(k : Int), x, lo, hi, 0, 0, [], []⟩, b4)) := by unfold Hid; rw [hspF'.out, if_pos rfl]
  have hc := stF.b1.cell
  have hf := stF.b1.frozen
  have hm := stF.b0.frozen
  have hl0 := stF.b0.lt
  have hc0 := stF.b0.cell
  have hl := stF.b1.lt
  go_wp2_with fail
  have hfin := stF.fin8 (.int .i64 (k : Int)) (.int .i64 x) (.int .i64 lo) (.int .i64 hi) (.float .f64 0) (.int .i64 0) (.string ⟨#[]⟩) (.slice none 0 0)
  have t1 : (Tryz.prog.info? 62).map (·.size) = some 8 := by kernel_rfl
  refine bodyPost_ret (v := .agg #[.int .i64 (k : Int), .int .i64 x, .int .i64 lo, .int .i64 hi, .float .f64 0, .int .i64 0, .string ⟨#[]⟩, .slice none 0 0]) ?_ rfl ?_
  ·refine results_cell_row Tryz.results104 _ _ w.heap.size 62 #[.int .i64 (k : Int), .int .i64 x, .int .i64 lo, .int .i64 hi, .float .f64 0, .int .i64 0, .string ⟨#[]⟩, .slice none 0 0] (0, 0) _ ?_ ?_ Tryz.underlying62 ?_ ?_
   ·rfl
   ·exact hfin
   ·rfl
   ·exact t1
  ·rw [hspF.out]
   exact stF.fin _ hwf _ _ _ hLF (by omega) (fun ad e => by cases e)
 ·have hz1 : (((ck : Nat) : Int) == 0) = false := by rw [beq_eq_false_iff_ne]; omega
  have hz2 : ¬ ((ck : Nat) : Int) = 0 := by omega
  have hspF : Hid (rRec bs a = .error (ck, b4)) := by unfold Hid; rw [hspF'.out, if_neg hz]
  go_wp2_with fail
  refine (Fail_any p A n c bs b4 ck _ stF.R).mono ?_
  rintro e w5 ⟨rfl, rfl⟩
  go_wp2_with fail
  refine ⟨rfl, ?_⟩
  rw [hspF.out]
  exact ⟨rfl, stF.K⟩

section
variable {w0 : World} {p : Nat} {A : Option Addr} {n c : Nat} {bs : List UInt8} {g0 g1 g2 B : Nat} {cs1 cs2 : Array Value} {wk w' w1 : World} {a a' : Nat}
theorem TakeSt.keptB (h : TakeSt w0 p A n c bs g0 g1 g2 cs1 cs2 wk a) (hk : Kept (fun i => B ≤ i) wk w') (h0 : g0 < B) (h1 : g1 < B) (h2 : g2 < B) (hp : p < B) (hA : ∀ ad, A = some ad → ad.block < B) (hB : w0.heap.size ≤ B) :
  TakeSt w0 p A n c bs g0 g1 g2 cs1 cs2 w' a :=
 ⟨h.R.kept hk (by omega) (fun ad e => by have := hA ad e; omega), h.K.then_ hk (fun i hi hS => absurd hB (by omega)), h.b0.kept hk (by omega), h.b1.kept hk (by omega), h.b2.kept hk (by omega), h.ne0, h.ne1, h.ne2, h.ne01, h.ge0, h.ge1, h.neA0, h.neA⟩
structure TakeL (w0 : World) (p : Nat) (A : Option Addr) (n c : Nat) (bs : List UInt8) (g0 g1 g2 B k cc i : Nat) (acc : List MItem) (A' : Option Addr) (c' : Nat) (wk : World) (a : Nat) : Prop where
 st : TakeSt w0 p A n c bs g0 g1 g2 #[.int .i64 (k : Int), .int .i64 0, .int .i64 0, .int .i64 0, .float .f64 0, .int .i64 (cc : Int), .string ⟨#[]⟩, .slice A' i c'] #[.bool false, .bool false, .bool false, .bool false, .bool true] wk a
 own : wk.ownsRow B 158 2 (.slice A' i c') i (itemVals acc)
 wf : ∀ j, (itAt acc j).score < 18446744073709551616
 B0 : g0 < B
 B1 : g1 < B
 B2 : g2 < B
 Bp : p < B
 BA : ∀ ad, A = some ad → ad.block < B
 w0B : w0.heap.size ≤ B
 Bs : B ≤ wk.heap.size
variable {k cc i : Nat} {acc : List MItem} {A' : Option Addr} {c' : Nat}
theorem own_kept {S : Nat → Prop} {base e size m : Nat} {v : Value} {xs : List Value} (h : wk.ownsRow base e size v m xs) (hk : Kept S wk w') (hS : ∀ g, v.ownBlock = some g → ¬ S g) : w'.ownsRow base e size v m xs := by
 refine ⟨h.1, ?_⟩
 rcases h.2 with h1 | ⟨g, cap, cur, hv, hg, hh, r⟩
 ·exact .inl h1
 ·exact .inr ⟨g, cap, cur, hv, hg, hk.heap hh (hS g (by rw [hv]; rfl)), r⟩
theorem own_ge {base e size m : Nat} {v : Value} {xs : List Value} (h : wk.ownsRow base e size v m xs) : ∀ g, v.ownBlock = some g → base ≤ g ∧ g < wk.heap.size := by
 intro g hg
 rcases h.2 with ⟨h1, _⟩ | ⟨g', cap, cur, hv, hb, hh, r⟩
 ·rw [h1] at hg; cases hg
 ·rw [hv] at hg; injection hg with hg; subst hg; exact ⟨hb, lt_of_block hh⟩
theorem TakeL.step (h : TakeL w0 p A n c bs g0 g1 g2 B k cc i acc A' c' wk a) (hr : IsR w' p A n c bs a') (hk : Kept (· = p) wk w') : TakeL w0 p A n c bs g0 g1 g2 B k cc i acc A' c' w' a' :=
 ⟨h.st.step hr hk, own_kept h.own hk (fun g hg e => by have := (own_ge h.own g hg).1; have := h.Bp; omega), h.wf, h.B0, h.B1, h.B2, h.Bp, h.BA, h.w0B, Nat.le_trans h.Bs hk.size⟩
theorem TakeL.cln (h : TakeL w0 p A n c bs g0 g1 g2 B k cc i acc A' c' wk a) (hk : Cln wk w') : TakeL w0 p A n c bs g0 g1 g2 B k cc i acc A' c' w' a :=
 h.step (h.st.R.cln hk) (Kept.of_below hk)
theorem TakeL.far (h : TakeL w0 p A n c bs g0 g1 g2 B k cc i acc A' c' wk a) {g : Nat} (hk : Kept (fun j => j = g) wk w') (hg : B ≤ g) (hne : (Value.slice A' i c').ownBlock ≠ some g) : TakeL w0 p A n c bs g0 g1 g2 B k cc i acc A' c' w' a :=
 ⟨h.st.keptB (hk.mono (fun j _ e => by omega)) h.B0 h.B1 h.B2 h.Bp h.BA h.w0B, own_kept h.own hk (fun j hj e => hne (e ▸ hj)), h.wf, h.B0, h.B1, h.B2, h.Bp, h.BA, h.w0B, Nat.le_trans h.Bs hk.size⟩
theorem TakeL.fresh (h : TakeL w0 p A n c bs g0 g1 g2 B k cc i acc A' c' wk a) : (Value.slice A' i c').ownBlock ≠ some wk.heap.size := fun e => by
 have := (own_ge h.own _ e).2; omega
theorem itAt_snoc (acc : List MItem) (x : MItem) (hx : x.score < 18446744073709551616) (hf : ∀ j, (itAt acc j).score < 18446744073709551616) : ∀ j, (itAt (acc ++ [x]) j).score < 18446744073709551616 := by
 intro j
 have := hf j
 unfold itAt at *
 simp only [List.getD_eq_getElem?_getD] at *
 rcases Nat.lt_trichotomy j acc.length with h1 | h1 | h1
 ·rw [List.getElem?_append_left h1]; exact this
 ·subst h1; simp [hx]
 ·rw [List.getElem?_eq_none (by simp; omega)]; simp
theorem itemVals_snoc (acc : List MItem) (x : MItem) : itemVals acc ++ [.float .f64 x.score, .string (str x.name)] = itemVals (acc ++ [x]) := by simp [itemVals]
theorem TakeL.grow (h : TakeL w0 p A n c bs g0 g1 g2 B k cc i acc A' c' wk a) {o : Obj} (hg : (wk.alloc o).grownBy w1 (Value.slice A' i c').ownBlock) :
  TakeSt w0 p A n c bs g0 g1 g2 #[.int .i64 (k : Int), .int .i64 0, .int .i64 0, .int .i64 0, .float .f64 0, .int .i64 (cc : Int), .string ⟨#[]⟩, .slice A' i c'] #[.bool false, .bool false, .bool false, .bool false, .bool true] w1 a ∧ B ≤ w1.heap.size := by
 have hk : Kept (fun j => B ≤ j) wk w1 := ((Kept.refl _ wk).alloc _).grown hg (fun j hj _ => (own_ge h.own j hj).1)
 exact ⟨h.st.keptB hk h.B0 h.B1 h.B2 h.Bp h.BA h.w0B, Nat.le_trans h.Bs hk.size⟩
theorem TakeL.push (h : TakeL w0 p A n c bs g0 g1 g2 B k cc i acc A' c' wk a) {x : MItem} (hx : x.score < 18446744073709551616) {A2 : Option Addr} {c2 : Nat}
  (hst : TakeSt w0 p A n c bs g0 g1 g2 #[.int .i64 (k : Int), .int .i64 0, .int .i64 0, .int .i64 0, .float .f64 0, .int .i64 (cc : Int), .string ⟨#[]⟩, .slice A' i c'] #[.bool false, .bool false, .bool false, .bool false, .bool true] w1 a) (hBs : B ≤ w1.heap.size)
  (hown : w1.ownsRow B 158 2 (.slice A2 (i + 1) c2) (i + 1) (itemVals (acc ++ [x]))) :
  TakeL w0 p A n c bs g0 g1 g2 B k cc (i + 1) (acc ++ [x]) A2 c2 (w1.setCell ⟨g1, 7, none⟩ (.slice A2 (i + 1) c2)) a :=
 ⟨hst.store 7 (.slice A2 (i + 1) c2) rfl, ownsRow_setCell_below hown (by simpa using h.B1) _, itAt_snoc _ _ hx h.wf, h.B0, h.B1, h.B2, h.Bp, h.BA, h.w0B, by simpa using hBs⟩
end
def rListEnd (k cc : Nat) (r : RRes (List MItem)) : RRes MRec := match r with
 | .error e => .error e
 | .ok (l, a) => rDone ⟨k, 0, 0, 0, 0, cc, [], l⟩ a
theorem rItemsGo_set {b : List UInt8} {m i : Nat} (h : i < m) (acc : List MItem) (a : Nat) :
  rItemsGo false b (m - i) acc a = match rS 16 b a with | .error e => .error e | .ok (x, a) => rItemsGo false b (m - (i + 1)) (acc ++ [⟨0, x⟩]) a := by
 rw [show m - i = (m - (i + 1)) + 1 from by omega]; rfl
theorem rItemsGo_top {b : List UInt8} {m i : Nat} (h : i < m) (acc : List MItem) (a : Nat) :
  rItemsGo true b (m - i) acc a = match rF b a with | .error e => .error e | .ok (s, a) => match rS 16 b a with | .error e => .error e | .ok (x, a) => rItemsGo true b (m - (i + 1)) (acc ++ [⟨s, x⟩]) a := by
 rw [show m - i = (m - (i + 1)) + 1 from by omega]; rfl

set_option maxHeartbeats 2000000 in
theorem take_set (p : Nat) (A : Option Addr) (n c : Nat) (bs : List UInt8) (a : Nat) (w : World) (hr : IsR w p A n c bs a) (hA : ∀ ad, A = some ad → ad.block < w.heap.size)
  (k a1 : Nat) (hk : rUpto 9 bs a = .ok (k, a1)) (hk1 : k = 8) :
  Calls Tryz.prog 104 #[.pointer (some ⟨p, 0, none⟩)] w (RPost (encRec w.heap.size) w p A n c bs (rRec bs a)) := by
 have hs : shapeOf (k : Int) = ⟨false, false, false, false, true⟩ := by rw [hk1]; rfl
 have hspec1 : Hid (rRec bs a = (match rUpto 32 bs a1 with | .error e => .error e | .ok (cc, a) => (match rUpto 32 bs a with | .error e => .error e | .ok (m, a) => rListEnd k cc (rItemsGo false bs m [] a)))) := by unfold Hid rRec; simp only [hk]; rw [if_neg (by omega)]; unfold rBody; rw [if_neg (by omega), if_neg (by omega), if_neg (by omega), if_neg (by omega)]; rw [show decide (k = 9) = false from by rw [hk1]; rfl]; rfl
 have hk9 : k ≤ 9 := by omega
 have hk0 : ((k : Int) == 0) = false := by rw [beq_eq_false_iff_ne]; omega
 have hkW : Hid (-9223372036854775808 ≤ (k : Int) ∧ (k : Int) < 9223372036854775808) := ⟨by omega, by omega⟩
 have hk' := Lib.hid hk
 have hk1' := Lib.hid hk1
 clear hk hk1
 have hpl := hr.blk.lt
 go_enter Tryz.func104, Tryz.ntmps104
 go_wp2_with fail
 have hcl0 := hzTakes0 w
 have hb0 := (Blk.new w 62 #[.int .i64 0, .int .i64 0, .int .i64 0, .int .i64 0, .float .f64 0, .int .i64 0, .string ⟨#[]⟩, .slice none 0 0]).alloc (.cells #[.int .i64 0, .int .i64 0, .int .i64 0, .int .i64 0, .float .f64 0, .int .i64 0, .string ⟨#[]⟩, .slice none 0 0] 62)
 have hb1 := Blk.new (w.alloc (.cells #[.int .i64 0, .int .i64 0, .int .i64 0, .int .i64 0, .float .f64 0, .int .i64 0, .string ⟨#[]⟩, .slice none 0 0] 62)) 62 #[.int .i64 0, .int .i64 0, .int .i64 0, .int .i64 0, .float .f64 0, .int .i64 0, .string ⟨#[]⟩, .slice none 0 0]
 simp only [World.size_alloc] at hb1
 refine (upto_any p A n c bs a 9 (by omega) _ (hr.cln hcl0)).mono ?_
 intro e w1 h
 rcases h.cases with ⟨x, a2, v, hres, rfl, hv, hr2, hk2⟩ | ⟨f, hres, rfl, hk2⟩
 case inr => rw [hk'.out] at hres; cases hres
 rw [hk'.out] at hres
 injection hres with hres; injection hres with e1 e2; subst e1; subst e2
 have hv' : v = .int .i64 (k : Nat) := hv
 subst hv'
 clear hv h
 have hb0' := hb0.kept hk2 (show ¬ w.heap.size = p by omega)
 have hb1' := hb1.kept hk2 (show ¬ w.heap.size + 1 = p by omega)
 have hlt0 := hb0'.lt
 have hlt1 := hb1'.lt
 have hc1 := hb1'.cell
 have hf1 := hb1'.frozen
 have hK1 := (Kept.of_below (S := (· = p)) hcl0).trans hk2
 have hr2' := Lib.hid hr2
 clear hb0 hb1 hcl0
 go_wp2_with fail
 refine (shaped_any (k : Int) _).mono ?_; rintro e w2 ⟨rfl, hq⟩; rw [hs]; unfold shapeVal
 have st1 : TakeSt w p A n c bs w.heap.size (w.heap.size + 1) w2.heap.size #[.int .i64 (k : Int), .int .i64 0, .int .i64 0, .int .i64 0, .float .f64 0, .int .i64 0, .string ⟨#[]⟩, .slice none 0 0] #[.bool false, .bool false, .bool false, .bool false, .bool true] (w2.alloc (.cells #[.bool false, .bool false, .bool false, .bool false, .bool true] 181)) a1 := by
  have hne2 : ∀ ad, A = some ad → ad.block ≠ w.heap.size + 1 := fun ad e => by have := hA ad e; omega
  have hne0 : ∀ ad, A = some ad → ad.block ≠ w.heap.size := fun ad e => by have := hA ad e; omega
  have hb1s : Blk _ (w.heap.size + 1) 62 #[.int .i64 (k : Int), .int .i64 0, .int .i64 0, .int .i64 0, .float .f64 0, .int .i64 0, .string ⟨#[]⟩, .slice none 0 0] := hb1'.set_ 0 (.int .i64 (k : Int))
  have hcln2 : Cln (w1.setCell ⟨w.heap.size + 1, 0, none⟩ (.int .i64 (k : Int))) (w2.alloc (.cells #[.bool false, .bool false, .bool false, .bool false, .bool true] 181)) := cln_trans hq ((Below.refl _ _).alloc (Nat.le_refl _) _)
  have hsz2 := hq.size
  simp only [World.size_setCell] at hsz2
  exact ⟨(hr2'.out.other (q := ⟨w.heap.size + 1, 0, none⟩) (by simp; omega) hne2 _).cln hcln2, (hK1.setCell (p := ⟨w.heap.size + 1, 0, none⟩) (fun h => by simp at h; omega) _).below_ hcln2,
   (hb0'.far (p := ⟨w.heap.size + 1, 0, none⟩) (by simp) _).cln hcln2, hb1s.cln hcln2, Blk.new w2 _ _, by omega, by omega, by omega, by omega, by omega, by omega, hne0, hne2⟩
 have hA' := Lib.hid hA
 have hlt2 : Hid (w.heap.size + 1 < w2.heap.size) := by have hsz2 := hq.size; simp only [World.size_setCell] at hsz2; unfold Hid; omega
 have hne21 : ¬ w2.heap.size = w.heap.size + 1 := by have := hlt2.out; omega
 have hne12 : ¬ w.heap.size + 1 = w2.heap.size := by have := hlt2.out; omega
 clear hq hb0' hb1' hc1 hf1 hK1 hr2' hr2 hk2 hA hr hs
 have hB : Hid (w2.heap.size + 1 = (w2.alloc (.cells #[.bool false, .bool false, .bool false, .bool false, .bool true] 181)).heap.size) := by unfold Hid; simp
 have hc1 := st1.b1.cell
 have hf1 := st1.b1.frozen
 have hs1 := st1.b2.cell
 have hl1 := st1.b1.lt
 have hm1 := st1.b0.frozen
 go_wp2_with fail
 refine (upto_any p A n c bs a1 32 (by omega) _ st1.R).mono ?_
 intro e w' h
 rcases h.cases with ⟨cc, b2, v, hres, rfl, hv, hr2, hk2⟩ | ⟨f, hres, rfl, hk2⟩
 case inr =>
  have hres' := Lib.hid hres; clear hres h
  go_wp2_with fail
  refine ⟨rfl, ?_⟩
  rw [hspec1.out]; simp only [hres'.out]
  exact ⟨rfl, st1.K.trans hk2⟩
 have hv' : v = .int .i64 (cc : Nat) := hv
 subst hv'
 have hspec2 : Hid (rRec bs a = (match rUpto 32 bs b2 with | .error e => .error e | .ok (m, a) => rListEnd k cc (rItemsGo false bs m [] a))) := by unfold Hid; rw [hspec1.out]; simp only [hres]
 have hcc := rUpto_le hres
 have hres1 := Lib.hid hres
 have stm1 := st1.step hr2 hk2
 clear h hv hres hr2 hk2
 have hsz1 : Hid (w2.heap.size + 1 ≤ w'.heap.size) := by have h1 := hB.out; have h2 := stm1.b2.lt; unfold Hid; omega
 clear hc1 hf1 hs1 hl1 hm1
 have hc1 := stm1.b1.cell
 have hf1 := stm1.b1.frozen
 have hs1 := stm1.b2.cell
 have hl1 := stm1.b1.lt
 have hm1 := stm1.b0.frozen
 have st2 := stm1.store (cs1' := #[.int .i64 (k : Int), .int .i64 0, .int .i64 0, .int .i64 0, .float .f64 0, .int .i64 (cc : Int), .string ⟨#[]⟩, .slice none 0 0]) 5 (.int .i64 (cc : Int)) rfl
 go_wp2_with fail
 refine (upto_any p A n c bs b2 32 (by omega) _ st2.R).mono ?_
 intro e w' h
 rcases h.cases with ⟨m, b3, v, hres, rfl, hv, hr2, hk2⟩ | ⟨f, hres, rfl, hk2⟩
 case inr =>
  have hres' := Lib.hid hres; clear hres h
  go_wp2_with fail
  refine ⟨rfl, ?_⟩
  rw [hspec2.out]; simp only [hres'.out]
  exact ⟨rfl, st2.K.trans hk2⟩
 have hv' : v = .int .i64 (m : Nat) := hv
 subst hv'
 have hspec3 : Hid (rRec bs a = rListEnd k cc (rItemsGo false bs m [] b3)) := by unfold Hid; rw [hspec2.out]; simp only [hres]
 have hm := rUpto_le hres
 have hres2 := Lib.hid hres
 have stm2 := st2.step hr2 hk2
 clear h hv hres hr2 hk2
 clear hc1 hf1 hs1 hl1 hm1
 have hL0 : TakeL w p A n c bs w.heap.size (w.heap.size + 1) w2.heap.size (w2.heap.size + 1) k cc 0 [] none 0 w' b3 := by
  refine ⟨stm2, World.ownsRow_nil _ _ _ _, fun j => ?_, ?_, ?_, ?_, ?_, fun ad e => ?_, ?_, ?_⟩
  ·simp [itAt]
  all_goals have hx := hlt2.out
  all_goals first | omega | skip
  ·have := hA'.out ad e; omega
  ·have := stm2.b2.lt; omega
 have hH0 : Hid (rRec bs a = rListEnd k cc (rItemsGo false bs (m - 0) [] b3)) := hspec3
 clear st1 stm1 stm2 st2 hspec1 hspec2 hspec3 hres1 hres2
 go_wp2_with fail
 go_loopw [48] (fun v wr => ∃ (i : Nat) (acc : List MItem) (A' : Option Addr) (c' ar : Nat), i ≤ m ∧ v = .int .i64 (i : Nat) ∧ TakeL w p A n c bs w.heap.size (w.heap.size + 1) w2.heap.size (w2.heap.size + 1) k cc i acc A' c' wr ar ∧ Hid (rRec bs a = rListEnd k cc (rItemsGo false bs (m - i) acc ar))) (fun v _ => (m - intOf v).toNat)
 case atStart => exact ⟨0, [], none, 0, b3, Nat.zero_le _, rfl, hL0, hH0⟩
 case round =>
  obtain ⟨i, acc, A', c', ar, hi, rfl, hT, hH⟩ := hrel
  clear hL0 hH0
  by_cases hlt5 : i < m
  ·have hd := hT.st.b1.cell
   have hdl := hT.st.b1.lt
   have hdn : ¬ w.heap.size + 1 = wr.heap.size := by omega
   have hdn' : ¬ wr.heap.size = w.heap.size + 1 := by omega
   have hno := Lib.hid hT.fresh
   have hpx : Hid (wr.heap.size ≠ p) := by have := hT.Bp; have := hT.Bs; unfold Hid; omega
   have hBx : Hid (w2.heap.size + 1 ≤ wr.heap.size) := hT.Bs
   have t9 : ((k : Int) == 9) = false := by rw [hk1'.out]; rfl
   have T0 := hT.cln ((Below.refl _ _).alloc (Nat.le_refl _) (.cells #[.float .f64 0, .string ⟨#[]⟩] 158))
   have x0 := Blk.new wr 158 #[.float .f64 0, .string ⟨#[]⟩]
   have hstep := Lib.hid (hH.out.trans (congrArg (rListEnd k cc) (rItemsGo_set hlt5 acc ar)))
   clear hT hH
   obtain ⟨i0, hi0, hz0, hz1, hz2⟩ := info_parts Tryz.info158
   have hsx : (0 : Nat) < 18446744073709551616 := zF
   go_wp2_with fail
   refine (s_any p A n c bs ar 16 (by omega) _ T0.st.R).mono ?_
   intro e w6 h
   rcases h.cases with ⟨x, ar2, v, hres, rfl, hv, hr2, hk2⟩ | ⟨f, hres, rfl, hk2⟩
   case inr =>
    have hres' := Lib.hid hres; clear hres h
    go_wp2_with fail
    refine ⟨rfl, ?_⟩
    rw [hstep.out]; simp only [hres'.out, rListEnd]
    exact ⟨rfl, T0.st.K.trans hk2⟩
   have hv' : v = .string (str x) := hv
   subst hv'
   have hH9 : Hid (rRec bs a = rListEnd k cc (rItemsGo false bs (m - (i + 1)) (acc ++ [⟨0, x⟩]) ar2)) := by unfold Hid; rw [hstep.out]; simp only [hres]
   have T3 := T0.step hr2 hk2
   have x3 := x0.kept hk2 hpx.out
   have T4 := T3.far (keptSet w6 wr.heap.size 1 (.string (str x))) hBx.out hno.out
   clear h hv hres hr2 hk2 hd hdl 
   have hd := T3.st.b1.cell
   have hdl := T3.st.b1.lt
   have xc := x3.cell
   have xf := x3.frozen
   have xl := x3.lt
   clear T0 x0 
   go_wp2_with (
    at_builtin
    refine wpList_push rfl _ _ 60 rfl (w2.heap.size + 1) 158 i0 (.agg #[.float .f64 0, .string ⟨#[]⟩]) 2 24 Tryz.underlying60 hi0 hz0 hz1 hz2 rfl (by decide) (by decide) (.slice A' i c') i (itemVals acc) [.float .f64 0, .string (str x)] rfl (by simp [Value.oneCell']) rfl (by simp only [World.size_setCell]; rfl) T4.own (by omega) T4.Bs ?_
    intro v' w1 hown1 hg1
    obtain ⟨A2, c2, rfl, _, _⟩ := own_form hown1
    rw [itemVals_snoc acc ⟨0, x⟩] at hown1
    obtain ⟨hst, hBs⟩ := T4.grow hg1
    have T5 := Lib.hid (T4.push hsx hst hBs hown1)
    clear hd hdl xc xf xl hown1 hg1
    have hd := hst.b1.cell
    have hdl := hst.b1.lt
    have hdf := hst.b1.frozen
    clear hst)
   go_roundw
   case rel => exact ⟨i + 1, _, A2, c2, ar2, hlt5, by go_num, T5.out, hH9⟩
   case measure => simp [intOf]; omega
  ·obtain rfl : i = m := by omega
   have t2 : decide ((i : Int) < (i : Int)) = false := decide_eq_false (by omega)
   have hspec9 : Hid (rRec bs a = rDone ⟨(k : Int), 0, 0, 0, 0, (cc : Int), [], acc⟩ ar) := by unfold Hid; rw [hH.out, Nat.sub_self]; rfl
   have hccW : Hid (-9223372036854775808 ≤ (cc : Int) ∧ (cc : Int) < 9223372036854775808) := ⟨by omega, by omega⟩
   have hLI : RdItems wr A' i acc := own_items hT.own hT.wf
   have hge : ∀ ad, A' = some ad → w.heap.size ≤ ad.block ∧ ad.block ≠ w.heap.size := fun ad e => by
    obtain ⟨A3, c3, hv3, hA3, _⟩ := own_form hT.own
    injection hv3 with h1 h2 h3
    have h4 := (hA3 ad (h1 ▸ e)).2.2.1
    have h5 := hT.B0
    exact ⟨by omega, by omega⟩
   have hge' := Lib.hid hge
   have st9 := hT.st
   clear hH hT hge
   have hc9 := st9.b1.cell
   have hf9 := st9.b1.frozen
   have hs9 := st9.b2.cell
   have hl9 := st9.b1.lt
   have hm9 := st9.b0.frozen
   go_wp2_with fail
   refine (check_any ⟨(k : Int), 0, 0, 0, 0, (cc : Int), [], acc⟩ A' i c' (by omega) ⟨hkW.out, z64, z64, z64, zF, hccW.out⟩ _ hLI).mono ?_
   rintro e w4 ⟨rfl, hq⟩
   have stF := st9.cln hq
   have hLF : RdItems w4 A' i _ := RdItems.cln hLI hq
   have hwf : MRec.WF ⟨(k : Int), 0, 0, 0, 0, (cc : Int), [], acc⟩ := ⟨hkW.out, z64, z64, z64, zF, hccW.out⟩
   have hle9 : checkRec ⟨(k : Int), 0, 0, 0, 0, (cc : Int), [], acc⟩ ≤ 8 := checkRec_le _
   have hspF := hspec9.out
   generalize hC : checkRec ⟨(k : Int), 0, 0, 0, 0, (cc : Int), [], acc⟩ = ck at hle9 ⊢
   unfold rDone at hspF
   rw [hC] at hspF
   have hspF' := Lib.hid hspF
   clear hspF hC hq
   by_cases hz : ck = 0
   ·subst hz
    have hspF : Hid (rRec bs a = .ok (⟨(k : Int), 0, 0, 0, 0, (cc : Int), [], acc⟩, ar)) := by unfold Hid; rw [hspF'.out, if_pos rfl]
    have hc := stF.b1.cell
    have hf := stF.b1.frozen
    have hm := stF.b0.frozen
    have hl0 := stF.b0.lt
    have hc0 := stF.b0.cell
    have hl := stF.b1.lt
    go_wp2_with fail
    have hfin := stF.fin8 (.int .i64 (k : Int)) (.int .i64 0) (.int .i64 0) (.int .i64 0) (.float .f64 0) (.int .i64 (cc : Int)) (.string ⟨#[]⟩) (.slice A' i c')
    have t1 : (Tryz.prog.info? 62).map (·.size) = some 8 := by kernel_rfl
    refine bodyPost_ret (v := .agg #[.int .i64 (k : Int), .int .i64 0, .int .i64 0, .int .i64 0, .float .f64 0, .int .i64 (cc : Int), .string ⟨#[]⟩, .slice A' i c']) ?_ rfl ?_
    ·refine results_cell_row Tryz.results104 _ _ w.heap.size 62 #[.int .i64 (k : Int), .int .i64 0, .int .i64 0, .int .i64 0, .float .f64 0, .int .i64 (cc : Int), .string ⟨#[]⟩, .slice A' i c'] (0, 0) _ ?_ ?_ Tryz.underlying62 ?_ ?_
     ·rfl
     ·exact hfin
     ·rfl
     ·exact t1
    ·rw [hspF.out]
     exact stF.fin _ hwf _ _ _ hLF (by omega) hge'.out
   ·have hz1 : (((ck : Nat) : Int) == 0) = false := by rw [beq_eq_false_iff_ne]; omega
    have hz2 : ¬ ((ck : Nat) : Int) = 0 := by omega
    have hspF : Hid (rRec bs a = .error (ck, ar)) := by unfold Hid; rw [hspF'.out, if_neg hz]
    go_wp2_with fail
    refine (Fail_any p A n c bs ar ck _ stF.R).mono ?_
    rintro e w5 ⟨rfl, rfl⟩
    go_wp2_with fail
    refine ⟨rfl, ?_⟩
    rw [hspF.out]
    exact ⟨rfl, stF.K⟩

set_option maxHeartbeats 2000000 in
theorem take_top (p : Nat) (A : Option Addr) (n c : Nat) (bs : List UInt8) (a : Nat) (w : World) (hr : IsR w p A n c bs a) (hA : ∀ ad, A = some ad → ad.block < w.heap.size)
  (k a1 : Nat) (hk : rUpto 9 bs a = .ok (k, a1)) (hk1 : k = 9) :
  Calls Tryz.prog 104 #[.pointer (some ⟨p, 0, none⟩)] w (RPost (encRec w.heap.size) w p A n c bs (rRec bs a)) := by
 have hs : shapeOf (k : Int) = ⟨false, false, false, false, true⟩ := by rw [hk1]; rfl
 have hspec1 : Hid (rRec bs a = (match rUpto 32 bs a1 with | .error e => .error e | .ok (cc, a) => (match rUpto 32 bs a with | .error e => .error e | .ok (m, a) => rListEnd k cc (rItemsGo true bs m [] a)))) := by unfold Hid rRec; simp only [hk]; rw [if_neg (by omega)]; unfold rBody; rw [if_neg (by omega), if_neg (by omega), if_neg (by omega), if_neg (by omega)]; rw [show decide (k = 9) = true from by rw [hk1]; rfl]; rfl
 have hk9 : k ≤ 9 := by omega
 have hk0 : ((k : Int) == 0) = false := by rw [beq_eq_false_iff_ne]; omega
 have hkW : Hid (-9223372036854775808 ≤ (k : Int) ∧ (k : Int) < 9223372036854775808) := ⟨by omega, by omega⟩
 have hk' := Lib.hid hk
 have hk1' := Lib.hid hk1
 clear hk hk1
 have hpl := hr.blk.lt
 go_enter Tryz.func104, Tryz.ntmps104
 go_wp2_with fail
 have hcl0 := hzTakes0 w
 have hb0 := (Blk.new w 62 #[.int .i64 0, .int .i64 0, .int .i64 0, .int .i64 0, .float .f64 0, .int .i64 0, .string ⟨#[]⟩, .slice none 0 0]).alloc (.cells #[.int .i64 0, .int .i64 0, .int .i64 0, .int .i64 0, .float .f64 0, .int .i64 0, .string ⟨#[]⟩, .slice none 0 0] 62)
 have hb1 := Blk.new (w.alloc (.cells #[.int .i64 0, .int .i64 0, .int .i64 0, .int .i64 0, .float .f64 0, .int .i64 0, .string ⟨#[]⟩, .slice none 0 0] 62)) 62 #[.int .i64 0, .int .i64 0, .int .i64 0, .int .i64 0, .float .f64 0, .int .i64 0, .string ⟨#[]⟩, .slice none 0 0]
 simp only [World.size_alloc] at hb1
 refine (upto_any p A n c bs a 9 (by omega) _ (hr.cln hcl0)).mono ?_
 intro e w1 h
 rcases h.cases with ⟨x, a2, v, hres, rfl, hv, hr2, hk2⟩ | ⟨f, hres, rfl, hk2⟩
 case inr => rw [hk'.out] at hres; cases hres
 rw [hk'.out] at hres
 injection hres with hres; injection hres with e1 e2; subst e1; subst e2
 have hv' : v = .int .i64 (k : Nat) := hv
 subst hv'
 clear hv h
 have hb0' := hb0.kept hk2 (show ¬ w.heap.size = p by omega)
 have hb1' := hb1.kept hk2 (show ¬ w.heap.size + 1 = p by omega)
 have hlt0 := hb0'.lt
 have hlt1 := hb1'.lt
 have hc1 := hb1'.cell
 have hf1 := hb1'.frozen
 have hK1 := (Kept.of_below (S := (· = p)) hcl0).trans hk2
 have hr2' := Lib.hid hr2
 clear hb0 hb1 hcl0
 go_wp2_with fail
 refine (shaped_any (k : Int) _).mono ?_; rintro e w2 ⟨rfl, hq⟩; rw [hs]; unfold shapeVal
 have st1 : TakeSt w p A n c bs w.heap.size (w.heap.size + 1) w2.heap.size #[.int .i64 (k : Int), .int .i64 0, .int .i64 0, .int .i64 0, .float .f64 0, .int .i64 0, .string ⟨#[]⟩, .slice none 0 0] #[.bool false, .bool false, .bool false, .bool false, .bool true] (w2.alloc (.cells #[.bool false, .bool false, .bool false, .bool false, .bool true] 181)) a1 := by
  have hne2 : ∀ ad, A = some ad → ad.block ≠ w.heap.size + 1 := fun ad e => by have := hA ad e; omega
  have hne0 : ∀ ad, A = some ad → ad.block ≠ w.heap.size := fun ad e => by have := hA ad e; omega
  have hb1s : Blk _ (w.heap.size + 1) 62 #[.int .i64 (k : Int), .int .i64 0, .int .i64 0, .int .i64 0, .float .f64 0, .int .i64 0, .string ⟨#[]⟩, .slice none 0 0] := hb1'.set_ 0 (.int .i64 (k : Int))
  have hcln2 : Cln (w1.setCell ⟨w.heap.size + 1, 0, none⟩ (.int .i64 (k : Int))) (w2.alloc (.cells #[.bool false, .bool false, .bool false, .bool false, .bool true] 181)) := cln_trans hq ((Below.refl _ _).alloc (Nat.le_refl _) _)
  have hsz2 := hq.size
  simp only [World.size_setCell] at hsz2
  exact ⟨(hr2'.out.other (q := ⟨w.heap.size + 1, 0, none⟩) (by simp; omega) hne2 _).cln hcln2, (hK1.setCell (p := ⟨w.heap.size + 1, 0, none⟩) (fun h => by simp at h; omega) _).below_ hcln2,
   (hb0'.far (p := ⟨w.heap.size + 1, 0, none⟩) (by simp) _).cln hcln2, hb1s.cln hcln2, Blk.new w2 _ _, by omega, by omega, by omega, by omega, by omega, by omega, hne0, hne2⟩
 have hA' := Lib.hid hA
 have hlt2 : Hid (w.heap.size + 1 < w2.heap.size) := by have hsz2 := hq.size; simp only [World.size_setCell] at hsz2; unfold Hid; omega
 have hne21 : ¬ w2.heap.size = w.heap.size + 1 := by have := hlt2.out; omega
 have hne12 : ¬ w.heap.size + 1 = w2.heap.size := by have := hlt2.out; omega
 clear hq hb0' hb1' hc1 hf1 hK1 hr2' hr2 hk2 hA hr hs
 have hB : Hid (w2.heap.size + 1 = (w2.alloc (.cells #[.bool false, .bool false, .bool false, .bool false, .bool true] 181)).heap.size) := by unfold Hid; simp
 have hc1 := st1.b1.cell
 have hf1 := st1.b1.frozen
 have hs1 := st1.b2.cell
 have hl1 := st1.b1.lt
 have hm1 := st1.b0.frozen
 go_wp2_with fail
 refine (upto_any p A n c bs a1 32 (by omega) _ st1.R).mono ?_
 intro e w' h
 rcases h.cases with ⟨cc, b2, v, hres, rfl, hv, hr2, hk2⟩ | ⟨f, hres, rfl, hk2⟩
 case inr =>
  have hres' := Lib.hid hres; clear hres h
  go_wp2_with fail
  refine ⟨rfl, ?_⟩
  rw [hspec1.out]; simp only [hres'.out]
  exact ⟨rfl, st1.K.trans hk2⟩
 have hv' : v = .int .i64 (cc : Nat) := hv
 subst hv'
 have hspec2 : Hid (rRec bs a = (match rUpto 32 bs b2 with | .error e => .error e | .ok (m, a) => rListEnd k cc (rItemsGo true bs m [] a))) := by unfold Hid; rw [hspec1.out]; simp only [hres]
 have hcc := rUpto_le hres
 have hres1 := Lib.hid hres
 have stm1 := st1.step hr2 hk2
 clear h hv hres hr2 hk2
 have hsz1 : Hid (w2.heap.size + 1 ≤ w'.heap.size) := by have h1 := hB.out; have h2 := stm1.b2.lt; unfold Hid; omega
 clear hc1 hf1 hs1 hl1 hm1
 have hc1 := stm1.b1.cell
 have hf1 := stm1.b1.frozen
 have hs1 := stm1.b2.cell
 have hl1 := stm1.b1.lt
 have hm1 := stm1.b0.frozen
 have st2 := stm1.store (cs1' := #[.int .i64 (k : Int), .int .i64 0, .int .i64 0, .int .i64 0, .float .f64 0, .int .i64 (cc : Int), .string ⟨#[]⟩, .slice none 0 0]) 5 (.int .i64 (cc : Int)) rfl
 go_wp2_with fail
 refine (upto_any p A n c bs b2 32 (by omega) _ st2.R).mono ?_
 intro e w' h
 rcases h.cases with ⟨m, b3, v, hres, rfl, hv, hr2, hk2⟩ | ⟨f, hres, rfl, hk2⟩
 case inr =>
  have hres' := Lib.hid hres; clear hres h
  go_wp2_with fail
  refine ⟨rfl, ?_⟩
  rw [hspec2.out]; simp only [hres'.out]
  exact ⟨rfl, st2.K.trans hk2⟩
 have hv' : v = .int .i64 (m : Nat) := hv
 subst hv'
 have hspec3 : Hid (rRec bs a = rListEnd k cc (rItemsGo true bs m [] b3)) := by unfold Hid; rw [hspec2.out]; simp only [hres]
 have hm := rUpto_le hres
 have hres2 := Lib.hid hres
 have stm2 := st2.step hr2 hk2
 clear h hv hres hr2 hk2
 clear hc1 hf1 hs1 hl1 hm1
 have hL0 : TakeL w p A n c bs w.heap.size (w.heap.size + 1) w2.heap.size (w2.heap.size + 1) k cc 0 [] none 0 w' b3 := by
  refine ⟨stm2, World.ownsRow_nil _ _ _ _, fun j => ?_, ?_, ?_, ?_, ?_, fun ad e => ?_, ?_, ?_⟩
  ·simp [itAt]
  all_goals have hx := hlt2.out
  all_goals first | omega | skip
  ·have := hA'.out ad e; omega
  ·have := stm2.b2.lt; omega
 have hH0 : Hid (rRec bs a = rListEnd k cc (rItemsGo true bs (m - 0) [] b3)) := hspec3
 clear st1 stm1 stm2 st2 hspec1 hspec2 hspec3 hres1 hres2
 go_wp2_with fail
 go_loopw [48] (fun v wr => ∃ (i : Nat) (acc : List MItem) (A' : Option Addr) (c' ar : Nat), i ≤ m ∧ v = .int .i64 (i : Nat) ∧ TakeL w p A n c bs w.heap.size (w.heap.size + 1) w2.heap.size (w2.heap.size + 1) k cc i acc A' c' wr ar ∧ Hid (rRec bs a = rListEnd k cc (rItemsGo true bs (m - i) acc ar))) (fun v _ => (m - intOf v).toNat)
 case atStart => exact ⟨0, [], none, 0, b3, Nat.zero_le _, rfl, hL0, hH0⟩
 case round =>
  obtain ⟨i, acc, A', c', ar, hi, rfl, hT, hH⟩ := hrel
  clear hL0 hH0
  by_cases hlt5 : i < m
  ·have hd := hT.st.b1.cell
   have hdl := hT.st.b1.lt
   have hdn : ¬ w.heap.size + 1 = wr.heap.size := by omega
   have hdn' : ¬ wr.heap.size = w.heap.size + 1 := by omega
   have hno := Lib.hid hT.fresh
   have hpx : Hid (wr.heap.size ≠ p) := by have := hT.Bp; have := hT.Bs; unfold Hid; omega
   have hBx : Hid (w2.heap.size + 1 ≤ wr.heap.size) := hT.Bs
   have t9 : ((k : Int) == 9) = true := by rw [hk1'.out]; rfl
   have T0 := hT.cln ((Below.refl _ _).alloc (Nat.le_refl _) (.cells #[.float .f64 0, .string ⟨#[]⟩] 158))
   have x0 := Blk.new wr 158 #[.float .f64 0, .string ⟨#[]⟩]
   have hstep := Lib.hid (hH.out.trans (congrArg (rListEnd k cc) (rItemsGo_top hlt5 acc ar)))
   clear hT hH
   obtain ⟨i0, hi0, hz0, hz1, hz2⟩ := info_parts Tryz.info158
   go_wp2_with fail
   refine (f_any p A n c bs ar _ T0.st.R).mono ?_
   intro e w5 h
   rcases h.cases with ⟨s, ar1, v, hres, rfl, hv, hr2, hk2⟩ | ⟨f, hres, rfl, hk2⟩
   case inr =>
    have hres' := Lib.hid hres; clear hres h
    go_wp2_with fail
    refine ⟨rfl, ?_⟩
    rw [hstep.out]; simp only [hres'.out, rListEnd]
    exact ⟨rfl, T0.st.K.trans hk2⟩
   have hv' : v = .float .f64 s := hv
   subst hv'
   have hsx := rF_lt hres
   have hstep1 : Hid (rRec bs a = rListEnd k cc (match rS 16 bs ar1 with | .error e => .error e | .ok (x, a) => rItemsGo true bs (m - (i + 1)) (acc ++ [⟨s, x⟩]) a)) := by unfold Hid; rw [hstep.out]; simp only [hres]
   have T1 := T0.step hr2 hk2
   have x1 := x0.kept hk2 hpx.out
   have T2 := T1.far (keptSet w5 wr.heap.size 0 (.float .f64 s)) hBx.out hno.out
   have x2 : Blk _ _ _ #[.float .f64 s, .string ⟨#[]⟩] := x1.set_ 0 (.float .f64 s)
   clear h hv hres hr2 hk2 hd hdl hstep
   have hd := T1.st.b1.cell
   have hdl := T1.st.b1.lt
   have xc := x1.cell
   have xf := x1.frozen
   have xl := x1.lt
   go_wp2_with fail
   refine (s_any p A n c bs ar1 16 (by omega) _ T2.st.R).mono ?_
   intro e w6 h
   rcases h.cases with ⟨x, ar2, v, hres, rfl, hv, hr2, hk2⟩ | ⟨f, hres, rfl, hk2⟩
   case inr =>
    have hres' := Lib.hid hres; clear hres h
    go_wp2_with fail
    refine ⟨rfl, ?_⟩
    rw [hstep1.out]; simp only [hres'.out, rListEnd]
    exact ⟨rfl, T2.st.K.trans hk2⟩
   have hv' : v = .string (str x) := hv
   subst hv'
   have hH9 : Hid (rRec bs a = rListEnd k cc (rItemsGo true bs (m - (i + 1)) (acc ++ [⟨s, x⟩]) ar2)) := by unfold Hid; rw [hstep1.out]; simp only [hres]
   have T3 := T2.step hr2 hk2
   have x3 := x2.kept hk2 hpx.out
   have T4 := T3.far (keptSet w6 wr.heap.size 1 (.string (str x))) hBx.out hno.out
   clear h hv hres hr2 hk2 hd hdl xc xf xl
   have hd := T3.st.b1.cell
   have hdl := T3.st.b1.lt
   have xc := x3.cell
   have xf := x3.frozen
   have xl := x3.lt
   clear T0 x0 T1 T2 x1 x2
   go_wp2_with (
    at_builtin
    refine wpList_push rfl _ _ 60 rfl (w2.heap.size + 1) 158 i0 (.agg #[.float .f64 0, .string ⟨#[]⟩]) 2 24 Tryz.underlying60 hi0 hz0 hz1 hz2 rfl (by decide) (by decide) (.slice A' i c') i (itemVals acc) [.float .f64 s, .string (str x)] rfl (by simp [Value.oneCell']) rfl (by simp only [World.size_setCell]; rfl) T4.own (by omega) T4.Bs ?_
    intro v' w1 hown1 hg1
    obtain ⟨A2, c2, rfl, _, _⟩ := own_form hown1
    rw [itemVals_snoc acc ⟨s, x⟩] at hown1
    obtain ⟨hst, hBs⟩ := T4.grow hg1
    have T5 := Lib.hid (T4.push hsx hst hBs hown1)
    clear hd hdl xc xf xl hown1 hg1
    have hd := hst.b1.cell
    have hdl := hst.b1.lt
    have hdf := hst.b1.frozen
    clear hst)
   go_roundw
   case rel => exact ⟨i + 1, _, A2, c2, ar2, hlt5, by go_num, T5.out, hH9⟩
   case measure => simp [intOf]; omega
  ·obtain rfl : i = m := by omega
   have t2 : decide ((i : Int) < (i : Int)) = false := decide_eq_false (by omega)
   have hspec9 : Hid (rRec bs a = rDone ⟨(k : Int), 0, 0, 0, 0, (cc : Int), [], acc⟩ ar) := by unfold Hid; rw [hH.out, Nat.sub_self]; rfl
   have hccW : Hid (-9223372036854775808 ≤ (cc : Int) ∧ (cc : Int) < 9223372036854775808) := ⟨by omega, by omega⟩
   have hLI : RdItems wr A' i acc := own_items hT.own hT.wf
   have hge : ∀ ad, A' = some ad → w.heap.size ≤ ad.block ∧ ad.block ≠ w.heap.size := fun ad e => by
    obtain ⟨A3, c3, hv3, hA3, _⟩ := own_form hT.own
    injection hv3 with h1 h2 h3
    have h4 := (hA3 ad (h1 ▸ e)).2.2.1
    have h5 := hT.B0
    exact ⟨by omega, by omega⟩
   have hge' := Lib.hid hge
   have st9 := hT.st
   clear hH hT hge
   have hc9 := st9.b1.cell
   have hf9 := st9.b1.frozen
   have hs9 := st9.b2.cell
   have hl9 := st9.b1.lt
   have hm9 := st9.b0.frozen
   go_wp2_with fail
   refine (check_any ⟨(k : Int), 0, 0, 0, 0, (cc : Int), [], acc⟩ A' i c' (by omega) ⟨hkW.out, z64, z64, z64, zF, hccW.out⟩ _ hLI).mono ?_
   rintro e w4 ⟨rfl, hq⟩
   have stF := st9.cln hq
   have hLF : RdItems w4 A' i _ := RdItems.cln hLI hq
   have hwf : MRec.WF ⟨(k : Int), 0, 0, 0, 0, (cc : Int), [], acc⟩ := ⟨hkW.out, z64, z64, z64, zF, hccW.out⟩
   have hle9 : checkRec ⟨(k : Int), 0, 0, 0, 0, (cc : Int), [], acc⟩ ≤ 8 := checkRec_le _
   have hspF := hspec9.out
   generalize hC : checkRec ⟨(k : Int), 0, 0, 0, 0, (cc : Int), [], acc⟩ = ck at hle9 ⊢
   unfold rDone at hspF
   rw [hC] at hspF
   have hspF' := Lib.hid hspF
   clear hspF hC hq
   by_cases hz : ck = 0
   ·subst hz
    have hspF : Hid (rRec bs a = .ok (⟨(k : Int), 0, 0, 0, 0, (cc : Int), [], acc⟩, ar)) := by unfold Hid; rw [hspF'.out, if_pos rfl]
    have hc := stF.b1.cell
    have hf := stF.b1.frozen
    have hm := stF.b0.frozen
    have hl0 := stF.b0.lt
    have hc0 := stF.b0.cell
    have hl := stF.b1.lt
    go_wp2_with fail
    have hfin := stF.fin8 (.int .i64 (k : Int)) (.int .i64 0) (.int .i64 0) (.int .i64 0) (.float .f64 0) (.int .i64 (cc : Int)) (.string ⟨#[]⟩) (.slice A' i c')
    have t1 : (Tryz.prog.info? 62).map (·.size) = some 8 := by kernel_rfl
    refine bodyPost_ret (v := .agg #[.int .i64 (k : Int), .int .i64 0, .int .i64 0, .int .i64 0, .float .f64 0, .int .i64 (cc : Int), .string ⟨#[]⟩, .slice A' i c']) ?_ rfl ?_
    ·refine results_cell_row Tryz.results104 _ _ w.heap.size 62 #[.int .i64 (k : Int), .int .i64 0, .int .i64 0, .int .i64 0, .float .f64 0, .int .i64 (cc : Int), .string ⟨#[]⟩, .slice A' i c'] (0, 0) _ ?_ ?_ Tryz.underlying62 ?_ ?_
     ·rfl
     ·exact hfin
     ·rfl
     ·exact t1
    ·rw [hspF.out]
     exact stF.fin _ hwf _ _ _ hLF (by omega) hge'.out
   ·have hz1 : (((ck : Nat) : Int) == 0) = false := by rw [beq_eq_false_iff_ne]; omega
    have hz2 : ¬ ((ck : Nat) : Int) = 0 := by omega
    have hspF : Hid (rRec bs a = .error (ck, ar)) := by unfold Hid; rw [hspF'.out, if_neg hz]
    go_wp2_with fail
    refine (Fail_any p A n c bs ar ck _ stF.R).mono ?_
    rintro e w5 ⟨rfl, rfl⟩
    go_wp2_with fail
    refine ⟨rfl, ?_⟩
    rw [hspF.out]
    exact ⟨rfl, stF.K⟩

theorem take_none (p : Nat) (A : Option Addr) (n c : Nat) (bs : List UInt8) (a : Nat) (w : World) (hr : IsR w p A n c bs a) (hA : ∀ ad, A = some ad → ad.block < w.heap.size)
  (a1 : Nat) (hk : rUpto 9 bs a = .ok (0, a1)) :
  Calls Tryz.prog 104 #[.pointer (some ⟨p, 0, none⟩)] w (RPost (encRec w.heap.size) w p A n c bs (rRec bs a)) := by
 have hspec1 : Hid (rRec bs a = .error (5, a1)) := by unfold Hid rRec; simp only [hk]; rfl
 have hk' := Lib.hid hk
 clear hk
 have hpl := hr.blk.lt
 go_enter Tryz.func104, Tryz.ntmps104
 go_wp2_with fail
 have hcl0 := hzTakes0 w
 have hb1 := Blk.new (w.alloc (.cells #[.int .i64 0, .int .i64 0, .int .i64 0, .int .i64 0, .float .f64 0, .int .i64 0, .string ⟨#[]⟩, .slice none 0 0] 62)) 62 #[.int .i64 0, .int .i64 0, .int .i64 0, .int .i64 0, .float .f64 0, .int .i64 0, .string ⟨#[]⟩, .slice none 0 0]
 simp only [World.size_alloc] at hb1
 refine (upto_any p A n c bs a 9 (by omega) _ (hr.cln hcl0)).mono ?_
 intro e w1 h
 rcases h.cases with ⟨x, a2, v, hres, rfl, hv, hr2, hk2⟩ | ⟨f, hres, rfl, hk2⟩
 case inr => rw [hk'.out] at hres; cases hres
 rw [hk'.out] at hres
 injection hres with hres; injection hres with e1 e2; subst e1; subst e2
 have hv' : v = .int .i64 (0 : Nat) := hv
 subst hv'
 clear hv h
 have hb1' := hb1.kept hk2 (show ¬ w.heap.size + 1 = p by omega)
 have hlt1 := hb1'.lt
 have hc1 := hb1'.cell
 have hf1 := hb1'.frozen
 have hK1 := (Kept.of_below (S := (· = p)) hcl0).trans hk2
 have hne2 : ∀ ad, A = some ad → ad.block ≠ w.heap.size + 1 := fun ad e => by have := hA ad e; omega
 have hR := hr2.other (q := ⟨w.heap.size + 1, 0, none⟩) (by simp; omega) hne2 (.int .i64 0)
 have hK2 := hK1.setCell (p := ⟨w.heap.size + 1, 0, none⟩) (fun h => by simp at h; omega) (.int .i64 0)
 clear hb1 hcl0 hne2 hA hr hr2 hb1' hk2
 go_wp2_with fail
 refine (Fail_any p A n c bs a1 5 _ hR).mono ?_
 rintro e w5 ⟨rfl, rfl⟩
 go_wp2_with fail
 refine ⟨rfl, ?_⟩
 rw [hspec1.out]
 exact ⟨rfl, hK2⟩
theorem take_error (p : Nat) (A : Option Addr) (n c : Nat) (bs : List UInt8) (a : Nat) (w : World) (hr : IsR w p A n c bs a)
  (er : RErr) (hk : rUpto 9 bs a = .error er) :
  Calls Tryz.prog 104 #[.pointer (some ⟨p, 0, none⟩)] w (RPost (encRec w.heap.size) w p A n c bs (rRec bs a)) := by
 have hspec1 : Hid (rRec bs a = .error er) := by unfold Hid rRec; simp only [hk]
 have hk' := Lib.hid hk
 clear hk
 go_enter Tryz.func104, Tryz.ntmps104
 go_wp2_with fail
 have hcl0 := hzTakes0 w
 refine (upto_any p A n c bs a 9 (by omega) _ (hr.cln hcl0)).mono ?_
 intro e w1 h
 rcases h.cases with ⟨x, a2, v, hres, rfl, hv, hr2, hk2⟩ | ⟨f, hres, rfl, hk2⟩
 case inl => rw [hk'.out] at hres; cases hres
 rw [hk'.out] at hres
 injection hres with hres; subst hres
 clear h
 go_wp2_with fail
 refine ⟨rfl, ?_⟩
 rw [hspec1.out]
 exact ⟨rfl, (Kept.of_below (S := (· = p)) hcl0).trans hk2⟩
theorem take_any (p : Nat) (A : Option Addr) (n c : Nat) (bs : List UInt8) (a : Nat) (w : World) (hr : IsR w p A n c bs a) (hA : ∀ ad, A = some ad → ad.block < w.heap.size) :
  Calls Tryz.prog 104 #[.pointer (some ⟨p, 0, none⟩)] w (RPost (encRec w.heap.size) w p A n c bs (rRec bs a)) := by
 cases h : rUpto 9 bs a with
 | error er => exact take_error p A n c bs a w hr er h
 | ok x =>
  obtain ⟨k, a1⟩ := x
  have hk := rUpto_le h
  have hcases : k = 0 ∨ k = 1 ∨ (k = 2 ∨ k = 3) ∨ k = 4 ∨ (k = 5 ∨ k = 6 ∨ k = 7) ∨ k = 8 ∨ k = 9 := by omega
  rcases hcases with h0 | h0 | h0 | h0 | h0 | h0 | h0
  ·subst h0; exact take_none p A n c bs a w hr hA a1 h
  ·exact take_text p A n c bs a w hr hA k a1 h h0
  ·exact take_num p A n c bs a w hr hA k a1 h h0
  ·exact take_purse p A n c bs a w hr hA k a1 h h0
  ·exact take_real p A n c bs a w hr hA k a1 h h0
  ·exact take_set p A n c bs a w hr hA k a1 h h0
  ·exact take_top p A n c bs a w hr hA k a1 h h0
end Go.Proofs.YtbemnfbndjolpaaGreatDoor
