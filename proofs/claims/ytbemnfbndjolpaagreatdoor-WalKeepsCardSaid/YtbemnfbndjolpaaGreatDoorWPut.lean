/- The walk of rec.Put, class by class. (Printed by wip/tools/gen_put.py.) -/
import Derived.Test.YtbemnfbndjolpaaGreatDoorRecs
import Derived.Test.YtbemnfbndjolpaaGreatDoorWrs
set_option linter.unusedSimpArgs false
set_option linter.unusedVariables false
set_option maxRecDepth 20000
namespace Go.Proofs.YtbemnfbndjolpaaGreatDoor
open Go.RowKit Moi
attribute [local go_sem] toList_str str_size less_ltB store_float

theorem RdItems.kept0 {S : Nat → Prop} {w w' : World} {A : Option Addr} {n : Nat} {l : List MItem} (h : RdItems w A n l) (k : Kept S w w') (hn : 0 < n → ∀ ad, A = some ad → ad.block < w.heap.size → ¬ S ad.block) : RdItems w' A n l := by
 refine ⟨h.len, h.wf, fun h0 => ?_⟩
 obtain ⟨b, o, rfl, hb, hc⟩ := h.cells h0
 have hn' := hn h0 ⟨b, o, none⟩ rfl hb
 exact ⟨b, o, rfl, Nat.lt_of_lt_of_le hb k.size, fun i hi => ⟨k.cell (hc i hi).1 hn', k.cell (hc i hi).2 hn'⟩⟩
theorem RdItems.lo {w : World} {A : Option Addr} {n : Nat} {l : List MItem} (h : RdItems w A n l) (h0 : 0 < n) : ∀ ad, A = some ad → ad.block < w.heap.size := by
 obtain ⟨b, o, rfl, hb, _⟩ := h.cells h0
 intro ad e; injection e with e; subst e; exact hb
structure PutSt (w0 : World) (p base g1 g2 : Nat) (cs1 cs2 : Array Value) (A : Option Addr) (n : Nat) (l : List MItem) (wk : World) (bs : List UInt8) : Prop where
 W : IsW wk p base bs
 K : Kept (WS w0 base p) w0 wk
 b1 : Blk wk g1 62 cs1
 b2 : Blk wk g2 181 cs2
 it : RdItems wk A n l
 ne1 : g1 ≠ p
 ne2 : g2 ≠ p
 lo : 0 < n → ∀ ad, A = some ad → ad.block < base
section
variable {w0 : World} {p base g1 g2 : Nat} {cs1 cs2 : Array Value} {A : Option Addr} {n : Nat} {l : List MItem} {wk w' : World} {bs bs' : List UInt8} {e : Ending}
theorem PutSt.step (h : PutSt w0 p base g1 g2 cs1 cs2 A n l wk bs) (hq : WPost wk p base bs' e w') : e = .returned (.tuple #[]) ∧ PutSt w0 p base g1 g2 cs1 cs2 A n l w' bs' := by
 obtain ⟨he, hW, hK⟩ := hq
 exact ⟨he, hW, WS.trans h.K hK, h.b1.kept hK (WS.not h.b1 h.ne1 (by decide)), h.b2.kept hK (WS.not h.b2 h.ne2 (by decide)),
  h.it.kept0 hK (fun h0 ad e _ => WS.not_lt (h.lo h0 ad e) hW.lo), h.ne1, h.ne2, h.lo⟩
theorem PutSt.alloc (h : PutSt w0 p base g1 g2 cs1 cs2 A n l wk bs) (o : Obj) : PutSt w0 p base g1 g2 cs1 cs2 A n l (wk.alloc o) bs :=
 ⟨h.W.cln ((Below.refl _ _).alloc (Nat.le_refl _) _), WS.trans h.K (kept_alloc _ wk _), h.b1.alloc _, h.b2.alloc _, h.it.cln ((Below.refl _ _).alloc (Nat.le_refl _) _), h.ne1, h.ne2, h.lo⟩
end
theorem ws_list (p base : Nat) (bs : List UInt8) (l : List UInt8) (w : World) (hw : IsW w p base bs) (hl : bs.length + (wS l).length ≤ 1099511627776) :
  Calls Tryz.prog 128 #[.pointer (some ⟨p, 0, none⟩), .string (str l)] w (WPost w p base (bs ++ wS l)) := ws_any p base bs (str l) w hw hl
theorem wF_length (x : Nat) : (wF x).length = 8 := rfl
theorem wItems_drop (top : Bool) (l : List MItem) (i : Nat) (hi : i < l.length) : wItems top (l.drop i) = (if top then wF (itAt l i).score else []) ++ (wS (itAt l i).name ++ wItems top (l.drop (i + 1))) := by
 have e : l.drop i = itAt l i :: l.drop (i + 1) := by rw [List.drop_eq_getElem_cons hi]; simp [itAt, List.getD, hi]
 rw [e]; simp [wItems, List.append_assoc]

set_option maxHeartbeats 400000 in
theorem put_text (p base : Nat) (bs : List UInt8) (r : MRec) (k cp : Nat) (hk : r.kind = (k : Int)) (hcp : r.cap = (cp : Int)) (hf : r.WF) (hk1 : k = 1) (A : Option Addr) (n c : Nat) (hn : n ≤ 1048576) (w : World)
  (hw : IsW w p base bs) (hr : RdItems w A n r.list) (hA : 0 < n → ∀ ad, A = some ad → ad.block < base) (hl : bs.length + (wRec r).length ≤ 1099511627776) :
  Calls Tryz.prog 131 #[.pointer (some ⟨p, 0, none⟩), recVal r A n c] w (WPost w p base (bs ++ wRec r)) := by
 have hs : shapeOf (k : Int) = ⟨true, false, false, false, false⟩ := by unfold shapeOf; simp [hk1]
 have hv : recVal r A n c = .agg #[.int .i64 (k : Int), .int .i64 r.num, .int .i64 r.low, .int .i64 r.high, .float .f64 r.real, .int .i64 (cp : Int), .string (str r.text), .slice A n c] := by unfold recVal; rw [hk, hcp]
 have hrec : Hid (wRec r = wU k ++ wS r.text) := by unfold Hid wRec; rw [hk]; simp [hk1]
 have hlen := Lib.hid (hrec.out ▸ hl)
 have hf' := Lib.hid hf
 rw [hv]
 have hk9 : k ≤ 9 := by omega
 have hk1' := Lib.hid hk1
 clear hv hl hf hk hcp hk1
 go_enter Tryz.func131, Tryz.ntmps131
 go_wp2_with fail
 refine (shaped_any (k : Int) _).mono ?_; rintro e w1 ⟨rfl, hq⟩; rw [hs]; unfold shapeVal
 have hlt : w.heap.size < w1.heap.size := by have := hq.size; simp at this; omega
 have hne : ¬ w.heap.size = w1.heap.size := by omega
 have hpl : p < w.heap.size := by obtain ⟨_, _, _, _, _, hb, _⟩ := hw; exact hb.lt
 have st1 : PutSt w p base w.heap.size w1.heap.size #[.int .i64 (k : Int), .int .i64 r.num, .int .i64 r.low, .int .i64 r.high, .float .f64 r.real, .int .i64 (cp : Int), .string (str r.text), .slice A n c] #[.bool true, .bool false, .bool false, .bool false, .bool false] A n r.list (w1.alloc (.cells #[.bool true, .bool false, .bool false, .bool false, .bool false] 181)) bs := by
  have hc1 : Cln w w1 := cln_trans ((Below.refl _ _).alloc (Nat.le_refl _) _) hq
  exact PutSt.mk (hw.cln (cln_trans hc1 ((Below.refl _ _).alloc (Nat.le_refl _) _))) ((Kept.of_below (S := WS w base p) hc1).alloc _) (((Blk.new w _ _).cln hq).alloc _) (Blk.new w1 _ _) (hr.cln (cln_trans hc1 ((Below.refl _ _).alloc (Nat.le_refl _) _))) (by omega) (by omega) hA
 have hq' := Lib.hid hq
 clear hq hw hr hA
 have hc1 := st1.b1.cell
 have hs1 := st1.b2.cell
 go_wp2_with fail
 refine (wu_any p base _ k _ st1.W (by omega) (by have := hlen.out; simp only [List.length_append] at *; omega)).mono ?_; intro e w2 hp
 obtain ⟨rfl, st2⟩ := st1.step hp
 clear hp hc1 hs1
 have hc2 := st2.b1.cell
 have hs2 := st2.b2.cell
 go_wp2_with fail
 refine (ws_list p base _ r.text _ st2.W (by have := hlen.out; simp only [List.length_append] at *; omega)).mono ?_; intro e w3 hp
 obtain ⟨rfl, st3⟩ := st2.step hp
 clear hp hc2 hs2
 have hc3 := st3.b1.cell
 have hs3 := st3.b2.cell
 go_wp2_with fail
 refine bodyPost_ret (results_none rfl _ _ _) rfl ?_
 refine ⟨rfl, ?_, st3.K⟩
 rw [hrec.out]
 simpa only [List.append_assoc] using st3.W

set_option maxHeartbeats 400000 in
theorem put_num (p base : Nat) (bs : List UInt8) (r : MRec) (k cp : Nat) (hk : r.kind = (k : Int)) (hcp : r.cap = (cp : Int)) (hf : r.WF) (hk1 : k = 2 ∨ k = 3) (A : Option Addr) (n c : Nat) (hn : n ≤ 1048576) (w : World)
  (hw : IsW w p base bs) (hr : RdItems w A n r.list) (hA : 0 < n → ∀ ad, A = some ad → ad.block < base) (hl : bs.length + (wRec r).length ≤ 1099511627776) :
  Calls Tryz.prog 131 #[.pointer (some ⟨p, 0, none⟩), recVal r A n c] w (WPost w p base (bs ++ wRec r)) := by
 have hs : shapeOf (k : Int) = ⟨false, true, false, false, false⟩ := by unfold shapeOf; rcases hk1 with rfl | rfl <;> rfl
 have hv : recVal r A n c = .agg #[.int .i64 (k : Int), .int .i64 r.num, .int .i64 r.low, .int .i64 r.high, .float .f64 r.real, .int .i64 (cp : Int), .string (str r.text), .slice A n c] := by unfold recVal; rw [hk, hcp]
 have hrec : Hid (wRec r = wU k ++ wI r.num) := by unfold Hid wRec; rw [hk]; rcases hk1 with rfl | rfl <;> simp
 have hlen := Lib.hid (hrec.out ▸ hl)
 have hf' := Lib.hid hf
 rw [hv]
 have hk9 : k ≤ 9 := by omega
 have hk1' := Lib.hid hk1
 clear hv hl hf hk hcp hk1
 go_enter Tryz.func131, Tryz.ntmps131
 go_wp2_with fail
 refine (shaped_any (k : Int) _).mono ?_; rintro e w1 ⟨rfl, hq⟩; rw [hs]; unfold shapeVal
 have hlt : w.heap.size < w1.heap.size := by have := hq.size; simp at this; omega
 have hne : ¬ w.heap.size = w1.heap.size := by omega
 have hpl : p < w.heap.size := by obtain ⟨_, _, _, _, _, hb, _⟩ := hw; exact hb.lt
 have st1 : PutSt w p base w.heap.size w1.heap.size #[.int .i64 (k : Int), .int .i64 r.num, .int .i64 r.low, .int .i64 r.high, .float .f64 r.real, .int .i64 (cp : Int), .string (str r.text), .slice A n c] #[.bool false, .bool true, .bool false, .bool false, .bool false] A n r.list (w1.alloc (.cells #[.bool false, .bool true, .bool false, .bool false, .bool false] 181)) bs := by
  have hc1 : Cln w w1 := cln_trans ((Below.refl _ _).alloc (Nat.le_refl _) _) hq
  exact PutSt.mk (hw.cln (cln_trans hc1 ((Below.refl _ _).alloc (Nat.le_refl _) _))) ((Kept.of_below (S := WS w base p) hc1).alloc _) (((Blk.new w _ _).cln hq).alloc _) (Blk.new w1 _ _) (hr.cln (cln_trans hc1 ((Below.refl _ _).alloc (Nat.le_refl _) _))) (by omega) (by omega) hA
 have hq' := Lib.hid hq
 clear hq hw hr hA
 have hc1 := st1.b1.cell
 have hs1 := st1.b2.cell
 go_wp2_with fail
 refine (wu_any p base _ k _ st1.W (by omega) (by have := hlen.out; simp only [List.length_append] at *; omega)).mono ?_; intro e w2 hp
 obtain ⟨rfl, st2⟩ := st1.step hp
 clear hp hc1 hs1
 have hc2 := st2.b1.cell
 have hs2 := st2.b2.cell
 go_wp2_with fail
 refine (wi_any p base _ r.num _ st2.W hf'.out.num (by have := hlen.out; simp only [List.length_append] at *; omega)).mono ?_; intro e w3 hp
 obtain ⟨rfl, st3⟩ := st2.step hp
 clear hp hc2 hs2
 have hc3 := st3.b1.cell
 have hs3 := st3.b2.cell
 go_wp2_with fail
 refine bodyPost_ret (results_none rfl _ _ _) rfl ?_
 refine ⟨rfl, ?_, st3.K⟩
 rw [hrec.out]
 simpa only [List.append_assoc] using st3.W

set_option maxHeartbeats 400000 in
theorem put_purse (p base : Nat) (bs : List UInt8) (r : MRec) (k cp : Nat) (hk : r.kind = (k : Int)) (hcp : r.cap = (cp : Int)) (hf : r.WF) (hk1 : k = 4) (A : Option Addr) (n c : Nat) (hn : n ≤ 1048576) (w : World)
  (hw : IsW w p base bs) (hr : RdItems w A n r.list) (hA : 0 < n → ∀ ad, A = some ad → ad.block < base) (hl : bs.length + (wRec r).length ≤ 1099511627776) :
  Calls Tryz.prog 131 #[.pointer (some ⟨p, 0, none⟩), recVal r A n c] w (WPost w p base (bs ++ wRec r)) := by
 have hs : shapeOf (k : Int) = ⟨false, true, true, false, false⟩ := by unfold shapeOf; simp [hk1]
 have hv : recVal r A n c = .agg #[.int .i64 (k : Int), .int .i64 r.num, .int .i64 r.low, .int .i64 r.high, .float .f64 r.real, .int .i64 (cp : Int), .string (str r.text), .slice A n c] := by unfold recVal; rw [hk, hcp]
 have hrec : Hid (wRec r = wU k ++ (wI r.low ++ (wI r.high ++ wI r.num))) := by unfold Hid wRec; rw [hk]; simp [hk1]
 have hlen := Lib.hid (hrec.out ▸ hl)
 have hf' := Lib.hid hf
 rw [hv]
 have hk9 : k ≤ 9 := by omega
 have hk1' := Lib.hid hk1
 clear hv hl hf hk hcp hk1
 go_enter Tryz.func131, Tryz.ntmps131
 go_wp2_with fail
 refine (shaped_any (k : Int) _).mono ?_; rintro e w1 ⟨rfl, hq⟩; rw [hs]; unfold shapeVal
 have hlt : w.heap.size < w1.heap.size := by have := hq.size; simp at this; omega
 have hne : ¬ w.heap.size = w1.heap.size := by omega
 have hpl : p < w.heap.size := by obtain ⟨_, _, _, _, _, hb, _⟩ := hw; exact hb.lt
 have st1 : PutSt w p base w.heap.size w1.heap.size #[.int .i64 (k : Int), .int .i64 r.num, .int .i64 r.low, .int .i64 r.high, .float .f64 r.real, .int .i64 (cp : Int), .string (str r.text), .slice A n c] #[.bool false, .bool true, .bool true, .bool false, .bool false] A n r.list (w1.alloc (.cells #[.bool false, .bool true, .bool true, .bool false, .bool false] 181)) bs := by
  have hc1 : Cln w w1 := cln_trans ((Below.refl _ _).alloc (Nat.le_refl _) _) hq
  exact PutSt.mk (hw.cln (cln_trans hc1 ((Below.refl _ _).alloc (Nat.le_refl _) _))) ((Kept.of_below (S := WS w base p) hc1).alloc _) (((Blk.new w _ _).cln hq).alloc _) (Blk.new w1 _ _) (hr.cln (cln_trans hc1 ((Below.refl _ _).alloc (Nat.le_refl _) _))) (by omega) (by omega) hA
 have hq' := Lib.hid hq
 clear hq hw hr hA
 have hc1 := st1.b1.cell
 have hs1 := st1.b2.cell
 go_wp2_with fail
 refine (wu_any p base _ k _ st1.W (by omega) (by have := hlen.out; simp only [List.length_append] at *; omega)).mono ?_; intro e w2 hp
 obtain ⟨rfl, st2⟩ := st1.step hp
 clear hp hc1 hs1
 have hc2 := st2.b1.cell
 have hs2 := st2.b2.cell
 go_wp2_with fail
 refine (wi_any p base _ r.low _ st2.W hf'.out.low (by have := hlen.out; simp only [List.length_append] at *; omega)).mono ?_; intro e w3 hp
 obtain ⟨rfl, st3⟩ := st2.step hp
 clear hp hc2 hs2
 have hc3 := st3.b1.cell
 have hs3 := st3.b2.cell
 go_wp2_with fail
 refine (wi_any p base _ r.high _ st3.W hf'.out.high (by have := hlen.out; simp only [List.length_append] at *; omega)).mono ?_; intro e w4 hp
 obtain ⟨rfl, st4⟩ := st3.step hp
 clear hp hc3 hs3
 have hc4 := st4.b1.cell
 have hs4 := st4.b2.cell
 go_wp2_with fail
 refine (wi_any p base _ r.num _ st4.W hf'.out.num (by have := hlen.out; simp only [List.length_append] at *; omega)).mono ?_; intro e w5 hp
 obtain ⟨rfl, st5⟩ := st4.step hp
 clear hp hc4 hs4
 have hc5 := st5.b1.cell
 have hs5 := st5.b2.cell
 go_wp2_with fail
 refine bodyPost_ret (results_none rfl _ _ _) rfl ?_
 refine ⟨rfl, ?_, st5.K⟩
 rw [hrec.out]
 simpa only [List.append_assoc] using st5.W

set_option maxHeartbeats 400000 in
theorem put_real (p base : Nat) (bs : List UInt8) (r : MRec) (k cp : Nat) (hk : r.kind = (k : Int)) (hcp : r.cap = (cp : Int)) (hf : r.WF) (hk1 : k = 5 ∨ k = 6 ∨ k = 7) (A : Option Addr) (n c : Nat) (hn : n ≤ 1048576) (w : World)
  (hw : IsW w p base bs) (hr : RdItems w A n r.list) (hA : 0 < n → ∀ ad, A = some ad → ad.block < base) (hl : bs.length + (wRec r).length ≤ 1099511627776) :
  Calls Tryz.prog 131 #[.pointer (some ⟨p, 0, none⟩), recVal r A n c] w (WPost w p base (bs ++ wRec r)) := by
 have hs : shapeOf (k : Int) = ⟨false, false, false, true, false⟩ := by unfold shapeOf; rcases hk1 with rfl | rfl | rfl <;> rfl
 have hv : recVal r A n c = .agg #[.int .i64 (k : Int), .int .i64 r.num, .int .i64 r.low, .int .i64 r.high, .float .f64 r.real, .int .i64 (cp : Int), .string (str r.text), .slice A n c] := by unfold recVal; rw [hk, hcp]
 have hrec : Hid (wRec r = wU k ++ wF r.real) := by unfold Hid wRec; rw [hk]; rcases hk1 with rfl | rfl | rfl <;> simp
 have hlen := Lib.hid (hrec.out ▸ hl)
 have hf' := Lib.hid hf
 rw [hv]
 have hk9 : k ≤ 9 := by omega
 have hk1' := Lib.hid hk1
 clear hv hl hf hk hcp hk1
 go_enter Tryz.func131, Tryz.ntmps131
 go_wp2_with fail
 refine (shaped_any (k : Int) _).mono ?_; rintro e w1 ⟨rfl, hq⟩; rw [hs]; unfold shapeVal
 have hlt : w.heap.size < w1.heap.size := by have := hq.size; simp at this; omega
 have hne : ¬ w.heap.size = w1.heap.size := by omega
 have hpl : p < w.heap.size := by obtain ⟨_, _, _, _, _, hb, _⟩ := hw; exact hb.lt
 have st1 : PutSt w p base w.heap.size w1.heap.size #[.int .i64 (k : Int), .int .i64 r.num, .int .i64 r.low, .int .i64 r.high, .float .f64 r.real, .int .i64 (cp : Int), .string (str r.text), .slice A n c] #[.bool false, .bool false, .bool false, .bool true, .bool false] A n r.list (w1.alloc (.cells #[.bool false, .bool false, .bool false, .bool true, .bool false] 181)) bs := by
  have hc1 : Cln w w1 := cln_trans ((Below.refl _ _).alloc (Nat.le_refl _) _) hq
  exact PutSt.mk (hw.cln (cln_trans hc1 ((Below.refl _ _).alloc (Nat.le_refl _) _))) ((Kept.of_below (S := WS w base p) hc1).alloc _) (((Blk.new w _ _).cln hq).alloc _) (Blk.new w1 _ _) (hr.cln (cln_trans hc1 ((Below.refl _ _).alloc (Nat.le_refl _) _))) (by omega) (by omega) hA
 have hq' := Lib.hid hq
 clear hq hw hr hA
 have hc1 := st1.b1.cell
 have hs1 := st1.b2.cell
 go_wp2_with fail
 refine (wu_any p base _ k _ st1.W (by omega) (by have := hlen.out; simp only [List.length_append] at *; omega)).mono ?_; intro e w2 hp
 obtain ⟨rfl, st2⟩ := st1.step hp
 clear hp hc1 hs1
 have hc2 := st2.b1.cell
 have hs2 := st2.b2.cell
 go_wp2_with fail
 refine (wf_any p base _ r.real hf'.out.real _ st2.W (by have := hlen.out; rw [List.length_append, wF_length] at this; simp only [List.length_append] at *; omega)).mono ?_; intro e w3 hp
 obtain ⟨rfl, st3⟩ := st2.step hp
 clear hp hc2 hs2
 have hc3 := st3.b1.cell
 have hs3 := st3.b2.cell
 go_wp2_with fail
 refine bodyPost_ret (results_none rfl _ _ _) rfl ?_
 refine ⟨rfl, ?_, st3.K⟩
 rw [hrec.out]
 simpa only [List.append_assoc] using st3.W

set_option maxHeartbeats 400000 in
theorem put_set (p base : Nat) (bs : List UInt8) (r : MRec) (k cp : Nat) (hk : r.kind = (k : Int)) (hcp : r.cap = (cp : Int)) (hf : r.WF) (hk1 : k = 8) (hcp2 : cp ≤ 32) (A : Option Addr) (n c : Nat) (hn : n ≤ 1048576) (w : World)
  (hw : IsW w p base bs) (hr : RdItems w A n r.list) (hA : 0 < n → ∀ ad, A = some ad → ad.block < base) (hl : bs.length + (wRec r).length ≤ 1099511627776) :
  Calls Tryz.prog 131 #[.pointer (some ⟨p, 0, none⟩), recVal r A n c] w (WPost w p base (bs ++ wRec r)) := by
 have hs : shapeOf (k : Int) = ⟨false, false, false, false, true⟩ := by unfold shapeOf; simp [hk1]
 have hv : recVal r A n c = .agg #[.int .i64 (k : Int), .int .i64 r.num, .int .i64 r.low, .int .i64 r.high, .float .f64 r.real, .int .i64 (cp : Int), .string (str r.text), .slice A n c] := by unfold recVal; rw [hk, hcp]
 have hrec : Hid (wRec r = wU k ++ (wU cp ++ (wU n ++ wItems false r.list))) := by unfold Hid wRec; rw [hk]; rw [hcp, hr.len]; simp [hk1]
 have hlen := Lib.hid (hrec.out ▸ hl)
 have hf' := Lib.hid hf
 rw [hv]
 have hk9 : k ≤ 9 := by omega
 have hk1' := Lib.hid hk1
 clear hv hl hf hk hcp hk1
 go_enter Tryz.func131, Tryz.ntmps131
 go_wp2_with fail
 refine (shaped_any (k : Int) _).mono ?_; rintro e w1 ⟨rfl, hq⟩; rw [hs]; unfold shapeVal
 have hlt : w.heap.size < w1.heap.size := by have := hq.size; simp at this; omega
 have hne : ¬ w.heap.size = w1.heap.size := by omega
 have hpl : p < w.heap.size := by obtain ⟨_, _, _, _, _, hb, _⟩ := hw; exact hb.lt
 have st1 : PutSt w p base w.heap.size w1.heap.size #[.int .i64 (k : Int), .int .i64 r.num, .int .i64 r.low, .int .i64 r.high, .float .f64 r.real, .int .i64 (cp : Int), .string (str r.text), .slice A n c] #[.bool false, .bool false, .bool false, .bool false, .bool true] A n r.list (w1.alloc (.cells #[.bool false, .bool false, .bool false, .bool false, .bool true] 181)) bs := by
  have hc1 : Cln w w1 := cln_trans ((Below.refl _ _).alloc (Nat.le_refl _) _) hq
  exact PutSt.mk (hw.cln (cln_trans hc1 ((Below.refl _ _).alloc (Nat.le_refl _) _))) ((Kept.of_below (S := WS w base p) hc1).alloc _) (((Blk.new w _ _).cln hq).alloc _) (Blk.new w1 _ _) (hr.cln (cln_trans hc1 ((Below.refl _ _).alloc (Nat.le_refl _) _))) (by omega) (by omega) hA
 have hq' := Lib.hid hq
 clear hq hw hr hA
 have hc1 := st1.b1.cell
 have hs1 := st1.b2.cell
 go_wp2_with fail
 refine (wu_any p base _ k _ st1.W (by omega) (by have := hlen.out; simp only [List.length_append] at *; omega)).mono ?_; intro e w2 hp
 obtain ⟨rfl, st2⟩ := st1.step hp
 clear hp hc1 hs1
 have hc2 := st2.b1.cell
 have hs2 := st2.b2.cell
 go_wp2_with fail
 refine (wu_any p base _ cp _ st2.W (by omega) (by have := hlen.out; simp only [List.length_append] at *; omega)).mono ?_; intro e w3 hp
 obtain ⟨rfl, st3⟩ := st2.step hp
 clear hp hc2 hs2
 have hc3 := st3.b1.cell
 have hs3 := st3.b2.cell
 go_wp2_with fail
 refine (wu_any p base _ n _ st3.W (by omega) (by have := hlen.out; simp only [List.length_append] at *; omega)).mono ?_; intro e w4 hp
 obtain ⟨rfl, st4⟩ := st3.step hp
 clear hp hc3 hs3
 have hrec' : Hid (bs ++ wRec r = bs ++ wU k ++ wU cp ++ wU n ++ wItems false r.list) := by unfold Hid; rw [hrec.out]; simp only [List.append_assoc]
 have hlen' : Hid ((bs ++ wRec r).length ≤ 1099511627776) := by unfold Hid; rw [hrec.out]; have := hlen.out; simp only [List.length_append] at *; omega
 clear hrec hlen
 have hc4 := st4.b1.cell
 have hs4 := st4.b2.cell
 go_wp2_with fail
 clear hc4 hs4
 go_loopw [60] (fun v wr => ∃ (i : Nat) (cs : List UInt8), i ≤ n ∧ v = .int .i64 (i : Nat) ∧ PutSt w p base w.heap.size w1.heap.size #[.int .i64 (k : Int), .int .i64 r.num, .int .i64 r.low, .int .i64 r.high, .float .f64 r.real, .int .i64 (cp : Int), .string (str r.text), .slice A n c] #[.bool false, .bool false, .bool false, .bool false, .bool true] A n r.list wr cs ∧ Hid (bs ++ wRec r = cs ++ wItems false (r.list.drop i))) (fun v _ => (n - intOf v).toNat)
 case atStart => exact ⟨0, _, Nat.zero_le _, rfl, st4, hrec'⟩
 case round =>
  obtain ⟨i, cs, hi, rfl, st, hH⟩ := hrel
  clear st4 st1 st2 st3 hrec'
  by_cases hlt2 : i < n
  ·have hx := st.it.wf i
   obtain ⟨b, o, rfl, hblt, hcell⟩ := st.it.cells (by omega)
   obtain ⟨hc0, hc1⟩ := hcell i hlt2
   have hstep := Lib.hid (hH.out.trans (congrArg (cs ++ ·) (wItems_drop false r.list i (by rw [st.it.len]; exact hlt2))))
   clear hcell hH
   have hne5 : ¬ b = wr.heap.size := by omega
   generalize itAt r.list i = x at hc0 hc1 hstep hx
   have hd := st.b1.cell
   have hdl := st.b1.lt
   have hdn : ¬ w.heap.size = wr.heap.size := by omega
   have hxlen : Hid (cs.length + (wS x.name).length ≤ 1099511627776) := by
    unfold Hid; have := hlen'.out; rw [hstep.out] at this; simp only [List.length_append, if_true, if_false, Bool.false_eq_true, List.length_nil] at *; omega
   have st' := st.alloc (.cells #[.float .f64 x.score, .string (str x.name)] 158)
   have hbx := Blk.new wr 158 #[.float .f64 x.score, .string (str x.name)]
   have hpx : wr.heap.size ≠ p := by obtain ⟨_, _, _, _, _, hb2, _⟩ := st.W; have := hb2.lt; omega
   have t9 : ((k : Int) == 9) = false := by rw [hk1'.out]; rfl
   go_wp2_with fail
   refine (ws_list p base cs x.name _ st'.W (by have := hxlen.out; omega)).mono ?_; intro e w6 hp
   obtain ⟨rfl, st6⟩ := st'.step hp
   clear hp
   go_wp2_with fail
   go_roundw
   case rel => exact ⟨i + 1, _, hlt2, by go_num, st6, by unfold Hid; rw [hstep.out]; simp only [Bool.false_eq_true, if_false, List.nil_append, List.append_assoc]⟩
   case measure => simp [intOf]; omega
  ·obtain rfl : i = n := by omega
   have t2 : decide ((i : Int) < (i : Int)) = false := decide_eq_false (by omega)
   have hnil : r.list.drop i = [] := List.drop_of_length_le (by rw [st.it.len]; exact Nat.le_refl _)
   have hfin : Hid (bs ++ wRec r = cs) := by unfold Hid; rw [hH.out, hnil]; simp [wItems]
   clear hnil hH
   go_wp2_with fail
   go_end0
   exact ⟨rfl, by rw [hfin.out]; exact st.W, st.K⟩

set_option maxHeartbeats 400000 in
theorem put_top (p base : Nat) (bs : List UInt8) (r : MRec) (k cp : Nat) (hk : r.kind = (k : Int)) (hcp : r.cap = (cp : Int)) (hf : r.WF) (hk1 : k = 9) (hcp2 : cp ≤ 32) (A : Option Addr) (n c : Nat) (hn : n ≤ 1048576) (w : World)
  (hw : IsW w p base bs) (hr : RdItems w A n r.list) (hA : 0 < n → ∀ ad, A = some ad → ad.block < base) (hl : bs.length + (wRec r).length ≤ 1099511627776) :
  Calls Tryz.prog 131 #[.pointer (some ⟨p, 0, none⟩), recVal r A n c] w (WPost w p base (bs ++ wRec r)) := by
 have hs : shapeOf (k : Int) = ⟨false, false, false, false, true⟩ := by unfold shapeOf; simp [hk1]
 have hv : recVal r A n c = .agg #[.int .i64 (k : Int), .int .i64 r.num, .int .i64 r.low, .int .i64 r.high, .float .f64 r.real, .int .i64 (cp : Int), .string (str r.text), .slice A n c] := by unfold recVal; rw [hk, hcp]
 have hrec : Hid (wRec r = wU k ++ (wU cp ++ (wU n ++ wItems true r.list))) := by unfold Hid wRec; rw [hk]; rw [hcp, hr.len]; simp [hk1]
 have hlen := Lib.hid (hrec.out ▸ hl)
 have hf' := Lib.hid hf
 rw [hv]
 have hk9 : k ≤ 9 := by omega
 have hk1' := Lib.hid hk1
 clear hv hl hf hk hcp hk1
 go_enter Tryz.func131, Tryz.ntmps131
 go_wp2_with fail
 refine (shaped_any (k : Int) _).mono ?_; rintro e w1 ⟨rfl, hq⟩; rw [hs]; unfold shapeVal
 have hlt : w.heap.size < w1.heap.size := by have := hq.size; simp at this; omega
 have hne : ¬ w.heap.size = w1.heap.size := by omega
 have hpl : p < w.heap.size := by obtain ⟨_, _, _, _, _, hb, _⟩ := hw; exact hb.lt
 have st1 : PutSt w p base w.heap.size w1.heap.size #[.int .i64 (k : Int), .int .i64 r.num, .int .i64 r.low, .int .i64 r.high, .float .f64 r.real, .int .i64 (cp : Int), .string (str r.text), .slice A n c] #[.bool false, .bool false, .bool false, .bool false, .bool true] A n r.list (w1.alloc (.cells #[.bool false, .bool false, .bool false, .bool false, .bool true] 181)) bs := by
  have hc1 : Cln w w1 := cln_trans ((Below.refl _ _).alloc (Nat.le_refl _) _) hq
  exact PutSt.mk (hw.cln (cln_trans hc1 ((Below.refl _ _).alloc (Nat.le_refl _) _))) ((Kept.of_below (S := WS w base p) hc1).alloc _) (((Blk.new w _ _).cln hq).alloc _) (Blk.new w1 _ _) (hr.cln (cln_trans hc1 ((Below.refl _ _).alloc (Nat.le_refl _) _))) (by omega) (by omega) hA
 have hq' := Lib.hid hq
 clear hq hw hr hA
 have hc1 := st1.b1.cell
 have hs1 := st1.b2.cell
 go_wp2_with fail
 refine (wu_any p base _ k _ st1.W (by omega) (by have := hlen.out; simp only [List.length_append] at *; omega)).mono ?_; intro e w2 hp
 obtain ⟨rfl, st2⟩ := st1.step hp
 clear hp hc1 hs1
 have hc2 := st2.b1.cell
 have hs2 := st2.b2.cell
 go_wp2_with fail
 refine (wu_any p base _ cp _ st2.W (by omega) (by have := hlen.out; simp only [List.length_append] at *; omega)).mono ?_; intro e w3 hp
 obtain ⟨rfl, st3⟩ := st2.step hp
 clear hp hc2 hs2
 have hc3 := st3.b1.cell
 have hs3 := st3.b2.cell
 go_wp2_with fail
 refine (wu_any p base _ n _ st3.W (by omega) (by have := hlen.out; simp only [List.length_append] at *; omega)).mono ?_; intro e w4 hp
 obtain ⟨rfl, st4⟩ := st3.step hp
 clear hp hc3 hs3
 have hrec' : Hid (bs ++ wRec r = bs ++ wU k ++ wU cp ++ wU n ++ wItems true r.list) := by unfold Hid; rw [hrec.out]; simp only [List.append_assoc]
 have hlen' : Hid ((bs ++ wRec r).length ≤ 1099511627776) := by unfold Hid; rw [hrec.out]; have := hlen.out; simp only [List.length_append] at *; omega
 clear hrec hlen
 have hc4 := st4.b1.cell
 have hs4 := st4.b2.cell
 go_wp2_with fail
 clear hc4 hs4
 go_loopw [60] (fun v wr => ∃ (i : Nat) (cs : List UInt8), i ≤ n ∧ v = .int .i64 (i : Nat) ∧ PutSt w p base w.heap.size w1.heap.size #[.int .i64 (k : Int), .int .i64 r.num, .int .i64 r.low, .int .i64 r.high, .float .f64 r.real, .int .i64 (cp : Int), .string (str r.text), .slice A n c] #[.bool false, .bool false, .bool false, .bool false, .bool true] A n r.list wr cs ∧ Hid (bs ++ wRec r = cs ++ wItems true (r.list.drop i))) (fun v _ => (n - intOf v).toNat)
 case atStart => exact ⟨0, _, Nat.zero_le _, rfl, st4, hrec'⟩
 case round =>
  obtain ⟨i, cs, hi, rfl, st, hH⟩ := hrel
  clear st4 st1 st2 st3 hrec'
  by_cases hlt2 : i < n
  ·have hx := st.it.wf i
   obtain ⟨b, o, rfl, hblt, hcell⟩ := st.it.cells (by omega)
   obtain ⟨hc0, hc1⟩ := hcell i hlt2
   have hstep := Lib.hid (hH.out.trans (congrArg (cs ++ ·) (wItems_drop true r.list i (by rw [st.it.len]; exact hlt2))))
   clear hcell hH
   have hne5 : ¬ b = wr.heap.size := by omega
   generalize itAt r.list i = x at hc0 hc1 hstep hx
   have hd := st.b1.cell
   have hdl := st.b1.lt
   have hdn : ¬ w.heap.size = wr.heap.size := by omega
   have hxlen : Hid (cs.length + (wF x.score).length + (wS x.name).length ≤ 1099511627776) := by
    unfold Hid; have := hlen'.out; rw [hstep.out] at this; simp only [List.length_append, if_true, if_false, Bool.false_eq_true, List.length_nil] at *; omega
   have st' := st.alloc (.cells #[.float .f64 x.score, .string (str x.name)] 158)
   have hbx := Blk.new wr 158 #[.float .f64 x.score, .string (str x.name)]
   have hpx : wr.heap.size ≠ p := by obtain ⟨_, _, _, _, _, hb2, _⟩ := st.W; have := hb2.lt; omega
   have t9 : ((k : Int) == 9) = true := by rw [hk1'.out]; rfl
   go_wp2_with fail
   refine (wf_any p base cs x.score hx _ st'.W (by have := hxlen.out; rw [wF_length] at this; omega)).mono ?_; intro e w5 hp
   have hbx2 := hbx.kept hp.2.2 (WS.not hbx hpx (by decide))
   obtain ⟨rfl, st5⟩ := st'.step hp
   have hbc := hbx2.cell
   clear hp
   go_wp2_with fail
   refine (ws_list p base _ x.name _ st5.W (by have := hxlen.out; simp only [List.length_append]; omega)).mono ?_; intro e w6 hp
   obtain ⟨rfl, st6⟩ := st5.step hp
   clear hp
   go_wp2_with fail
   go_roundw
   case rel => exact ⟨i + 1, _, hlt2, by go_num, st6, by unfold Hid; rw [hstep.out]; simp only [if_true, List.append_assoc]⟩
   case measure => simp [intOf]; omega
  ·obtain rfl : i = n := by omega
   have t2 : decide ((i : Int) < (i : Int)) = false := decide_eq_false (by omega)
   have hnil : r.list.drop i = [] := List.drop_of_length_le (by rw [st.it.len]; exact Nat.le_refl _)
   have hfin : Hid (bs ++ wRec r = cs) := by unfold Hid; rw [hH.out, hnil]; simp [wItems]
   clear hnil hH
   go_wp2_with fail
   go_end0
   exact ⟨rfl, by rw [hfin.out]; exact st.W, st.K⟩

theorem put_any (p base : Nat) (bs : List UInt8) (r : MRec) (hchk : checkRec r = 0) (hf : r.WF) (A : Option Addr) (n c : Nat) (hn : n ≤ 1048576) (w : World)
  (hw : IsW w p base bs) (hr : RdItems w A n r.list) (hA : 0 < n → ∀ ad, A = some ad → ad.block < base) (hl : bs.length + (wRec r).length ≤ 1099511627776) :
  Calls Tryz.prog 131 #[.pointer (some ⟨p, 0, none⟩), recVal r A n c] w (WPost w p base (bs ++ wRec r)) := by
 obtain ⟨h1, h2, h3, h4⟩ := check_ok hchk
 obtain ⟨k, hk⟩ : ∃ k : Nat, r.kind = (k : Int) := ⟨r.kind.toNat, by omega⟩
 obtain ⟨cp, hcp⟩ : ∃ cp : Nat, r.cap = (cp : Int) := ⟨r.cap.toNat, by omega⟩
 have hcases : k = 1 ∨ (k = 2 ∨ k = 3) ∨ k = 4 ∨ (k = 5 ∨ k = 6 ∨ k = 7) ∨ k = 8 ∨ k = 9 := by omega
 rcases hcases with h | h | h | h | h | h
 ·exact put_text p base bs r k cp hk hcp hf h A n c hn w hw hr hA hl
 ·exact put_num p base bs r k cp hk hcp hf h A n c hn w hw hr hA hl
 ·exact put_purse p base bs r k cp hk hcp hf h A n c hn w hw hr hA hl
 ·exact put_real p base bs r k cp hk hcp hf h A n c hn w hw hr hA hl
 ·exact put_set p base bs r k cp hk hcp hf h (by omega) A n c hn w hw hr hA hl
 ·exact put_top p base bs r k cp hk hcp hf h (by omega) A n c hn w hw hr hA hl
end Go.Proofs.YtbemnfbndjolpaaGreatDoor
