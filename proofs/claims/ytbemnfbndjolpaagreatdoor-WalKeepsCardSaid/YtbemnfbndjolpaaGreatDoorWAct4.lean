/- The walk of act.Write, class by class. (Printed by wip/tools/gen_act4.py.) -/
import Derived.Test.YtbemnfbndjolpaaGreatDoorActA
import Derived.Test.YtbemnfbndjolpaaGreatDoorWrs
import Derived.Test.YtbemnfbndjolpaaGreatDoorWPut
set_option linter.unusedSimpArgs false
set_option linter.unusedVariables false
set_option maxRecDepth 20000
namespace Go.Proofs.YtbemnfbndjolpaaGreatDoor
open Go.RowKit Moi
attribute [local go_sem] toList_str str_size less_ltB store_float
theorem act_class (k : Nat) (hk : 1 ≤ k ∧ k ≤ 21) : (hasF (k : Int) 110 = false ∧ hasF (k : Int) 120 = false ∧ hasF (k : Int) 115 = false ∧ hasF (k : Int) 109 = false ∧ k ≠ 1) ∨ (hasF (k : Int) 110 = false ∧ hasF (k : Int) 120 = false ∧ hasF (k : Int) 115 = false ∧ hasF (k : Int) 109 = true ∧ k = 1) ∨ (hasF (k : Int) 110 = false ∧ hasF (k : Int) 120 = false ∧ hasF (k : Int) 115 = true ∧ hasF (k : Int) 109 = false ∧ k ≠ 1) ∨ (hasF (k : Int) 110 = true ∧ hasF (k : Int) 120 = false ∧ hasF (k : Int) 115 = false ∧ hasF (k : Int) 109 = false ∧ k ≠ 1) ∨ (hasF (k : Int) 110 = false ∧ hasF (k : Int) 120 = true ∧ hasF (k : Int) 115 = false ∧ hasF (k : Int) 109 = false ∧ k ≠ 1) ∨ (hasF (k : Int) 110 = false ∧ hasF (k : Int) 120 = true ∧ hasF (k : Int) 115 = true ∧ hasF (k : Int) 109 = false ∧ k ≠ 1) := by
 have h : k = 1 ∨ k = 2 ∨ k = 3 ∨ k = 4 ∨ k = 5 ∨ k = 6 ∨ k = 7 ∨ k = 8 ∨ k = 9 ∨ k = 10 ∨ k = 11 ∨ k = 12 ∨ k = 13 ∨ k = 14 ∨ k = 15 ∨ k = 16 ∨ k = 17 ∨ k = 18 ∨ k = 19 ∨ k = 20 ∨ k = 21 := by omega
 rcases h with rfl | rfl | rfl | rfl | rfl | rfl | rfl | rfl | rfl | rfl | rfl | rfl | rfl | rfl | rfl | rfl | rfl | rfl | rfl | rfl | rfl <;> decide
structure ActSt (w0 : World) (p base g1 g2 : Nat) (cs1 cs2 : Array Value) (A : Option Addr) (n : Nat) (l : List MItem) (wk : World) (bs : List UInt8) : Prop where
 W : IsW wk p base bs
 K : Kept (WS w0 base p) w0 wk
 b1 : Blk wk g1 64 cs1
 b2 : Blk wk g2 161 cs2
 it : RdItems wk A n l
 ne1 : g1 ≠ p
 ne2 : g2 ≠ p
 lo : 0 < n → ∀ ad, A = some ad → ad.block < base
section
variable {w0 : World} {p base g1 g2 : Nat} {cs1 cs2 : Array Value} {A : Option Addr} {n : Nat} {l : List MItem} {wk w' : World} {bs bs' : List UInt8} {e : Ending}
theorem ActSt.step (h : ActSt w0 p base g1 g2 cs1 cs2 A n l wk bs) (hq : WPost wk p base bs' e w') : e = .returned (.tuple #[]) ∧ ActSt w0 p base g1 g2 cs1 cs2 A n l w' bs' := by
 obtain ⟨he, hW, hK⟩ := hq
 exact ⟨he, hW, WS.trans h.K hK, h.b1.kept hK (WS.not h.b1 h.ne1 (by decide)), h.b2.kept hK (WS.not h.b2 h.ne2 (by decide)),
  h.it.kept0 hK (fun h0 ad e _ => WS.not_lt (h.lo h0 ad e) hW.lo), h.ne1, h.ne2, h.lo⟩
theorem ActSt.cln (h : ActSt w0 p base g1 g2 cs1 cs2 A n l wk bs) (hq : Cln wk w') : ActSt w0 p base g1 g2 cs1 cs2 A n l w' bs :=
 ⟨h.W.cln hq, WS.trans h.K (Kept.of_below hq), h.b1.cln hq, h.b2.cln hq, h.it.cln hq, h.ne1, h.ne2, h.lo⟩
end

set_option maxHeartbeats 4000000 in
theorem awrite_none (p base : Nat) (bs : List UInt8) (a : MAct) (k : Nat) (hk : a.kind = (k : Int)) (hk1 : 1 ≤ k ∧ k ≤ 21) (hN : hasF (k : Int) 110 = false) (hX : hasF (k : Int) 120 = false) (hS : hasF (k : Int) 115 = false) (hM : hasF (k : Int) 109 = false)
  (hf : a.WF) (hmk : True) (A : Option Addr) (n c : Nat) (hn : n ≤ 1048576) (w : World) (hK : KindsAt w)
  (hw : IsW w p base bs) (hr : RdItems w A n a.make.list) (hA : 0 < n → ∀ ad, A = some ad → ad.block < base) (hl : bs.length + (wAct a).length ≤ 1099511627776) :
  Calls Tryz.prog 114 #[.pointer (some ⟨p, 0, none⟩), actVal a A n c] w (WPost w p base (bs ++ wAct a)) := by
 have hv : actVal a A n c = .agg #[.int .i64 (k : Int), .string (str a.key), .int .i64 a.n, .float .f64 a.x, .string (str a.s), .int .i64 a.make.kind, .int .i64 a.make.num, .int .i64 a.make.low, .int .i64 a.make.high, .float .f64 a.make.real, .int .i64 a.make.cap, .string (str a.make.text), .slice A n c, .bool a.must] := by unfold actVal; rw [hk]
 have hrec : Hid (wAct a = wU k ++ (wFlag a.must ++ (wS a.key))) := by unfold Hid wAct; rw [hk, hN, hX, hS, hM]; simp
 have hlen := Lib.hid (hrec.out ▸ hl)
 have hf' := Lib.hid hf
 rw [hv]
 have f110 : ∀ W, Calls Tryz.prog 100 #[.agg #[.string (str (wordOf (k : Int))), .int .i64 (onOf (k : Int) : Nat), .string (str (kindFs (k : Int)))], .int .u8 110] W fun e w' => e = .returned (.bool false) ∧ Cln W w' := fun W => hN ▸ field_any k 110 W
 have f120 : ∀ W, Calls Tryz.prog 100 #[.agg #[.string (str (wordOf (k : Int))), .int .i64 (onOf (k : Int) : Nat), .string (str (kindFs (k : Int)))], .int .u8 120] W fun e w' => e = .returned (.bool false) ∧ Cln W w' := fun W => hX ▸ field_any k 120 W
 have f115 : ∀ W, Calls Tryz.prog 100 #[.agg #[.string (str (wordOf (k : Int))), .int .i64 (onOf (k : Int) : Nat), .string (str (kindFs (k : Int)))], .int .u8 115] W fun e w' => e = .returned (.bool false) ∧ Cln W w' := fun W => hS ▸ field_any k 115 W
 have f109 : ∀ W, Calls Tryz.prog 100 #[.agg #[.string (str (wordOf (k : Int))), .int .i64 (onOf (k : Int) : Nat), .string (str (kindFs (k : Int)))], .int .u8 109] W fun e w' => e = .returned (.bool false) ∧ Cln W w' := fun W => hM ▸ field_any k 109 W
 have f0 : ∀ W, KindsAt W → Calls Tryz.prog 97 #[.int .i64 (k : Int)] W fun e w' => e = .returned (.agg #[.string (str (wordOf (k : Int))), .int .i64 (onOf (k : Int) : Nat), .string (str (kindFs (k : Int)))]) ∧ Cln W w' := fun W h => of_any (k : Int) W h
 clear hv hl hf hk hN hX hS hM
 generalize wordOf (k : Int) = wd at f0 f110 f120 f115 f109
 generalize onOf (k : Int) = on at f0 f110 f120 f115 f109
 generalize kindFs (k : Int) = fl at f0 f110 f120 f115 f109
 go_enter Tryz.func114, Tryz.ntmps114
 go_wp2_with fail
 have hcl0 : Cln w (w.alloc (.cells #[.int .i64 (k : Int), .string (str a.key), .int .i64 a.n, .float .f64 a.x, .string (str a.s), .int .i64 a.make.kind, .int .i64 a.make.num, .int .i64 a.make.low, .int .i64 a.make.high, .float .f64 a.make.real, .int .i64 a.make.cap, .string (str a.make.text), .slice A n c, .bool a.must] 64)) := by (repeat with_reducible first | exact cR _ | assumption | refine cA ?_ _ | refine cD ?_ | refine cN ?_ _ | refine cS ?_ (by first | omega | (simp <;> omega)) _)
 refine (f0 _ (hK.cln hcl0)).mono ?_; rintro e w1 ⟨rfl, hq⟩
 have hlt : w.heap.size < w1.heap.size := by have := hq.size; simp at this; omega
 have hne : ¬ w.heap.size = w1.heap.size := by omega
 have hpl : p < w.heap.size := by obtain ⟨_, _, _, _, _, hb, _⟩ := hw; exact hb.lt
 have st0 : ActSt w p base w.heap.size w1.heap.size #[.int .i64 (k : Int), .string (str a.key), .int .i64 a.n, .float .f64 a.x, .string (str a.s), .int .i64 a.make.kind, .int .i64 a.make.num, .int .i64 a.make.low, .int .i64 a.make.high, .float .f64 a.make.real, .int .i64 a.make.cap, .string (str a.make.text), .slice A n c, .bool a.must] #[.string (str wd), .int .i64 (on : Nat), .string (str fl)] A n a.make.list (w1.alloc (.cells #[.string (str wd), .int .i64 (on : Nat), .string (str fl)] 161)) bs := by
  have hc1 : Cln w w1 := cln_trans hcl0 hq
  exact ActSt.mk (hw.cln (cln_trans hc1 ((Below.refl _ _).alloc (Nat.le_refl _) _))) ((Kept.of_below (S := WS w base p) hc1).alloc _) (((Blk.new w _ _).cln hq).alloc _) (Blk.new w1 _ _) (hr.cln (cln_trans hc1 ((Below.refl _ _).alloc (Nat.le_refl _) _))) (by omega) (by omega) hA
 clear hq hw hr hA hcl0 hK f0
 have hc0 := st0.b1.cell; have hs0 := st0.b2.cell; have hl0 := st0.b1.lt; have hm0 := st0.b2.lt
 go_wp2_with fail
 refine (wu_any p base _ k _ st0.W (by omega) (by have := hlen.out; simp only [List.length_append, wF_length, wFlag, List.length_singleton] at this ⊢; omega)).mono ?_; intro e v1 hp
 obtain ⟨rfl, st1⟩ := st0.step hp
 clear hp hc0 hs0 hl0 hm0 st0
 have hc1 := st1.b1.cell; have hs1 := st1.b2.cell; have hl1 := st1.b1.lt; have hm1 := st1.b2.lt
 go_wp2_with fail
 refine (wflag_any a.must p base _ _ st1.W (by have := hlen.out; simp only [List.length_append, wF_length, wFlag, List.length_singleton] at this ⊢; omega)).mono ?_; intro e v2 hp
 obtain ⟨rfl, st2⟩ := st1.step hp
 clear hp hc1 hs1 hl1 hm1 st1
 have hc2 := st2.b1.cell; have hs2 := st2.b2.cell; have hl2 := st2.b1.lt; have hm2 := st2.b2.lt
 go_wp2_with fail
 refine (ws_list p base _ a.key _ st2.W (by have := hlen.out; simp only [List.length_append, wF_length, wFlag, List.length_singleton] at this ⊢; omega)).mono ?_; intro e v3 hp
 obtain ⟨rfl, st3⟩ := st2.step hp
 clear hp hc2 hs2 hl2 hm2 st2
 have hc3 := st3.b1.cell; have hs3 := st3.b2.cell; have hl3 := st3.b1.lt; have hm3 := st3.b2.lt
 go_wp2_with fail
 refine (f110 _).mono ?_; rintro e v4 ⟨rfl, hq⟩
 have st4 := st3.cln hq
 clear hq hc3 hs3 hl3 hm3 st3
 have hc4 := st4.b1.cell; have hs4 := st4.b2.cell; have hl4 := st4.b1.lt; have hm4 := st4.b2.lt
 go_wp2_with fail
 refine (f120 _).mono ?_; rintro e v5 ⟨rfl, hq⟩
 have st5 := st4.cln hq
 clear hq hc4 hs4 hl4 hm4 st4
 have hc5 := st5.b1.cell; have hs5 := st5.b2.cell; have hl5 := st5.b1.lt; have hm5 := st5.b2.lt
 go_wp2_with fail
 refine (f115 _).mono ?_; rintro e v6 ⟨rfl, hq⟩
 have st6 := st5.cln hq
 clear hq hc5 hs5 hl5 hm5 st5
 have hc6 := st6.b1.cell; have hs6 := st6.b2.cell; have hl6 := st6.b1.lt; have hm6 := st6.b2.lt
 go_wp2_with fail
 refine (f109 _).mono ?_; rintro e v7 ⟨rfl, hq⟩
 have st7 := st6.cln hq
 clear hq hc6 hs6 hl6 hm6 st6
 have hc7 := st7.b1.cell; have hs7 := st7.b2.cell; have hl7 := st7.b1.lt; have hm7 := st7.b2.lt
 go_wp2_with fail
 refine bodyPost_ret (results_none rfl _ _ _) rfl ?_
 refine ⟨rfl, ?_, st7.K⟩
 rw [hrec.out]
 simpa only [List.append_assoc] using st7.W

set_option maxHeartbeats 4000000 in
theorem awrite_make (p base : Nat) (bs : List UInt8) (a : MAct) (k : Nat) (hk : a.kind = (k : Int)) (hk1 : 1 ≤ k ∧ k ≤ 21) (hN : hasF (k : Int) 110 = false) (hX : hasF (k : Int) 120 = false) (hS : hasF (k : Int) 115 = false) (hM : hasF (k : Int) 109 = true)
  (hf : a.WF) (hmk : checkRec a.make = 0) (A : Option Addr) (n c : Nat) (hn : n ≤ 1048576) (w : World) (hK : KindsAt w)
  (hw : IsW w p base bs) (hr : RdItems w A n a.make.list) (hA : 0 < n → ∀ ad, A = some ad → ad.block < base) (hl : bs.length + (wAct a).length ≤ 1099511627776) :
  Calls Tryz.prog 114 #[.pointer (some ⟨p, 0, none⟩), actVal a A n c] w (WPost w p base (bs ++ wAct a)) := by
 have hv : actVal a A n c = .agg #[.int .i64 (k : Int), .string (str a.key), .int .i64 a.n, .float .f64 a.x, .string (str a.s), .int .i64 a.make.kind, .int .i64 a.make.num, .int .i64 a.make.low, .int .i64 a.make.high, .float .f64 a.make.real, .int .i64 a.make.cap, .string (str a.make.text), .slice A n c, .bool a.must] := by unfold actVal; rw [hk]
 have hrec : Hid (wAct a = wU k ++ (wFlag a.must ++ (wS a.key ++ (wRec a.make)))) := by unfold Hid wAct; rw [hk, hN, hX, hS, hM]; simp
 have hlen := Lib.hid (hrec.out ▸ hl)
 have hf' := Lib.hid hf
 rw [hv]
 have f110 : ∀ W, Calls Tryz.prog 100 #[.agg #[.string (str (wordOf (k : Int))), .int .i64 (onOf (k : Int) : Nat), .string (str (kindFs (k : Int)))], .int .u8 110] W fun e w' => e = .returned (.bool false) ∧ Cln W w' := fun W => hN ▸ field_any k 110 W
 have f120 : ∀ W, Calls Tryz.prog 100 #[.agg #[.string (str (wordOf (k : Int))), .int .i64 (onOf (k : Int) : Nat), .string (str (kindFs (k : Int)))], .int .u8 120] W fun e w' => e = .returned (.bool false) ∧ Cln W w' := fun W => hX ▸ field_any k 120 W
 have f115 : ∀ W, Calls Tryz.prog 100 #[.agg #[.string (str (wordOf (k : Int))), .int .i64 (onOf (k : Int) : Nat), .string (str (kindFs (k : Int)))], .int .u8 115] W fun e w' => e = .returned (.bool false) ∧ Cln W w' := fun W => hS ▸ field_any k 115 W
 have f109 : ∀ W, Calls Tryz.prog 100 #[.agg #[.string (str (wordOf (k : Int))), .int .i64 (onOf (k : Int) : Nat), .string (str (kindFs (k : Int)))], .int .u8 109] W fun e w' => e = .returned (.bool true) ∧ Cln W w' := fun W => hM ▸ field_any k 109 W
 have f0 : ∀ W, KindsAt W → Calls Tryz.prog 97 #[.int .i64 (k : Int)] W fun e w' => e = .returned (.agg #[.string (str (wordOf (k : Int))), .int .i64 (onOf (k : Int) : Nat), .string (str (kindFs (k : Int)))]) ∧ Cln W w' := fun W h => of_any (k : Int) W h
 clear hv hl hf hk hN hX hS hM
 generalize wordOf (k : Int) = wd at f0 f110 f120 f115 f109
 generalize onOf (k : Int) = on at f0 f110 f120 f115 f109
 generalize kindFs (k : Int) = fl at f0 f110 f120 f115 f109
 go_enter Tryz.func114, Tryz.ntmps114
 go_wp2_with fail
 have hcl0 : Cln w (w.alloc (.cells #[.int .i64 (k : Int), .string (str a.key), .int .i64 a.n, .float .f64 a.x, .string (str a.s), .int .i64 a.make.kind, .int .i64 a.make.num, .int .i64 a.make.low, .int .i64 a.make.high, .float .f64 a.make.real, .int .i64 a.make.cap, .string (str a.make.text), .slice A n c, .bool a.must] 64)) := by (repeat with_reducible first | exact cR _ | assumption | refine cA ?_ _ | refine cD ?_ | refine cN ?_ _ | refine cS ?_ (by first | omega | (simp <;> omega)) _)
 refine (f0 _ (hK.cln hcl0)).mono ?_; rintro e w1 ⟨rfl, hq⟩
 have hlt : w.heap.size < w1.heap.size := by have := hq.size; simp at this; omega
 have hne : ¬ w.heap.size = w1.heap.size := by omega
 have hpl : p < w.heap.size := by obtain ⟨_, _, _, _, _, hb, _⟩ := hw; exact hb.lt
 have st0 : ActSt w p base w.heap.size w1.heap.size #[.int .i64 (k : Int), .string (str a.key), .int .i64 a.n, .float .f64 a.x, .string (str a.s), .int .i64 a.make.kind, .int .i64 a.make.num, .int .i64 a.make.low, .int .i64 a.make.high, .float .f64 a.make.real, .int .i64 a.make.cap, .string (str a.make.text), .slice A n c, .bool a.must] #[.string (str wd), .int .i64 (on : Nat), .string (str fl)] A n a.make.list (w1.alloc (.cells #[.string (str wd), .int .i64 (on : Nat), .string (str fl)] 161)) bs := by
  have hc1 : Cln w w1 := cln_trans hcl0 hq
  exact ActSt.mk (hw.cln (cln_trans hc1 ((Below.refl _ _).alloc (Nat.le_refl _) _))) ((Kept.of_below (S := WS w base p) hc1).alloc _) (((Blk.new w _ _).cln hq).alloc _) (Blk.new w1 _ _) (hr.cln (cln_trans hc1 ((Below.refl _ _).alloc (Nat.le_refl _) _))) (by omega) (by omega) hA
 clear hq hw hr hA hcl0 hK f0
 have hc0 := st0.b1.cell; have hs0 := st0.b2.cell; have hl0 := st0.b1.lt; have hm0 := st0.b2.lt
 go_wp2_with fail
 refine (wu_any p base _ k _ st0.W (by omega) (by have := hlen.out; simp only [List.length_append, wF_length, wFlag, List.length_singleton] at this ⊢; omega)).mono ?_; intro e v1 hp
 obtain ⟨rfl, st1⟩ := st0.step hp
 clear hp hc0 hs0 hl0 hm0 st0
 have hc1 := st1.b1.cell; have hs1 := st1.b2.cell; have hl1 := st1.b1.lt; have hm1 := st1.b2.lt
 go_wp2_with fail
 refine (wflag_any a.must p base _ _ st1.W (by have := hlen.out; simp only [List.length_append, wF_length, wFlag, List.length_singleton] at this ⊢; omega)).mono ?_; intro e v2 hp
 obtain ⟨rfl, st2⟩ := st1.step hp
 clear hp hc1 hs1 hl1 hm1 st1
 have hc2 := st2.b1.cell; have hs2 := st2.b2.cell; have hl2 := st2.b1.lt; have hm2 := st2.b2.lt
 go_wp2_with fail
 refine (ws_list p base _ a.key _ st2.W (by have := hlen.out; simp only [List.length_append, wF_length, wFlag, List.length_singleton] at this ⊢; omega)).mono ?_; intro e v3 hp
 obtain ⟨rfl, st3⟩ := st2.step hp
 clear hp hc2 hs2 hl2 hm2 st2
 have hc3 := st3.b1.cell; have hs3 := st3.b2.cell; have hl3 := st3.b1.lt; have hm3 := st3.b2.lt
 go_wp2_with fail
 refine (f110 _).mono ?_; rintro e v4 ⟨rfl, hq⟩
 have st4 := st3.cln hq
 clear hq hc3 hs3 hl3 hm3 st3
 have hc4 := st4.b1.cell; have hs4 := st4.b2.cell; have hl4 := st4.b1.lt; have hm4 := st4.b2.lt
 go_wp2_with fail
 refine (f120 _).mono ?_; rintro e v5 ⟨rfl, hq⟩
 have st5 := st4.cln hq
 clear hq hc4 hs4 hl4 hm4 st4
 have hc5 := st5.b1.cell; have hs5 := st5.b2.cell; have hl5 := st5.b1.lt; have hm5 := st5.b2.lt
 go_wp2_with fail
 refine (f115 _).mono ?_; rintro e v6 ⟨rfl, hq⟩
 have st6 := st5.cln hq
 clear hq hc5 hs5 hl5 hm5 st5
 have hc6 := st6.b1.cell; have hs6 := st6.b2.cell; have hl6 := st6.b1.lt; have hm6 := st6.b2.lt
 go_wp2_with fail
 refine (f109 _).mono ?_; rintro e v7 ⟨rfl, hq⟩
 have st7 := st6.cln hq
 clear hq hc6 hs6 hl6 hm6 st6
 have hc7 := st7.b1.cell; have hs7 := st7.b2.cell; have hl7 := st7.b1.lt; have hm7 := st7.b2.lt
 go_wp2_with fail
 refine (put_any p base _ a.make hmk hf'.out.make A n c hn _ st7.W st7.it st7.lo (by have := hlen.out; simp only [List.length_append, wF_length, wFlag, List.length_singleton] at this ⊢; omega)).mono ?_; intro e v8 hp
 obtain ⟨rfl, st8⟩ := st7.step hp
 clear hp hc7 hs7 hl7 hm7 st7
 have hc8 := st8.b1.cell; have hs8 := st8.b2.cell; have hl8 := st8.b1.lt; have hm8 := st8.b2.lt
 go_wp2_with fail
 refine bodyPost_ret (results_none rfl _ _ _) rfl ?_
 refine ⟨rfl, ?_, st8.K⟩
 rw [hrec.out]
 simpa only [List.append_assoc] using st8.W

set_option maxHeartbeats 4000000 in
theorem awrite_text (p base : Nat) (bs : List UInt8) (a : MAct) (k : Nat) (hk : a.kind = (k : Int)) (hk1 : 1 ≤ k ∧ k ≤ 21) (hN : hasF (k : Int) 110 = false) (hX : hasF (k : Int) 120 = false) (hS : hasF (k : Int) 115 = true) (hM : hasF (k : Int) 109 = false)
  (hf : a.WF) (hmk : True) (A : Option Addr) (n c : Nat) (hn : n ≤ 1048576) (w : World) (hK : KindsAt w)
  (hw : IsW w p base bs) (hr : RdItems w A n a.make.list) (hA : 0 < n → ∀ ad, A = some ad → ad.block < base) (hl : bs.length + (wAct a).length ≤ 1099511627776) :
  Calls Tryz.prog 114 #[.pointer (some ⟨p, 0, none⟩), actVal a A n c] w (WPost w p base (bs ++ wAct a)) := by
 have hv : actVal a A n c = .agg #[.int .i64 (k : Int), .string (str a.key), .int .i64 a.n, .float .f64 a.x, .string (str a.s), .int .i64 a.make.kind, .int .i64 a.make.num, .int .i64 a.make.low, .int .i64 a.make.high, .float .f64 a.make.real, .int .i64 a.make.cap, .string (str a.make.text), .slice A n c, .bool a.must] := by unfold actVal; rw [hk]
 have hrec : Hid (wAct a = wU k ++ (wFlag a.must ++ (wS a.key ++ (wS a.s)))) := by unfold Hid wAct; rw [hk, hN, hX, hS, hM]; simp
 have hlen := Lib.hid (hrec.out ▸ hl)
 have hf' := Lib.hid hf
 rw [hv]
 have f110 : ∀ W, Calls Tryz.prog 100 #[.agg #[.string (str (wordOf (k : Int))), .int .i64 (onOf (k : Int) : Nat), .string (str (kindFs (k : Int)))], .int .u8 110] W fun e w' => e = .returned (.bool false) ∧ Cln W w' := fun W => hN ▸ field_any k 110 W
 have f120 : ∀ W, Calls Tryz.prog 100 #[.agg #[.string (str (wordOf (k : Int))), .int .i64 (onOf (k : Int) : Nat), .string (str (kindFs (k : Int)))], .int .u8 120] W fun e w' => e = .returned (.bool false) ∧ Cln W w' := fun W => hX ▸ field_any k 120 W
 have f115 : ∀ W, Calls Tryz.prog 100 #[.agg #[.string (str (wordOf (k : Int))), .int .i64 (onOf (k : Int) : Nat), .string (str (kindFs (k : Int)))], .int .u8 115] W fun e w' => e = .returned (.bool true) ∧ Cln W w' := fun W => hS ▸ field_any k 115 W
 have f109 : ∀ W, Calls Tryz.prog 100 #[.agg #[.string (str (wordOf (k : Int))), .int .i64 (onOf (k : Int) : Nat), .string (str (kindFs (k : Int)))], .int .u8 109] W fun e w' => e = .returned (.bool false) ∧ Cln W w' := fun W => hM ▸ field_any k 109 W
 have f0 : ∀ W, KindsAt W → Calls Tryz.prog 97 #[.int .i64 (k : Int)] W fun e w' => e = .returned (.agg #[.string (str (wordOf (k : Int))), .int .i64 (onOf (k : Int) : Nat), .string (str (kindFs (k : Int)))]) ∧ Cln W w' := fun W h => of_any (k : Int) W h
 clear hv hl hf hk hN hX hS hM
 generalize wordOf (k : Int) = wd at f0 f110 f120 f115 f109
 generalize onOf (k : Int) = on at f0 f110 f120 f115 f109
 generalize kindFs (k : Int) = fl at f0 f110 f120 f115 f109
 go_enter Tryz.func114, Tryz.ntmps114
 go_wp2_with fail
 have hcl0 : Cln w (w.alloc (.cells #[.int .i64 (k : Int), .string (str a.key), .int .i64 a.n, .float .f64 a.x, .string (str a.s), .int .i64 a.make.kind, .int .i64 a.make.num, .int .i64 a.make.low, .int .i64 a.make.high, .float .f64 a.make.real, .int .i64 a.make.cap, .string (str a.make.text), .slice A n c, .bool a.must] 64)) := by (repeat with_reducible first | exact cR _ | assumption | refine cA ?_ _ | refine cD ?_ | refine cN ?_ _ | refine cS ?_ (by first | omega | (simp <;> omega)) _)
 refine (f0 _ (hK.cln hcl0)).mono ?_; rintro e w1 ⟨rfl, hq⟩
 have hlt : w.heap.size < w1.heap.size := by have := hq.size; simp at this; omega
 have hne : ¬ w.heap.size = w1.heap.size := by omega
 have hpl : p < w.heap.size := by obtain ⟨_, _, _, _, _, hb, _⟩ := hw; exact hb.lt
 have st0 : ActSt w p base w.heap.size w1.heap.size #[.int .i64 (k : Int), .string (str a.key), .int .i64 a.n, .float .f64 a.x, .string (str a.s), .int .i64 a.make.kind, .int .i64 a.make.num, .int .i64 a.make.low, .int .i64 a.make.high, .float .f64 a.make.real, .int .i64 a.make.cap, .string (str a.make.text), .slice A n c, .bool a.must] #[.string (str wd), .int .i64 (on : Nat), .string (str fl)] A n a.make.list (w1.alloc (.cells #[.string (str wd), .int .i64 (on : Nat), .string (str fl)] 161)) bs := by
  have hc1 : Cln w w1 := cln_trans hcl0 hq
  exact ActSt.mk (hw.cln (cln_trans hc1 ((Below.refl _ _).alloc (Nat.le_refl _) _))) ((Kept.of_below (S := WS w base p) hc1).alloc _) (((Blk.new w _ _).cln hq).alloc _) (Blk.new w1 _ _) (hr.cln (cln_trans hc1 ((Below.refl _ _).alloc (Nat.le_refl _) _))) (by omega) (by omega) hA
 clear hq hw hr hA hcl0 hK f0
 have hc0 := st0.b1.cell; have hs0 := st0.b2.cell; have hl0 := st0.b1.lt; have hm0 := st0.b2.lt
 go_wp2_with fail
 refine (wu_any p base _ k _ st0.W (by omega) (by have := hlen.out; simp only [List.length_append, wF_length, wFlag, List.length_singleton] at this ⊢; omega)).mono ?_; intro e v1 hp
 obtain ⟨rfl, st1⟩ := st0.step hp
 clear hp hc0 hs0 hl0 hm0 st0
 have hc1 := st1.b1.cell; have hs1 := st1.b2.cell; have hl1 := st1.b1.lt; have hm1 := st1.b2.lt
 go_wp2_with fail
 refine (wflag_any a.must p base _ _ st1.W (by have := hlen.out; simp only [List.length_append, wF_length, wFlag, List.length_singleton] at this ⊢; omega)).mono ?_; intro e v2 hp
 obtain ⟨rfl, st2⟩ := st1.step hp
 clear hp hc1 hs1 hl1 hm1 st1
 have hc2 := st2.b1.cell; have hs2 := st2.b2.cell; have hl2 := st2.b1.lt; have hm2 := st2.b2.lt
 go_wp2_with fail
 refine (ws_list p base _ a.key _ st2.W (by have := hlen.out; simp only [List.length_append, wF_length, wFlag, List.length_singleton] at this ⊢; omega)).mono ?_; intro e v3 hp
 obtain ⟨rfl, st3⟩ := st2.step hp
 clear hp hc2 hs2 hl2 hm2 st2
 have hc3 := st3.b1.cell; have hs3 := st3.b2.cell; have hl3 := st3.b1.lt; have hm3 := st3.b2.lt
 go_wp2_with fail
 refine (f110 _).mono ?_; rintro e v4 ⟨rfl, hq⟩
 have st4 := st3.cln hq
 clear hq hc3 hs3 hl3 hm3 st3
 have hc4 := st4.b1.cell; have hs4 := st4.b2.cell; have hl4 := st4.b1.lt; have hm4 := st4.b2.lt
 go_wp2_with fail
 refine (f120 _).mono ?_; rintro e v5 ⟨rfl, hq⟩
 have st5 := st4.cln hq
 clear hq hc4 hs4 hl4 hm4 st4
 have hc5 := st5.b1.cell; have hs5 := st5.b2.cell; have hl5 := st5.b1.lt; have hm5 := st5.b2.lt
 go_wp2_with fail
 refine (f115 _).mono ?_; rintro e v6 ⟨rfl, hq⟩
 have st6 := st5.cln hq
 clear hq hc5 hs5 hl5 hm5 st5
 have hc6 := st6.b1.cell; have hs6 := st6.b2.cell; have hl6 := st6.b1.lt; have hm6 := st6.b2.lt
 go_wp2_with fail
 refine (ws_list p base _ a.s _ st6.W (by have := hlen.out; simp only [List.length_append, wF_length, wFlag, List.length_singleton] at this ⊢; omega)).mono ?_; intro e v7 hp
 obtain ⟨rfl, st7⟩ := st6.step hp
 clear hp hc6 hs6 hl6 hm6 st6
 have hc7 := st7.b1.cell; have hs7 := st7.b2.cell; have hl7 := st7.b1.lt; have hm7 := st7.b2.lt
 go_wp2_with fail
 refine (f109 _).mono ?_; rintro e v8 ⟨rfl, hq⟩
 have st8 := st7.cln hq
 clear hq hc7 hs7 hl7 hm7 st7
 have hc8 := st8.b1.cell; have hs8 := st8.b2.cell; have hl8 := st8.b1.lt; have hm8 := st8.b2.lt
 go_wp2_with fail
 refine bodyPost_ret (results_none rfl _ _ _) rfl ?_
 refine ⟨rfl, ?_, st8.K⟩
 rw [hrec.out]
 simpa only [List.append_assoc] using st8.W

set_option maxHeartbeats 4000000 in
theorem awrite_num (p base : Nat) (bs : List UInt8) (a : MAct) (k : Nat) (hk : a.kind = (k : Int)) (hk1 : 1 ≤ k ∧ k ≤ 21) (hN : hasF (k : Int) 110 = true) (hX : hasF (k : Int) 120 = false) (hS : hasF (k : Int) 115 = false) (hM : hasF (k : Int) 109 = false)
  (hf : a.WF) (hmk : True) (A : Option Addr) (n c : Nat) (hn : n ≤ 1048576) (w : World) (hK : KindsAt w)
  (hw : IsW w p base bs) (hr : RdItems w A n a.make.list) (hA : 0 < n → ∀ ad, A = some ad → ad.block < base) (hl : bs.length + (wAct a).length ≤ 1099511627776) :
  Calls Tryz.prog 114 #[.pointer (some ⟨p, 0, none⟩), actVal a A n c] w (WPost w p base (bs ++ wAct a)) := by
 have hv : actVal a A n c = .agg #[.int .i64 (k : Int), .string (str a.key), .int .i64 a.n, .float .f64 a.x, .string (str a.s), .int .i64 a.make.kind, .int .i64 a.make.num, .int .i64 a.make.low, .int .i64 a.make.high, .float .f64 a.make.real, .int .i64 a.make.cap, .string (str a.make.text), .slice A n c, .bool a.must] := by unfold actVal; rw [hk]
 have hrec : Hid (wAct a = wU k ++ (wFlag a.must ++ (wS a.key ++ (wI a.n)))) := by unfold Hid wAct; rw [hk, hN, hX, hS, hM]; simp
 have hlen := Lib.hid (hrec.out ▸ hl)
 have hf' := Lib.hid hf
 rw [hv]
 have f110 : ∀ W, Calls Tryz.prog 100 #[.agg #[.string (str (wordOf (k : Int))), .int .i64 (onOf (k : Int) : Nat), .string (str (kindFs (k : Int)))], .int .u8 110] W fun e w' => e = .returned (.bool true) ∧ Cln W w' := fun W => hN ▸ field_any k 110 W
 have f120 : ∀ W, Calls Tryz.prog 100 #[.agg #[.string (str (wordOf (k : Int))), .int .i64 (onOf (k : Int) : Nat), .string (str (kindFs (k : Int)))], .int .u8 120] W fun e w' => e = .returned (.bool false) ∧ Cln W w' := fun W => hX ▸ field_any k 120 W
 have f115 : ∀ W, Calls Tryz.prog 100 #[.agg #[.string (str (wordOf (k : Int))), .int .i64 (onOf (k : Int) : Nat), .string (str (kindFs (k : Int)))], .int .u8 115] W fun e w' => e = .returned (.bool false) ∧ Cln W w' := fun W => hS ▸ field_any k 115 W
 have f109 : ∀ W, Calls Tryz.prog 100 #[.agg #[.string (str (wordOf (k : Int))), .int .i64 (onOf (k : Int) : Nat), .string (str (kindFs (k : Int)))], .int .u8 109] W fun e w' => e = .returned (.bool false) ∧ Cln W w' := fun W => hM ▸ field_any k 109 W
 have f0 : ∀ W, KindsAt W → Calls Tryz.prog 97 #[.int .i64 (k : Int)] W fun e w' => e = .returned (.agg #[.string (str (wordOf (k : Int))), .int .i64 (onOf (k : Int) : Nat), .string (str (kindFs (k : Int)))]) ∧ Cln W w' := fun W h => of_any (k : Int) W h
 clear hv hl hf hk hN hX hS hM
 generalize wordOf (k : Int) = wd at f0 f110 f120 f115 f109
 generalize onOf (k : Int) = on at f0 f110 f120 f115 f109
 generalize kindFs (k : Int) = fl at f0 f110 f120 f115 f109
 go_enter Tryz.func114, Tryz.ntmps114
 go_wp2_with fail
 have hcl0 : Cln w (w.alloc (.cells #[.int .i64 (k : Int), .string (str a.key), .int .i64 a.n, .float .f64 a.x, .string (str a.s), .int .i64 a.make.kind, .int .i64 a.make.num, .int .i64 a.make.low, .int .i64 a.make.high, .float .f64 a.make.real, .int .i64 a.make.cap, .string (str a.make.text), .slice A n c, .bool a.must] 64)) := by (repeat with_reducible first | exact cR _ | assumption | refine cA ?_ _ | refine cD ?_ | refine cN ?_ _ | refine cS ?_ (by first | omega | (simp <;> omega)) _)
 refine (f0 _ (hK.cln hcl0)).mono ?_; rintro e w1 ⟨rfl, hq⟩
 have hlt : w.heap.size < w1.heap.size := by have := hq.size; simp at this; omega
 have hne : ¬ w.heap.size = w1.heap.size := by omega
 have hpl : p < w.heap.size := by obtain ⟨_, _, _, _, _, hb, _⟩ := hw; exact hb.lt
 have st0 : ActSt w p base w.heap.size w1.heap.size #[.int .i64 (k : Int), .string (str a.key), .int .i64 a.n, .float .f64 a.x, .string (str a.s), .int .i64 a.make.kind, .int .i64 a.make.num, .int .i64 a.make.low, .int .i64 a.make.high, .float .f64 a.make.real, .int .i64 a.make.cap, .string (str a.make.text), .slice A n c, .bool a.must] #[.string (str wd), .int .i64 (on : Nat), .string (str fl)] A n a.make.list (w1.alloc (.cells #[.string (str wd), .int .i64 (on : Nat), .string (str fl)] 161)) bs := by
  have hc1 : Cln w w1 := cln_trans hcl0 hq
  exact ActSt.mk (hw.cln (cln_trans hc1 ((Below.refl _ _).alloc (Nat.le_refl _) _))) ((Kept.of_below (S := WS w base p) hc1).alloc _) (((Blk.new w _ _).cln hq).alloc _) (Blk.new w1 _ _) (hr.cln (cln_trans hc1 ((Below.refl _ _).alloc (Nat.le_refl _) _))) (by omega) (by omega) hA
 clear hq hw hr hA hcl0 hK f0
 have hc0 := st0.b1.cell; have hs0 := st0.b2.cell; have hl0 := st0.b1.lt; have hm0 := st0.b2.lt
 go_wp2_with fail
 refine (wu_any p base _ k _ st0.W (by omega) (by have := hlen.out; simp only [List.length_append, wF_length, wFlag, List.length_singleton] at this ⊢; omega)).mono ?_; intro e v1 hp
 obtain ⟨rfl, st1⟩ := st0.step hp
 clear hp hc0 hs0 hl0 hm0 st0
 have hc1 := st1.b1.cell; have hs1 := st1.b2.cell; have hl1 := st1.b1.lt; have hm1 := st1.b2.lt
 go_wp2_with fail
 refine (wflag_any a.must p base _ _ st1.W (by have := hlen.out; simp only [List.length_append, wF_length, wFlag, List.length_singleton] at this ⊢; omega)).mono ?_; intro e v2 hp
 obtain ⟨rfl, st2⟩ := st1.step hp
 clear hp hc1 hs1 hl1 hm1 st1
 have hc2 := st2.b1.cell; have hs2 := st2.b2.cell; have hl2 := st2.b1.lt; have hm2 := st2.b2.lt
 go_wp2_with fail
 refine (ws_list p base _ a.key _ st2.W (by have := hlen.out; simp only [List.length_append, wF_length, wFlag, List.length_singleton] at this ⊢; omega)).mono ?_; intro e v3 hp
 obtain ⟨rfl, st3⟩ := st2.step hp
 clear hp hc2 hs2 hl2 hm2 st2
 have hc3 := st3.b1.cell; have hs3 := st3.b2.cell; have hl3 := st3.b1.lt; have hm3 := st3.b2.lt
 go_wp2_with fail
 refine (f110 _).mono ?_; rintro e v4 ⟨rfl, hq⟩
 have st4 := st3.cln hq
 clear hq hc3 hs3 hl3 hm3 st3
 have hc4 := st4.b1.cell; have hs4 := st4.b2.cell; have hl4 := st4.b1.lt; have hm4 := st4.b2.lt
 go_wp2_with fail
 refine (wi_any p base _ a.n _ st4.W hf'.out.n (by have := hlen.out; simp only [List.length_append, wF_length, wFlag, List.length_singleton] at this ⊢; omega)).mono ?_; intro e v5 hp
 obtain ⟨rfl, st5⟩ := st4.step hp
 clear hp hc4 hs4 hl4 hm4 st4
 have hc5 := st5.b1.cell; have hs5 := st5.b2.cell; have hl5 := st5.b1.lt; have hm5 := st5.b2.lt
 go_wp2_with fail
 refine (f120 _).mono ?_; rintro e v6 ⟨rfl, hq⟩
 have st6 := st5.cln hq
 clear hq hc5 hs5 hl5 hm5 st5
 have hc6 := st6.b1.cell; have hs6 := st6.b2.cell; have hl6 := st6.b1.lt; have hm6 := st6.b2.lt
 go_wp2_with fail
 refine (f115 _).mono ?_; rintro e v7 ⟨rfl, hq⟩
 have st7 := st6.cln hq
 clear hq hc6 hs6 hl6 hm6 st6
 have hc7 := st7.b1.cell; have hs7 := st7.b2.cell; have hl7 := st7.b1.lt; have hm7 := st7.b2.lt
 go_wp2_with fail
 refine (f109 _).mono ?_; rintro e v8 ⟨rfl, hq⟩
 have st8 := st7.cln hq
 clear hq hc7 hs7 hl7 hm7 st7
 have hc8 := st8.b1.cell; have hs8 := st8.b2.cell; have hl8 := st8.b1.lt; have hm8 := st8.b2.lt
 go_wp2_with fail
 refine bodyPost_ret (results_none rfl _ _ _) rfl ?_
 refine ⟨rfl, ?_, st8.K⟩
 rw [hrec.out]
 simpa only [List.append_assoc] using st8.W

set_option maxHeartbeats 4000000 in
theorem awrite_real (p base : Nat) (bs : List UInt8) (a : MAct) (k : Nat) (hk : a.kind = (k : Int)) (hk1 : 1 ≤ k ∧ k ≤ 21) (hN : hasF (k : Int) 110 = false) (hX : hasF (k : Int) 120 = true) (hS : hasF (k : Int) 115 = false) (hM : hasF (k : Int) 109 = false)
  (hf : a.WF) (hmk : True) (A : Option Addr) (n c : Nat) (hn : n ≤ 1048576) (w : World) (hK : KindsAt w)
  (hw : IsW w p base bs) (hr : RdItems w A n a.make.list) (hA : 0 < n → ∀ ad, A = some ad → ad.block < base) (hl : bs.length + (wAct a).length ≤ 1099511627776) :
  Calls Tryz.prog 114 #[.pointer (some ⟨p, 0, none⟩), actVal a A n c] w (WPost w p base (bs ++ wAct a)) := by
 have hv : actVal a A n c = .agg #[.int .i64 (k : Int), .string (str a.key), .int .i64 a.n, .float .f64 a.x, .string (str a.s), .int .i64 a.make.kind, .int .i64 a.make.num, .int .i64 a.make.low, .int .i64 a.make.high, .float .f64 a.make.real, .int .i64 a.make.cap, .string (str a.make.text), .slice A n c, .bool a.must] := by unfold actVal; rw [hk]
 have hrec : Hid (wAct a = wU k ++ (wFlag a.must ++ (wS a.key ++ (wF a.x)))) := by unfold Hid wAct; rw [hk, hN, hX, hS, hM]; simp
 have hlen := Lib.hid (hrec.out ▸ hl)
 have hf' := Lib.hid hf
 rw [hv]
 have f110 : ∀ W, Calls Tryz.prog 100 #[.agg #[.string (str (wordOf (k : Int))), .int .i64 (onOf (k : Int) : Nat), .string (str (kindFs (k : Int)))], .int .u8 110] W fun e w' => e = .returned (.bool false) ∧ Cln W w' := fun W => hN ▸ field_any k 110 W
 have f120 : ∀ W, Calls Tryz.prog 100 #[.agg #[.string (str (wordOf (k : Int))), .int .i64 (onOf (k : Int) : Nat), .string (str (kindFs (k : Int)))], .int .u8 120] W fun e w' => e = .returned (.bool true) ∧ Cln W w' := fun W => hX ▸ field_any k 120 W
 have f115 : ∀ W, Calls Tryz.prog 100 #[.agg #[.string (str (wordOf (k : Int))), .int .i64 (onOf (k : Int) : Nat), .string (str (kindFs (k : Int)))], .int .u8 115] W fun e w' => e = .returned (.bool false) ∧ Cln W w' := fun W => hS ▸ field_any k 115 W
 have f109 : ∀ W, Calls Tryz.prog 100 #[.agg #[.string (str (wordOf (k : Int))), .int .i64 (onOf (k : Int) : Nat), .string (str (kindFs (k : Int)))], .int .u8 109] W fun e w' => e = .returned (.bool false) ∧ Cln W w' := fun W => hM ▸ field_any k 109 W
 have f0 : ∀ W, KindsAt W → Calls Tryz.prog 97 #[.int .i64 (k : Int)] W fun e w' => e = .returned (.agg #[.string (str (wordOf (k : Int))), .int .i64 (onOf (k : Int) : Nat), .string (str (kindFs (k : Int)))]) ∧ Cln W w' := fun W h => of_any (k : Int) W h
 clear hv hl hf hk hN hX hS hM
 generalize wordOf (k : Int) = wd at f0 f110 f120 f115 f109
 generalize onOf (k : Int) = on at f0 f110 f120 f115 f109
 generalize kindFs (k : Int) = fl at f0 f110 f120 f115 f109
 go_enter Tryz.func114, Tryz.ntmps114
 go_wp2_with fail
 have hcl0 : Cln w (w.alloc (.cells #[.int .i64 (k : Int), .string (str a.key), .int .i64 a.n, .float .f64 a.x, .string (str a.s), .int .i64 a.make.kind, .int .i64 a.make.num, .int .i64 a.make.low, .int .i64 a.make.high, .float .f64 a.make.real, .int .i64 a.make.cap, .string (str a.make.text), .slice A n c, .bool a.must] 64)) := by (repeat with_reducible first | exact cR _ | assumption | refine cA ?_ _ | refine cD ?_ | refine cN ?_ _ | refine cS ?_ (by first | omega | (simp <;> omega)) _)
 refine (f0 _ (hK.cln hcl0)).mono ?_; rintro e w1 ⟨rfl, hq⟩
 have hlt : w.heap.size < w1.heap.size := by have := hq.size; simp at this; omega
 have hne : ¬ w.heap.size = w1.heap.size := by omega
 have hpl : p < w.heap.size := by obtain ⟨_, _, _, _, _, hb, _⟩ := hw; exact hb.lt
 have st0 : ActSt w p base w.heap.size w1.heap.size #[.int .i64 (k : Int), .string (str a.key), .int .i64 a.n, .float .f64 a.x, .string (str a.s), .int .i64 a.make.kind, .int .i64 a.make.num, .int .i64 a.make.low, .int .i64 a.make.high, .float .f64 a.make.real, .int .i64 a.make.cap, .string (str a.make.text), .slice A n c, .bool a.must] #[.string (str wd), .int .i64 (on : Nat), .string (str fl)] A n a.make.list (w1.alloc (.cells #[.string (str wd), .int .i64 (on : Nat), .string (str fl)] 161)) bs := by
  have hc1 : Cln w w1 := cln_trans hcl0 hq
  exact ActSt.mk (hw.cln (cln_trans hc1 ((Below.refl _ _).alloc (Nat.le_refl _) _))) ((Kept.of_below (S := WS w base p) hc1).alloc _) (((Blk.new w _ _).cln hq).alloc _) (Blk.new w1 _ _) (hr.cln (cln_trans hc1 ((Below.refl _ _).alloc (Nat.le_refl _) _))) (by omega) (by omega) hA
 clear hq hw hr hA hcl0 hK f0
 have hc0 := st0.b1.cell; have hs0 := st0.b2.cell; have hl0 := st0.b1.lt; have hm0 := st0.b2.lt
 go_wp2_with fail
 refine (wu_any p base _ k _ st0.W (by omega) (by have := hlen.out; simp only [List.length_append, wF_length, wFlag, List.length_singleton] at this ⊢; omega)).mono ?_; intro e v1 hp
 obtain ⟨rfl, st1⟩ := st0.step hp
 clear hp hc0 hs0 hl0 hm0 st0
 have hc1 := st1.b1.cell; have hs1 := st1.b2.cell; have hl1 := st1.b1.lt; have hm1 := st1.b2.lt
 go_wp2_with fail
 refine (wflag_any a.must p base _ _ st1.W (by have := hlen.out; simp only [List.length_append, wF_length, wFlag, List.length_singleton] at this ⊢; omega)).mono ?_; intro e v2 hp
 obtain ⟨rfl, st2⟩ := st1.step hp
 clear hp hc1 hs1 hl1 hm1 st1
 have hc2 := st2.b1.cell; have hs2 := st2.b2.cell; have hl2 := st2.b1.lt; have hm2 := st2.b2.lt
 go_wp2_with fail
 refine (ws_list p base _ a.key _ st2.W (by have := hlen.out; simp only [List.length_append, wF_length, wFlag, List.length_singleton] at this ⊢; omega)).mono ?_; intro e v3 hp
 obtain ⟨rfl, st3⟩ := st2.step hp
 clear hp hc2 hs2 hl2 hm2 st2
 have hc3 := st3.b1.cell; have hs3 := st3.b2.cell; have hl3 := st3.b1.lt; have hm3 := st3.b2.lt
 go_wp2_with fail
 refine (f110 _).mono ?_; rintro e v4 ⟨rfl, hq⟩
 have st4 := st3.cln hq
 clear hq hc3 hs3 hl3 hm3 st3
 have hc4 := st4.b1.cell; have hs4 := st4.b2.cell; have hl4 := st4.b1.lt; have hm4 := st4.b2.lt
 go_wp2_with fail
 refine (f120 _).mono ?_; rintro e v5 ⟨rfl, hq⟩
 have st5 := st4.cln hq
 clear hq hc4 hs4 hl4 hm4 st4
 have hc5 := st5.b1.cell; have hs5 := st5.b2.cell; have hl5 := st5.b1.lt; have hm5 := st5.b2.lt
 go_wp2_with fail
 refine (wf_any p base _ a.x hf'.out.x _ st5.W (by have := hlen.out; simp only [List.length_append, wF_length, wFlag, List.length_singleton] at this ⊢; omega)).mono ?_; intro e v6 hp
 obtain ⟨rfl, st6⟩ := st5.step hp
 clear hp hc5 hs5 hl5 hm5 st5
 have hc6 := st6.b1.cell; have hs6 := st6.b2.cell; have hl6 := st6.b1.lt; have hm6 := st6.b2.lt
 go_wp2_with fail
 refine (f115 _).mono ?_; rintro e v7 ⟨rfl, hq⟩
 have st7 := st6.cln hq
 clear hq hc6 hs6 hl6 hm6 st6
 have hc7 := st7.b1.cell; have hs7 := st7.b2.cell; have hl7 := st7.b1.lt; have hm7 := st7.b2.lt
 go_wp2_with fail
 refine (f109 _).mono ?_; rintro e v8 ⟨rfl, hq⟩
 have st8 := st7.cln hq
 clear hq hc7 hs7 hl7 hm7 st7
 have hc8 := st8.b1.cell; have hs8 := st8.b2.cell; have hl8 := st8.b1.lt; have hm8 := st8.b2.lt
 go_wp2_with fail
 refine bodyPost_ret (results_none rfl _ _ _) rfl ?_
 refine ⟨rfl, ?_, st8.K⟩
 rw [hrec.out]
 simpa only [List.append_assoc] using st8.W

set_option maxHeartbeats 4000000 in
theorem awrite_offer (p base : Nat) (bs : List UInt8) (a : MAct) (k : Nat) (hk : a.kind = (k : Int)) (hk1 : 1 ≤ k ∧ k ≤ 21) (hN : hasF (k : Int) 110 = false) (hX : hasF (k : Int) 120 = true) (hS : hasF (k : Int) 115 = true) (hM : hasF (k : Int) 109 = false)
  (hf : a.WF) (hmk : True) (A : Option Addr) (n c : Nat) (hn : n ≤ 1048576) (w : World) (hK : KindsAt w)
  (hw : IsW w p base bs) (hr : RdItems w A n a.make.list) (hA : 0 < n → ∀ ad, A = some ad → ad.block < base) (hl : bs.length + (wAct a).length ≤ 1099511627776) :
  Calls Tryz.prog 114 #[.pointer (some ⟨p, 0, none⟩), actVal a A n c] w (WPost w p base (bs ++ wAct a)) := by
 have hv : actVal a A n c = .agg #[.int .i64 (k : Int), .string (str a.key), .int .i64 a.n, .float .f64 a.x, .string (str a.s), .int .i64 a.make.kind, .int .i64 a.make.num, .int .i64 a.make.low, .int .i64 a.make.high, .float .f64 a.make.real, .int .i64 a.make.cap, .string (str a.make.text), .slice A n c, .bool a.must] := by unfold actVal; rw [hk]
 have hrec : Hid (wAct a = wU k ++ (wFlag a.must ++ (wS a.key ++ (wF a.x ++ (wS a.s))))) := by unfold Hid wAct; rw [hk, hN, hX, hS, hM]; simp
 have hlen := Lib.hid (hrec.out ▸ hl)
 have hf' := Lib.hid hf
 rw [hv]
 have f110 : ∀ W, Calls Tryz.prog 100 #[.agg #[.string (str (wordOf (k : Int))), .int .i64 (onOf (k : Int) : Nat), .string (str (kindFs (k : Int)))], .int .u8 110] W fun e w' => e = .returned (.bool false) ∧ Cln W w' := fun W => hN ▸ field_any k 110 W
 have f120 : ∀ W, Calls Tryz.prog 100 #[.agg #[.string (str (wordOf (k : Int))), .int .i64 (onOf (k : Int) : Nat), .string (str (kindFs (k : Int)))], .int .u8 120] W fun e w' => e = .returned (.bool true) ∧ Cln W w' := fun W => hX ▸ field_any k 120 W
 have f115 : ∀ W, Calls Tryz.prog 100 #[.agg #[.string (str (wordOf (k : Int))), .int .i64 (onOf (k : Int) : Nat), .string (str (kindFs (k : Int)))], .int .u8 115] W fun e w' => e = .returned (.bool true) ∧ Cln W w' := fun W => hS ▸ field_any k 115 W
 have f109 : ∀ W, Calls Tryz.prog 100 #[.agg #[.string (str (wordOf (k : Int))), .int .i64 (onOf (k : Int) : Nat), .string (str (kindFs (k : Int)))], .int .u8 109] W fun e w' => e = .returned (.bool false) ∧ Cln W w' := fun W => hM ▸ field_any k 109 W
 have f0 : ∀ W, KindsAt W → Calls Tryz.prog 97 #[.int .i64 (k : Int)] W fun e w' => e = .returned (.agg #[.string (str (wordOf (k : Int))), .int .i64 (onOf (k : Int) : Nat), .string (str (kindFs (k : Int)))]) ∧ Cln W w' := fun W h => of_any (k : Int) W h
 clear hv hl hf hk hN hX hS hM
 generalize wordOf (k : Int) = wd at f0 f110 f120 f115 f109
 generalize onOf (k : Int) = on at f0 f110 f120 f115 f109
 generalize kindFs (k : Int) = fl at f0 f110 f120 f115 f109
 go_enter Tryz.func114, Tryz.ntmps114
 go_wp2_with fail
 have hcl0 : Cln w (w.alloc (.cells #[.int .i64 (k : Int), .string (str a.key), .int .i64 a.n, .float .f64 a.x, .string (str a.s), .int .i64 a.make.kind, .int .i64 a.make.num, .int .i64 a.make.low, .int .i64 a.make.high, .float .f64 a.make.real, .int .i64 a.make.cap, .string (str a.make.text), .slice A n c, .bool a.must] 64)) := by (repeat with_reducible first | exact cR _ | assumption | refine cA ?_ _ | refine cD ?_ | refine cN ?_ _ | refine cS ?_ (by first | omega | (simp <;> omega)) _)
 refine (f0 _ (hK.cln hcl0)).mono ?_; rintro e w1 ⟨rfl, hq⟩
 have hlt : w.heap.size < w1.heap.size := by have := hq.size; simp at this; omega
 have hne : ¬ w.heap.size = w1.heap.size := by omega
 have hpl : p < w.heap.size := by obtain ⟨_, _, _, _, _, hb, _⟩ := hw; exact hb.lt
 have st0 : ActSt w p base w.heap.size w1.heap.size #[.int .i64 (k : Int), .string (str a.key), .int .i64 a.n, .float .f64 a.x, .string (str a.s), .int .i64 a.make.kind, .int .i64 a.make.num, .int .i64 a.make.low, .int .i64 a.make.high, .float .f64 a.make.real, .int .i64 a.make.cap, .string (str a.make.text), .slice A n c, .bool a.must] #[.string (str wd), .int .i64 (on : Nat), .string (str fl)] A n a.make.list (w1.alloc (.cells #[.string (str wd), .int .i64 (on : Nat), .string (str fl)] 161)) bs := by
  have hc1 : Cln w w1 := cln_trans hcl0 hq
  exact ActSt.mk (hw.cln (cln_trans hc1 ((Below.refl _ _).alloc (Nat.le_refl _) _))) ((Kept.of_below (S := WS w base p) hc1).alloc _) (((Blk.new w _ _).cln hq).alloc _) (Blk.new w1 _ _) (hr.cln (cln_trans hc1 ((Below.refl _ _).alloc (Nat.le_refl _) _))) (by omega) (by omega) hA
 clear hq hw hr hA hcl0 hK f0
 have hc0 := st0.b1.cell; have hs0 := st0.b2.cell; have hl0 := st0.b1.lt; have hm0 := st0.b2.lt
 go_wp2_with fail
 refine (wu_any p base _ k _ st0.W (by omega) (by have := hlen.out; simp only [List.length_append, wF_length, wFlag, List.length_singleton] at this ⊢; omega)).mono ?_; intro e v1 hp
 obtain ⟨rfl, st1⟩ := st0.step hp
 clear hp hc0 hs0 hl0 hm0 st0
 have hc1 := st1.b1.cell; have hs1 := st1.b2.cell; have hl1 := st1.b1.lt; have hm1 := st1.b2.lt
 go_wp2_with fail
 refine (wflag_any a.must p base _ _ st1.W (by have := hlen.out; simp only [List.length_append, wF_length, wFlag, List.length_singleton] at this ⊢; omega)).mono ?_; intro e v2 hp
 obtain ⟨rfl, st2⟩ := st1.step hp
 clear hp hc1 hs1 hl1 hm1 st1
 have hc2 := st2.b1.cell; have hs2 := st2.b2.cell; have hl2 := st2.b1.lt; have hm2 := st2.b2.lt
 go_wp2_with fail
 refine (ws_list p base _ a.key _ st2.W (by have := hlen.out; simp only [List.length_append, wF_length, wFlag, List.length_singleton] at this ⊢; omega)).mono ?_; intro e v3 hp
 obtain ⟨rfl, st3⟩ := st2.step hp
 clear hp hc2 hs2 hl2 hm2 st2
 have hc3 := st3.b1.cell; have hs3 := st3.b2.cell; have hl3 := st3.b1.lt; have hm3 := st3.b2.lt
 go_wp2_with fail
 refine (f110 _).mono ?_; rintro e v4 ⟨rfl, hq⟩
 have st4 := st3.cln hq
 clear hq hc3 hs3 hl3 hm3 st3
 have hc4 := st4.b1.cell; have hs4 := st4.b2.cell; have hl4 := st4.b1.lt; have hm4 := st4.b2.lt
 go_wp2_with fail
 refine (f120 _).mono ?_; rintro e v5 ⟨rfl, hq⟩
 have st5 := st4.cln hq
 clear hq hc4 hs4 hl4 hm4 st4
 have hc5 := st5.b1.cell; have hs5 := st5.b2.cell; have hl5 := st5.b1.lt; have hm5 := st5.b2.lt
 go_wp2_with fail
 refine (wf_any p base _ a.x hf'.out.x _ st5.W (by have := hlen.out; simp only [List.length_append, wF_length, wFlag, List.length_singleton] at this ⊢; omega)).mono ?_; intro e v6 hp
 obtain ⟨rfl, st6⟩ := st5.step hp
 clear hp hc5 hs5 hl5 hm5 st5
 have hc6 := st6.b1.cell; have hs6 := st6.b2.cell; have hl6 := st6.b1.lt; have hm6 := st6.b2.lt
 go_wp2_with fail
 refine (f115 _).mono ?_; rintro e v7 ⟨rfl, hq⟩
 have st7 := st6.cln hq
 clear hq hc6 hs6 hl6 hm6 st6
 have hc7 := st7.b1.cell; have hs7 := st7.b2.cell; have hl7 := st7.b1.lt; have hm7 := st7.b2.lt
 go_wp2_with fail
 refine (ws_list p base _ a.s _ st7.W (by have := hlen.out; simp only [List.length_append, wF_length, wFlag, List.length_singleton] at this ⊢; omega)).mono ?_; intro e v8 hp
 obtain ⟨rfl, st8⟩ := st7.step hp
 clear hp hc7 hs7 hl7 hm7 st7
 have hc8 := st8.b1.cell; have hs8 := st8.b2.cell; have hl8 := st8.b1.lt; have hm8 := st8.b2.lt
 go_wp2_with fail
 refine (f109 _).mono ?_; rintro e v9 ⟨rfl, hq⟩
 have st9 := st8.cln hq
 clear hq hc8 hs8 hl8 hm8 st8
 have hc9 := st9.b1.cell; have hs9 := st9.b2.cell; have hl9 := st9.b1.lt; have hm9 := st9.b2.lt
 go_wp2_with fail
 refine bodyPost_ret (results_none rfl _ _ _) rfl ?_
 refine ⟨rfl, ?_, st9.K⟩
 rw [hrec.out]
 simpa only [List.append_assoc] using st9.W

theorem act_ok {a : MAct} (h : checkAct a = 0) : 1 ≤ a.kind ∧ a.kind ≤ 21 ∧ 1 ≤ a.key.length ∧ a.key.length ≤ 24 ∧ bareA a = true ∧ a.s.length ≤ mostOf a.kind ∧ fproper a.x = true ∧ (a.kind = 1 → checkRec a.make = 0) := by
 unfold checkAct at h
 split at h
 ·cases h
 ·split at h
  ·cases h
  ·split at h
   ·cases h
   ·split at h
    ·cases h
    ·split at h
     ·cases h
     ·split at h
      ·cases h
      ·rename_i h1 h2 h3 h4 h5 h6
       refine ⟨by omega, by omega, by omega, by omega, by simpa using h3, by omega, by simpa using h6, fun h7 => by rw [if_pos h7] at h; exact h⟩
theorem awrite_any (p base : Nat) (bs : List UInt8) (a : MAct) (hchk : checkAct a = 0) (hf : a.WF) (A : Option Addr) (n c : Nat) (hn : n ≤ 1048576) (w : World) (hK : KindsAt w)
  (hw : IsW w p base bs) (hr : RdItems w A n a.make.list) (hA : 0 < n → ∀ ad, A = some ad → ad.block < base) (hl : bs.length + (wAct a).length ≤ 1099511627776) :
  Calls Tryz.prog 114 #[.pointer (some ⟨p, 0, none⟩), actVal a A n c] w (WPost w p base (bs ++ wAct a)) := by
 obtain ⟨h1, h2, _, _, _, _, _, h8⟩ := act_ok hchk
 obtain ⟨k, hk⟩ : ∃ k : Nat, a.kind = (k : Int) := ⟨a.kind.toNat, by omega⟩
 have hk1 : 1 ≤ k ∧ k ≤ 21 := by omega
 rcases act_class k hk1 with ⟨hN, hX, hS, hM, he⟩ | ⟨hN, hX, hS, hM, he⟩ | ⟨hN, hX, hS, hM, he⟩ | ⟨hN, hX, hS, hM, he⟩ | ⟨hN, hX, hS, hM, he⟩ | ⟨hN, hX, hS, hM, he⟩
 ·exact awrite_none p base bs a k hk hk1 hN hX hS hM hf trivial A n c hn w hK hw hr hA hl
 ·exact awrite_make p base bs a k hk hk1 hN hX hS hM hf (h8 (by omega)) A n c hn w hK hw hr hA hl
 ·exact awrite_text p base bs a k hk hk1 hN hX hS hM hf trivial A n c hn w hK hw hr hA hl
 ·exact awrite_num p base bs a k hk hk1 hN hX hS hM hf trivial A n c hn w hK hw hr hA hl
 ·exact awrite_real p base bs a k hk hk1 hN hX hS hM hf trivial A n c hn w hK hw hr hA hl
 ·exact awrite_offer p base bs a k hk hk1 hN hX hS hM hf trivial A n c hn w hK hw hr hA hl
end Go.Proofs.YtbemnfbndjolpaaGreatDoor
