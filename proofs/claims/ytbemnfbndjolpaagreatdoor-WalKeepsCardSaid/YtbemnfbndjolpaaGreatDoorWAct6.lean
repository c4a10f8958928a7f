/- The walk of act.Take, class by class. (Printed by wip/tools/gen_act6.py.) -/
import Derived.Test.YtbemnfbndjolpaaGreatDoorWAct3
import Derived.Test.YtbemnfbndjolpaaGreatDoorWAct4
import Derived.Test.YtbemnfbndjolpaaGreatDoorPlain
import Derived.Test.YtbemnfbndjolpaaGreatDoorTakes
import Derived.Test.YtbemnfbndjolpaaGreatDoorRds
set_option linter.unusedSimpArgs false
set_option linter.unusedVariables false
set_option maxRecDepth 20000
namespace Go.Proofs.YtbemnfbndjolpaaGreatDoor
open Go.RowKit Moi
attribute [local go_sem] toList_str str_size less_ltB store_float
theorem hzWAct60 (w : World) : Cln w ((w.alloc (.cells #[.int .i64 0, .string ⟨#[]⟩, .int .i64 0, .float .f64 0, .string ⟨#[]⟩, .int .i64 0, .int .i64 0, .int .i64 0, .int .i64 0, .float .f64 0, .int .i64 0, .string ⟨#[]⟩, .slice none 0 0, .bool false] 64)).alloc (.cells #[.int .i64 0, .string ⟨#[]⟩, .int .i64 0, .float .f64 0, .string ⟨#[]⟩, .int .i64 0, .int .i64 0, .int .i64 0, .int .i64 0, .float .f64 0, .int .i64 0, .string ⟨#[]⟩, .slice none 0 0, .bool false] 64)) := by (repeat with_reducible first | exact cR _ | assumption | refine cA ?_ _ | refine cD ?_ | refine cN ?_ _ | refine cS ?_ (by first | omega | (simp <;> omega)) _)
def fill14 (wk : World) (g0 : Nat) (v0 v1 v2 v3 v4 v5 v6 v7 v8 v9 v10 v11 v12 v13 : Value) : World := ((((((((((((((wk.setCell ⟨g0, 0, none⟩ v0).setCell ⟨g0, 1, none⟩ v1).setCell ⟨g0, 2, none⟩ v2).setCell ⟨g0, 3, none⟩ v3).setCell ⟨g0, 4, none⟩ v4).setCell ⟨g0, 5, none⟩ v5).setCell ⟨g0, 6, none⟩ v6).setCell ⟨g0, 7, none⟩ v7).setCell ⟨g0, 8, none⟩ v8).setCell ⟨g0, 9, none⟩ v9).setCell ⟨g0, 10, none⟩ v10).setCell ⟨g0, 11, none⟩ v11).setCell ⟨g0, 12, none⟩ v12).setCell ⟨g0, 13, none⟩ v13)
theorem fill14_kept (wk : World) (g0 : Nat) (v0 v1 v2 v3 v4 v5 v6 v7 v8 v9 v10 v11 v12 v13 : Value) : Kept (· = g0) wk (fill14 wk g0 v0 v1 v2 v3 v4 v5 v6 v7 v8 v9 v10 v11 v12 v13) := by
 unfold fill14
 iterate 14 refine Kept.setCell (S := (· = g0)) ?_ (fun _ => rfl) _
 exact Kept.refl _ _
theorem Blk.store14 {w : World} {g : Nat} {t : TypeId} {a0 a1 a2 a3 a4 a5 a6 a7 a8 a9 a10 a11 a12 a13 v0 v1 v2 v3 v4 v5 v6 v7 v8 v9 v10 v11 v12 v13 : Value} (h : Blk w g t #[a0, a1, a2, a3, a4, a5, a6, a7, a8, a9, a10, a11, a12, a13]) : Blk (fill14 w g v0 v1 v2 v3 v4 v5 v6 v7 v8 v9 v10 v11 v12 v13) g t #[v0, v1, v2, v3, v4, v5, v6, v7, v8, v9, v10, v11, v12, v13] := by
 unfold fill14
 have h0 : Blk _ g t #[v0, a1, a2, a3, a4, a5, a6, a7, a8, a9, a10, a11, a12, a13] := h.set_ 0 v0
 have h1 : Blk _ g t #[v0, v1, a2, a3, a4, a5, a6, a7, a8, a9, a10, a11, a12, a13] := h0.set_ 1 v1
 have h2 : Blk _ g t #[v0, v1, v2, a3, a4, a5, a6, a7, a8, a9, a10, a11, a12, a13] := h1.set_ 2 v2
 have h3 : Blk _ g t #[v0, v1, v2, v3, a4, a5, a6, a7, a8, a9, a10, a11, a12, a13] := h2.set_ 3 v3
 have h4 : Blk _ g t #[v0, v1, v2, v3, v4, a5, a6, a7, a8, a9, a10, a11, a12, a13] := h3.set_ 4 v4
 have h5 : Blk _ g t #[v0, v1, v2, v3, v4, v5, a6, a7, a8, a9, a10, a11, a12, a13] := h4.set_ 5 v5
 have h6 : Blk _ g t #[v0, v1, v2, v3, v4, v5, v6, a7, a8, a9, a10, a11, a12, a13] := h5.set_ 6 v6
 have h7 : Blk _ g t #[v0, v1, v2, v3, v4, v5, v6, v7, a8, a9, a10, a11, a12, a13] := h6.set_ 7 v7
 have h8 : Blk _ g t #[v0, v1, v2, v3, v4, v5, v6, v7, v8, a9, a10, a11, a12, a13] := h7.set_ 8 v8
 have h9 : Blk _ g t #[v0, v1, v2, v3, v4, v5, v6, v7, v8, v9, a10, a11, a12, a13] := h8.set_ 9 v9
 have h10 : Blk _ g t #[v0, v1, v2, v3, v4, v5, v6, v7, v8, v9, v10, a11, a12, a13] := h9.set_ 10 v10
 have h11 : Blk _ g t #[v0, v1, v2, v3, v4, v5, v6, v7, v8, v9, v10, v11, a12, a13] := h10.set_ 11 v11
 have h12 : Blk _ g t #[v0, v1, v2, v3, v4, v5, v6, v7, v8, v9, v10, v11, v12, a13] := h11.set_ 12 v12
 have h13 : Blk _ g t #[v0, v1, v2, v3, v4, v5, v6, v7, v8, v9, v10, v11, v12, v13] := h12.set_ 13 v13
 exact h13
theorem size_act : (Tryz.prog.info? 64).map (·.size) = some 14 := by kernel_rfl
def encAct (base : Nat) (a : MAct) (v : Value) (w : World) : Prop :=
 ∃ A n c, v = actVal a A n c ∧ RdItems w A n a.make.list ∧ (∀ ad, A = some ad → base ≤ ad.block) ∧ a.WF ∧ n ≤ 32
theorem kinds_ne {w : World} (hK : KindsAt w) {p : Nat} {t : TypeId} {A : Option Addr} {n c : Nat} {rest : List Value} (hb : Blk w p t (#[.slice A n c] ++ rest.toArray)) : 1 ≠ p := by
 rintro rfl
 have h1 := (hK 0 (by decide)).1
 have h2 := hb.cell 0
 rw [h1] at h2
 simp at h2
structure ATk (w0 : World) (p : Nat) (A : Option Addr) (n c : Nat) (bs : List UInt8) (g2 : Nat) (cs1 cs2 : Array Value) (wk : World) (a : Nat) : Prop where
 R : IsR wk p A n c bs a
 K : Kept (· = p) w0 wk
 b0 : Blk wk w0.heap.size 64 #[.int .i64 0, .string ⟨#[]⟩, .int .i64 0, .float .f64 0, .string ⟨#[]⟩, .int .i64 0, .int .i64 0, .int .i64 0, .int .i64 0, .float .f64 0, .int .i64 0, .string ⟨#[]⟩, .slice none 0 0, .bool false]
 b1 : Blk wk (w0.heap.size + 1) 64 cs1
 b2 : Blk wk g2 161 cs2
 Bp : p < w0.heap.size
 BA : ∀ ad, A = some ad → ad.block < w0.heap.size
 G2 : w0.heap.size + 2 ≤ g2
 kd : KindsAt wk
 Kl : 1 < w0.heap.size
section
variable {w0 : World} {p : Nat} {A : Option Addr} {n c : Nat} {bs : List UInt8} {g2 : Nat} {cs1 cs2 : Array Value} {wk w' : World} {a a' : Nat}
theorem ATk.step (h : ATk w0 p A n c bs g2 cs1 cs2 wk a) (hr : IsR w' p A n c bs a') (hk : Kept (· = p) wk w') : ATk w0 p A n c bs g2 cs1 cs2 w' a' :=
 ⟨hr, h.K.trans hk, h.b0.kept hk (fun e => by have := h.Bp; omega), h.b1.kept hk (fun e => by have := h.Bp; omega), h.b2.kept hk (fun e => by have := h.Bp; have := h.G2; omega), h.Bp, h.BA, h.G2, h.kd.kept hk (kinds_ne (rest := [.int .i64 (a : Nat)]) h.kd h.R.blk), h.Kl⟩
theorem ATk.cln (h : ATk w0 p A n c bs g2 cs1 cs2 wk a) (hk : Cln wk w') : ATk w0 p A n c bs g2 cs1 cs2 w' a := h.step (h.R.cln hk) (Kept.of_below hk)
theorem ATk.store {cs1' : Array Value} (h : ATk w0 p A n c bs g2 cs1 cs2 wk a) (i : Nat) (v : Value) (hc : cs1.setIfInBounds i v = cs1') : ATk w0 p A n c bs g2 cs1' cs2 (wk.setCell ⟨w0.heap.size + 1, i, none⟩ v) a := by
 subst hc
 have h1 := h.Bp; have h2 := h.G2
 exact ⟨h.R.other (q := ⟨w0.heap.size + 1, i, none⟩) (by dsimp only; omega) (fun ad e => by have := h.BA ad e; dsimp only; omega) v, h.K.setCell (fun hlt => by exfalso; dsimp only at hlt; omega) v,
  h.b0.far (by dsimp only; omega) v, h.b1.set_ i v, h.b2.far (by dsimp only; omega) v, h.Bp, h.BA, h.G2, h.kd.kept (keptSet wk (w0.heap.size + 1) i v) (by have := h.Kl; omega), h.Kl⟩
end
theorem zeroRec_wf_ : zeroRec.WF := ⟨z64, z64, z64, z64, zF, z64⟩
theorem checkAct_le (a : MAct) : checkAct a ≤ 8 := by
 unfold checkAct; repeat' split
 all_goals first | omega | exact checkRec_le ..
set_option maxHeartbeats 4000000 in
theorem atake_none (p : Nat) (A : Option Addr) (n c : Nat) (bs : List UInt8) (a : Nat) (w : World) (hr : IsR w p A n c bs a) (hA : ∀ ad, A = some ad → ad.block < w.heap.size) (hK : KindsAt w)
  (k a1 : Nat) (hk : rUpto 21 bs a = .ok (k, a1)) (hk1 : 1 ≤ k ∧ k ≤ 21) (hN : hasF (k : Int) 110 = false) (hX : hasF (k : Int) 120 = false) (hS : hasF (k : Int) 115 = false) (hM : hasF (k : Int) 109 = false) :
  Calls Tryz.prog 76 #[.pointer (some ⟨p, 0, none⟩)] w (RPost (encAct w.heap.size) w p A n c bs (rAct bs a)) := by
 have hspec1 : Hid (rAct bs a = aMust k bs a1) := by unfold Hid rAct; simp only [hk]; rw [if_neg (by omega)]
 have hk0 : ((k : Int) == 0) = false := by rw [beq_eq_false_iff_ne]; omega
 have hkW : Hid (-9223372036854775808 ≤ (k : Int) ∧ (k : Int) < 9223372036854775808) := ⟨by omega, by omega⟩
 have hmo : mostOf (k : Int) < 1000 := by unfold mostOf; split <;> omega
 have hk' := Lib.hid hk
 clear hk hk1
 have hpl := hr.blk.lt
 have f110 : ∀ W, Calls Tryz.prog 100 #[.agg #[.string (str (wordOf (k : Int))), .int .i64 (onOf (k : Int) : Nat), .string (str (kindFs (k : Int)))], .int .u8 110] W fun e w' => e = .returned (.bool false) ∧ Cln W w' := fun W => hN ▸ field_any k 110 W
 have f120 : ∀ W, Calls Tryz.prog 100 #[.agg #[.string (str (wordOf (k : Int))), .int .i64 (onOf (k : Int) : Nat), .string (str (kindFs (k : Int)))], .int .u8 120] W fun e w' => e = .returned (.bool false) ∧ Cln W w' := fun W => hX ▸ field_any k 120 W
 have f115 : ∀ W, Calls Tryz.prog 100 #[.agg #[.string (str (wordOf (k : Int))), .int .i64 (onOf (k : Int) : Nat), .string (str (kindFs (k : Int)))], .int .u8 115] W fun e w' => e = .returned (.bool false) ∧ Cln W w' := fun W => hS ▸ field_any k 115 W
 have f109 : ∀ W, Calls Tryz.prog 100 #[.agg #[.string (str (wordOf (k : Int))), .int .i64 (onOf (k : Int) : Nat), .string (str (kindFs (k : Int)))], .int .u8 109] W fun e w' => e = .returned (.bool false) ∧ Cln W w' := fun W => hM ▸ field_any k 109 W
 have f0 : ∀ W, KindsAt W → Calls Tryz.prog 97 #[.int .i64 (k : Int)] W fun e w' => e = .returned (.agg #[.string (str (wordOf (k : Int))), .int .i64 (onOf (k : Int) : Nat), .string (str (kindFs (k : Int)))]) ∧ Cln W w' := fun W h => of_any (k : Int) W h
 have fm : ∀ W, Calls Tryz.prog 103 #[.agg #[.string (str (wordOf (k : Int))), .int .i64 (onOf (k : Int) : Nat), .string (str (kindFs (k : Int)))]] W fun e w' => e = .returned (.int .i64 (mostOf (k : Int) : Nat)) ∧ Cln W w' := fun W => most_any (k : Int) W
 replace hN := Lib.hid hN; replace hX := Lib.hid hX; replace hS := Lib.hid hS; replace hM := Lib.hid hM
 generalize wordOf (k : Int) = wd at f0 f110 f120 f115 f109 fm
 generalize onOf (k : Int) = on at f0 f110 f120 f115 f109 fm
 generalize kindFs (k : Int) = fl at f0 f110 f120 f115 f109 fm
 have hKl := hK.lt
 have hcl0 := hzWAct60 w
 have hb0 := (Blk.new w 64 #[.int .i64 0, .string ⟨#[]⟩, .int .i64 0, .float .f64 0, .string ⟨#[]⟩, .int .i64 0, .int .i64 0, .int .i64 0, .int .i64 0, .float .f64 0, .int .i64 0, .string ⟨#[]⟩, .slice none 0 0, .bool false]).alloc (.cells #[.int .i64 0, .string ⟨#[]⟩, .int .i64 0, .float .f64 0, .string ⟨#[]⟩, .int .i64 0, .int .i64 0, .int .i64 0, .int .i64 0, .float .f64 0, .int .i64 0, .string ⟨#[]⟩, .slice none 0 0, .bool false] 64)
 have hb1 := Blk.new (w.alloc (.cells #[.int .i64 0, .string ⟨#[]⟩, .int .i64 0, .float .f64 0, .string ⟨#[]⟩, .int .i64 0, .int .i64 0, .int .i64 0, .int .i64 0, .float .f64 0, .int .i64 0, .string ⟨#[]⟩, .slice none 0 0, .bool false] 64)) 64 #[.int .i64 0, .string ⟨#[]⟩, .int .i64 0, .float .f64 0, .string ⟨#[]⟩, .int .i64 0, .int .i64 0, .int .i64 0, .int .i64 0, .float .f64 0, .int .i64 0, .string ⟨#[]⟩, .slice none 0 0, .bool false]
 rw [World.size_alloc] at hb1
 go_enter Tryz.func76, Tryz.ntmps76
 go_wp2_with fail
 refine (upto_any p A n c bs a 21 (by omega) _ (hr.cln hcl0)).mono ?_
 intro e w1 h
 rcases h.cases with ⟨x, a2, v, hres, rfl, hv, hr2, hk2⟩ | ⟨f, hres, rfl, hk2⟩
 case inr => rw [hk'.out] at hres; cases hres
 rw [hk'.out] at hres
 injection hres with hres; injection hres with e1 e2; subst e1; subst e2
 have hv' : v = .int .i64 (k : Nat) := hv
 subst hv'
 clear hv h
 have hb0' := hb0.kept hk2 (show ¬ w.heap.size = p by omega)
 have hb1' := hb1.kept hk2 (show ¬ w.heap.size + 1 = p by omega)
 have hK1 := (Kept.of_below (S := (· = p)) hcl0).trans hk2
 have hKd := ((hK.cln hcl0).kept hk2 (kinds_ne (rest := [.int .i64 (a : Nat)]) hK hr.blk)).kept (keptSet w1 (w.heap.size + 1) 0 (.int .i64 (k : Int))) (show ¬ 1 = w.heap.size + 1 by omega)
 have hR1 := hr2.other (q := ⟨w.heap.size + 1, 0, none⟩) (by dsimp only; omega) (fun ad e => by have := hA ad e; dsimp only; omega) (.int .i64 (k : Int))
 have hb1s : Blk _ (w.heap.size + 1) 64 #[.int .i64 (k : Int), .string ⟨#[]⟩, .int .i64 0, .float .f64 0, .string ⟨#[]⟩, .int .i64 0, .int .i64 0, .int .i64 0, .int .i64 0, .float .f64 0, .int .i64 0, .string ⟨#[]⟩, .slice none 0 0, .bool false] := hb1'.set_ 0 (.int .i64 (k : Int))
 have hb0s := Lib.hid (hb0'.far (p := ⟨w.heap.size + 1, 0, none⟩) (by dsimp only; omega) (.int .i64 (k : Int)))
 have hKs := Lib.hid (hK1.setCell (p := ⟨w.heap.size + 1, 0, none⟩) (fun hl => by exfalso; dsimp only at hl; omega) (.int .i64 (k : Int)))
 have c1 := hb1'.cell 0; have f1 := hb1'.frozen 0; have l1 := hb1'.lt
 replace hR1 := Lib.hid hR1; replace hKd := Lib.hid hKd; replace hb1s := Lib.hid hb1s
 have hAo := Lib.hid hA
 clear hb0 hb1 hcl0 hr2 hk2 hb0' hb1' hK1 hK hA hr
 go_wp2_with fail
 refine (f0 _ hKd.out).mono ?_; rintro e w2 ⟨rfl, hq⟩
 have hsz2 : w.heap.size + 2 ≤ w2.heap.size := by have h1 := (hb1s.out.cln hq).lt; omega
 have hx2 : Cln _ (w2.alloc (.cells #[.string (str wd), .int .i64 (on : Nat), .string (str fl)] 161)) := cln_trans hq ((Below.refl _ _).alloc (Nat.le_refl _) _)
 have st0 : ATk w p A n c bs w2.heap.size #[.int .i64 (k : Int), .string ⟨#[]⟩, .int .i64 0, .float .f64 0, .string ⟨#[]⟩, .int .i64 0, .int .i64 0, .int .i64 0, .int .i64 0, .float .f64 0, .int .i64 0, .string ⟨#[]⟩, .slice none 0 0, .bool false] #[.string (str wd), .int .i64 (on : Nat), .string (str fl)] (w2.alloc (.cells #[.string (str wd), .int .i64 (on : Nat), .string (str fl)] 161)) a1 :=
  ⟨hR1.out.cln hx2, hKs.out.below_ hx2, hb0s.out.cln hx2, hb1s.out.cln hx2, Blk.new w2 _ _, hpl, hAo.out, hsz2, hKd.out.cln hx2, hKl⟩
 clear hq hx2 c1 f1 l1 hR1 hKs hb0s hb1s hKd f0
 have hne21 : ¬ w2.heap.size = w.heap.size + 1 := by omega
 have hne12 : ¬ w.heap.size + 1 = w2.heap.size := by omega
 have hc0 := st0.b1.cell; have hf0 := st0.b1.frozen; have hl0 := st0.b1.lt; have hs0 := st0.b2.cell; have hm0 := st0.b2.lt
 go_wp2_with fail
 refine (flag_any p A n c bs a1 _ st0.R).mono ?_
 intro e w' h
 rcases h.cases with ⟨must, b1, v, hres, rfl, hv, hr2, hk2⟩ | ⟨f, hres, rfl, hk2⟩
 case inr =>
  have hI : Hid (rAct bs a = .error f) := by unfold Hid; rw [hspec1.out]; unfold aMust; simp only [if_true, hres]
  clear hres h
  go_wp2_with fail
  refine ⟨rfl, ?_⟩
  rw [hI.out]
  exact ⟨rfl, st0.K.trans hk2⟩
 have hv' : v = .bool must := hv
 subst hv'
 have hspec2 : Hid (rAct bs a = aKey k must bs b1) := by unfold Hid; rw [hspec1.out]; unfold aMust; simp only [if_true, hres]
 have stm1 := st0.step hr2 hk2
 clear h hv hr2 hk2 hc0 hf0 hl0 hs0 hm0 st0
 replace hres := Lib.hid hres
 have hc1 := stm1.b1.cell; have hf1 := stm1.b1.frozen; have hl1 := stm1.b1.lt; have hs1 := stm1.b2.cell; have hm1 := stm1.b2.lt
 have st1 := stm1.store (cs1' := #[.int .i64 (k : Int), .string ⟨#[]⟩, .int .i64 0, .float .f64 0, .string ⟨#[]⟩, .int .i64 0, .int .i64 0, .int .i64 0, .int .i64 0, .float .f64 0, .int .i64 0, .string ⟨#[]⟩, .slice none 0 0, .bool must]) 13 (.bool must) rfl
 clear stm1
 go_wp2_with fail
 refine (s_any p A n c bs b1 24 (by omega) _ st1.R).mono ?_
 intro e w' h
 rcases h.cases with ⟨key, b2, v, hres, rfl, hv, hr2, hk2⟩ | ⟨f, hres, rfl, hk2⟩
 case inr =>
  have hI : Hid (rAct bs a = .error f) := by unfold Hid; rw [hspec2.out]; unfold aKey; simp only [if_true, hres]
  clear hres h
  go_wp2_with fail
  refine ⟨rfl, ?_⟩
  rw [hI.out]
  exact ⟨rfl, st1.K.trans hk2⟩
 have hv' : v = .string (str key) := hv
 subst hv'
 have hspec3 : Hid (rAct bs a = aN k must key bs b2) := by unfold Hid; rw [hspec2.out]; unfold aKey; simp only [if_true, hres]
 have stm2 := st1.step hr2 hk2
 clear h hv hr2 hk2 hc1 hf1 hl1 hs1 hm1 st1
 replace hres := Lib.hid hres
 have hc2 := stm2.b1.cell; have hf2 := stm2.b1.frozen; have hl2 := stm2.b1.lt; have hs2 := stm2.b2.cell; have hm2 := stm2.b2.lt
 have st2 := stm2.store (cs1' := #[.int .i64 (k : Int), .string (str key), .int .i64 0, .float .f64 0, .string ⟨#[]⟩, .int .i64 0, .int .i64 0, .int .i64 0, .int .i64 0, .float .f64 0, .int .i64 0, .string ⟨#[]⟩, .slice none 0 0, .bool must]) 1 (.string (str key)) rfl
 clear stm2
 go_wp2_with fail
 refine (f110 _).mono ?_; rintro e w' ⟨rfl, hq⟩
 have st3 := st2.cln hq
 clear hq hc2 hf2 hl2 hs2 hm2 st2
 have hc3 := st3.b1.cell; have hf3 := st3.b1.frozen; have hl3 := st3.b1.lt; have hs3 := st3.b2.cell; have hm3 := st3.b2.lt
 have hspec4 : Hid (rAct bs a = aX k must key 0 bs b2) := by unfold Hid; rw [hspec3.out]; unfold aN; rw [hN.out]; rfl
 go_wp2_with fail
 refine (f120 _).mono ?_; rintro e w' ⟨rfl, hq⟩
 have st4 := st3.cln hq
 clear hq hc3 hf3 hl3 hs3 hm3 st3
 have hc4 := st4.b1.cell; have hf4 := st4.b1.frozen; have hl4 := st4.b1.lt; have hs4 := st4.b2.cell; have hm4 := st4.b2.lt
 have hspec5 : Hid (rAct bs a = aS k must key 0 0 bs b2) := by unfold Hid; rw [hspec4.out]; unfold aX; rw [hX.out]; rfl
 go_wp2_with fail
 refine (f115 _).mono ?_; rintro e w' ⟨rfl, hq⟩
 have st5 := st4.cln hq
 clear hq hc4 hf4 hl4 hs4 hm4 st4
 have hc5 := st5.b1.cell; have hf5 := st5.b1.frozen; have hl5 := st5.b1.lt; have hs5 := st5.b2.cell; have hm5 := st5.b2.lt
 have hspec6 : Hid (rAct bs a = aM k must key 0 0 [] bs b2) := by unfold Hid; rw [hspec5.out]; unfold aS; rw [hS.out]; rfl
 go_wp2_with fail
 refine (f109 _).mono ?_; rintro e w' ⟨rfl, hq⟩
 have st6 := st5.cln hq
 clear hq hc5 hf5 hl5 hs5 hm5 st5
 have hc6 := st6.b1.cell; have hf6 := st6.b1.frozen; have hl6 := st6.b1.lt; have hs6 := st6.b2.cell; have hm6 := st6.b2.lt
 have hspec7 : Hid (rAct bs a = aDone ⟨(k : Int), key, 0, 0, [], zeroRec, must⟩ b2) := by unfold Hid; rw [hspec6.out]; unfold aM; rw [hM.out]; rfl
 have hL9 : Hid (∀ W : World, RdItems W none 0 zeroRec.list) := fun W => RdItems.none_ W
 have hge' : Hid (∀ ad, (none : Option Addr) = some ad → w.heap.size + 2 ≤ ad.block) := fun ad e => by cases e
 have hwfA : Hid ((⟨(k : Int), key, 0, 0, [], zeroRec, must⟩ : MAct).WF) := ⟨hkW.out, z64, zF, zeroRec_wf_⟩
 have hdone : Hid (rAct bs a = aDone ⟨(k : Int), key, 0, 0, [], zeroRec, must⟩ b2) := hspec7
 clear f110 f120 f115 f109 fm
 go_wp2_with fail
 have cC := acheck_any ⟨(k : Int), key, 0, 0, [], zeroRec, must⟩ none 0 0 (by omega) hwfA.out _ st6.kd (hL9.out _)
 unfold actVal at cC
 refine cC.mono ?_; rintro e w9 ⟨rfl, hq⟩
 clear cC
 have stF := st6.cln hq
 have hLF : Hid (RdItems w9 none 0 zeroRec.list) := hL9.out _
 have hle9 : checkAct ⟨(k : Int), key, 0, 0, [], zeroRec, must⟩ ≤ 8 := checkAct_le _
 clear hq hc6 hf6 hl6 hs6 hm6 st6 hL9
 generalize hC : checkAct ⟨(k : Int), key, 0, 0, [], zeroRec, must⟩ = ck at hle9 ⊢
 replace hC := Lib.hid hC
 have hc9 := stF.b1.cell; have hf9 := stF.b1.frozen; have hl9 := stF.b1.lt; have hm9 := stF.b0.frozen; have hl0 := stF.b0.lt; have hc0 := stF.b0.cell
 have hn01 : ¬ w.heap.size = w.heap.size + 1 := by omega
 by_cases hz : ck = 0
 ·subst hz
  have hspF : Hid (rAct bs a = .ok (⟨(k : Int), key, 0, 0, [], zeroRec, must⟩, b2)) := by unfold Hid; rw [hdone.out]; unfold aDone; rw [if_pos hC.out]
  have hfin := Lib.hid (Blk.store14 stF.b0 (v0 := .int .i64 (k : Int)) (v1 := .string (str key)) (v2 := .int .i64 0) (v3 := .float .f64 0) (v4 := .string ⟨#[]⟩) (v5 := .int .i64 0) (v6 := .int .i64 0) (v7 := .int .i64 0) (v8 := .int .i64 0) (v9 := .float .f64 0) (v10 := .int .i64 0) (v11 := .string ⟨#[]⟩) (v12 := .slice none 0 0) (v13 := .bool must))
  have hfk := fill14_kept w9 w.heap.size (.int .i64 (k : Int)) (.string (str key)) (.int .i64 0) (.float .f64 0) (.string ⟨#[]⟩) (.int .i64 0) (.int .i64 0) (.int .i64 0) (.int .i64 0) (.float .f64 0) (.int .i64 0) (.string ⟨#[]⟩) (.slice none 0 0) (.bool must)
  have hRR := Lib.hid (stF.R.kept hfk (fun e => by have := stF.Bp; omega) (fun ad e => by have := stF.BA ad e; omega))
  have hKK := Lib.hid (stF.K.then_ hfk (fun i hi h2 => by exfalso; omega))
  have hLL := Lib.hid (hLF.out.kept hfk (fun ad e _ => by have := hge'.out ad e; omega))
  clear hfk stF hLF
  go_wp2_with fail
  refine bodyPost_ret (v := .agg #[.int .i64 (k : Int), .string (str key), .int .i64 0, .float .f64 0, .string ⟨#[]⟩, .int .i64 0, .int .i64 0, .int .i64 0, .int .i64 0, .float .f64 0, .int .i64 0, .string ⟨#[]⟩, .slice none 0 0, .bool must]) ?_ rfl ?_
  ·exact results_cell_row Tryz.results76 _ _ w.heap.size 64 #[.int .i64 (k : Int), .string (str key), .int .i64 0, .float .f64 0, .string ⟨#[]⟩, .int .i64 0, .int .i64 0, .int .i64 0, .int .i64 0, .float .f64 0, .int .i64 0, .string ⟨#[]⟩, .slice none 0 0, .bool must] (0, 0) _ rfl hfin.out Tryz.underlying64 rfl size_act
  ·rw [hspF.out]
   exact ⟨_, rfl, ⟨none, 0, 0, rfl, hLL.out, (fun ad e => by have := hge'.out ad e; omega), hwfA.out, by omega⟩, hRR.out, hKK.out⟩
 ·have hz1 : (((ck : Nat) : Int) == 0) = false := by rw [beq_eq_false_iff_ne]; omega
  have hz3 : (((ck : Nat) : Int) != 0) = true := by rw [bne_iff_ne]; omega
  have hspF : Hid (rAct bs a = .error (ck, b2)) := by unfold Hid; rw [hdone.out]; unfold aDone; rw [if_neg (by rw [hC.out]; exact hz), hC.out]
  go_wp2_with fail
  refine (Fail_any p A n c bs b2 ck _ stF.R).mono ?_
  rintro e w5 ⟨rfl, rfl⟩
  go_wp2_with fail
  refine ⟨rfl, ?_⟩
  rw [hspF.out]
  exact ⟨rfl, stF.K⟩

set_option maxHeartbeats 4000000 in
theorem atake_make (p : Nat) (A : Option Addr) (n c : Nat) (bs : List UInt8) (a : Nat) (w : World) (hr : IsR w p A n c bs a) (hA : ∀ ad, A = some ad → ad.block < w.heap.size) (hK : KindsAt w)
  (k a1 : Nat) (hk : rUpto 21 bs a = .ok (k, a1)) (hk1 : 1 ≤ k ∧ k ≤ 21) (hN : hasF (k : Int) 110 = false) (hX : hasF (k : Int) 120 = false) (hS : hasF (k : Int) 115 = false) (hM : hasF (k : Int) 109 = true) :
  Calls Tryz.prog 76 #[.pointer (some ⟨p, 0, none⟩)] w (RPost (encAct w.heap.size) w p A n c bs (rAct bs a)) := by
 have hspec1 : Hid (rAct bs a = aMust k bs a1) := by unfold Hid rAct; simp only [hk]; rw [if_neg (by omega)]
 have hk0 : ((k : Int) == 0) = false := by rw [beq_eq_false_iff_ne]; omega
 have hkW : Hid (-9223372036854775808 ≤ (k : Int) ∧ (k : Int) < 9223372036854775808) := ⟨by omega, by omega⟩
 have hmo : mostOf (k : Int) < 1000 := by unfold mostOf; split <;> omega
 have hk' := Lib.hid hk
 clear hk hk1
 have hpl := hr.blk.lt
 have f110 : ∀ W, Calls Tryz.prog 100 #[.agg #[.string (str (wordOf (k : Int))), .int .i64 (onOf (k : Int) : Nat), .string (str (kindFs (k : Int)))], .int .u8 110] W fun e w' => e = .returned (.bool false) ∧ Cln W w' := fun W => hN ▸ field_any k 110 W
 have f120 : ∀ W, Calls Tryz.prog 100 #[.agg #[.string (str (wordOf (k : Int))), .int .i64 (onOf (k : Int) : Nat), .string (str (kindFs (k : Int)))], .int .u8 120] W fun e w' => e = .returned (.bool false) ∧ Cln W w' := fun W => hX ▸ field_any k 120 W
 have f115 : ∀ W, Calls Tryz.prog 100 #[.agg #[.string (str (wordOf (k : Int))), .int .i64 (onOf (k : Int) : Nat), .string (str (kindFs (k : Int)))], .int .u8 115] W fun e w' => e = .returned (.bool false) ∧ Cln W w' := fun W => hS ▸ field_any k 115 W
 have f109 : ∀ W, Calls Tryz.prog 100 #[.agg #[.string (str (wordOf (k : Int))), .int .i64 (onOf (k : Int) : Nat), .string (str (kindFs (k : Int)))], .int .u8 109] W fun e w' => e = .returned (.bool true) ∧ Cln W w' := fun W => hM ▸ field_any k 109 W
 have f0 : ∀ W, KindsAt W → Calls Tryz.prog 97 #[.int .i64 (k : Int)] W fun e w' => e = .returned (.agg #[.string (str (wordOf (k : Int))), .int .i64 (onOf (k : Int) : Nat), .string (str (kindFs (k : Int)))]) ∧ Cln W w' := fun W h => of_any (k : Int) W h
 have fm : ∀ W, Calls Tryz.prog 103 #[.agg #[.string (str (wordOf (k : Int))), .int .i64 (onOf (k : Int) : Nat), .string (str (kindFs (k : Int)))]] W fun e w' => e = .returned (.int .i64 (mostOf (k : Int) : Nat)) ∧ Cln W w' := fun W => most_any (k : Int) W
 replace hN := Lib.hid hN; replace hX := Lib.hid hX; replace hS := Lib.hid hS; replace hM := Lib.hid hM
 generalize wordOf (k : Int) = wd at f0 f110 f120 f115 f109 fm
 generalize onOf (k : Int) = on at f0 f110 f120 f115 f109 fm
 generalize kindFs (k : Int) = fl at f0 f110 f120 f115 f109 fm
 have hKl := hK.lt
 have hcl0 := hzWAct60 w
 have hb0 := (Blk.new w 64 #[.int .i64 0, .string ⟨#[]⟩, .int .i64 0, .float .f64 0, .string ⟨#[]⟩, .int .i64 0, .int .i64 0, .int .i64 0, .int .i64 0, .float .f64 0, .int .i64 0, .string ⟨#[]⟩, .slice none 0 0, .bool false]).alloc (.cells #[.int .i64 0, .string ⟨#[]⟩, .int .i64 0, .float .f64 0, .string ⟨#[]⟩, .int .i64 0, .int .i64 0, .int .i64 0, .int .i64 0, .float .f64 0, .int .i64 0, .string ⟨#[]⟩, .slice none 0 0, .bool false] 64)
 have hb1 := Blk.new (w.alloc (.cells #[.int .i64 0, .string ⟨#[]⟩, .int .i64 0, .float .f64 0, .string ⟨#[]⟩, .int .i64 0, .int .i64 0, .int .i64 0, .int .i64 0, .float .f64 0, .int .i64 0, .string ⟨#[]⟩, .slice none 0 0, .bool false] 64)) 64 #[.int .i64 0, .string ⟨#[]⟩, .int .i64 0, .float .f64 0, .string ⟨#[]⟩, .int .i64 0, .int .i64 0, .int .i64 0, .int .i64 0, .float .f64 0, .int .i64 0, .string ⟨#[]⟩, .slice none 0 0, .bool false]
 rw [World.size_alloc] at hb1
 go_enter Tryz.func76, Tryz.ntmps76
 go_wp2_with fail
 refine (upto_any p A n c bs a 21 (by omega) _ (hr.cln hcl0)).mono ?_
 intro e w1 h
 rcases h.cases with ⟨x, a2, v, hres, rfl, hv, hr2, hk2⟩ | ⟨f, hres, rfl, hk2⟩
 case inr => rw [hk'.out] at hres; cases hres
 rw [hk'.out] at hres
 injection hres with hres; injection hres with e1 e2; subst e1; subst e2
 have hv' : v = .int .i64 (k : Nat) := hv
 subst hv'
 clear hv h
 have hb0' := hb0.kept hk2 (show ¬ w.heap.size = p by omega)
 have hb1' := hb1.kept hk2 (show ¬ w.heap.size + 1 = p by omega)
 have hK1 := (Kept.of_below (S := (· = p)) hcl0).trans hk2
 have hKd := ((hK.cln hcl0).kept hk2 (kinds_ne (rest := [.int .i64 (a : Nat)]) hK hr.blk)).kept (keptSet w1 (w.heap.size + 1) 0 (.int .i64 (k : Int))) (show ¬ 1 = w.heap.size + 1 by omega)
 have hR1 := hr2.other (q := ⟨w.heap.size + 1, 0, none⟩) (by dsimp only; omega) (fun ad e => by have := hA ad e; dsimp only; omega) (.int .i64 (k : Int))
 have hb1s : Blk _ (w.heap.size + 1) 64 #[.int .i64 (k : Int), .string ⟨#[]⟩, .int .i64 0, .float .f64 0, .string ⟨#[]⟩, .int .i64 0, .int .i64 0, .int .i64 0, .int .i64 0, .float .f64 0, .int .i64 0, .string ⟨#[]⟩, .slice none 0 0, .bool false] := hb1'.set_ 0 (.int .i64 (k : Int))
 have hb0s := Lib.hid (hb0'.far (p := ⟨w.heap.size + 1, 0, none⟩) (by dsimp only; omega) (.int .i64 (k : Int)))
 have hKs := Lib.hid (hK1.setCell (p := ⟨w.heap.size + 1, 0, none⟩) (fun hl => by exfalso; dsimp only at hl; omega) (.int .i64 (k : Int)))
 have c1 := hb1'.cell 0; have f1 := hb1'.frozen 0; have l1 := hb1'.lt
 replace hR1 := Lib.hid hR1; replace hKd := Lib.hid hKd; replace hb1s := Lib.hid hb1s
 have hAo := Lib.hid hA
 clear hb0 hb1 hcl0 hr2 hk2 hb0' hb1' hK1 hK hA hr
 go_wp2_with fail
 refine (f0 _ hKd.out).mono ?_; rintro e w2 ⟨rfl, hq⟩
 have hsz2 : w.heap.size + 2 ≤ w2.heap.size := by have h1 := (hb1s.out.cln hq).lt; omega
 have hx2 : Cln _ (w2.alloc (.cells #[.string (str wd), .int .i64 (on : Nat), .string (str fl)] 161)) := cln_trans hq ((Below.refl _ _).alloc (Nat.le_refl _) _)
 have st0 : ATk w p A n c bs w2.heap.size #[.int .i64 (k : Int), .string ⟨#[]⟩, .int .i64 0, .float .f64 0, .string ⟨#[]⟩, .int .i64 0, .int .i64 0, .int .i64 0, .int .i64 0, .float .f64 0, .int .i64 0, .string ⟨#[]⟩, .slice none 0 0, .bool false] #[.string (str wd), .int .i64 (on : Nat), .string (str fl)] (w2.alloc (.cells #[.string (str wd), .int .i64 (on : Nat), .string (str fl)] 161)) a1 :=
  ⟨hR1.out.cln hx2, hKs.out.below_ hx2, hb0s.out.cln hx2, hb1s.out.cln hx2, Blk.new w2 _ _, hpl, hAo.out, hsz2, hKd.out.cln hx2, hKl⟩
 clear hq hx2 c1 f1 l1 hR1 hKs hb0s hb1s hKd f0
 have hne21 : ¬ w2.heap.size = w.heap.size + 1 := by omega
 have hne12 : ¬ w.heap.size + 1 = w2.heap.size := by omega
 have hc0 := st0.b1.cell; have hf0 := st0.b1.frozen; have hl0 := st0.b1.lt; have hs0 := st0.b2.cell; have hm0 := st0.b2.lt
 go_wp2_with fail
 refine (flag_any p A n c bs a1 _ st0.R).mono ?_
 intro e w' h
 rcases h.cases with ⟨must, b1, v, hres, rfl, hv, hr2, hk2⟩ | ⟨f, hres, rfl, hk2⟩
 case inr =>
  have hI : Hid (rAct bs a = .error f) := by unfold Hid; rw [hspec1.out]; unfold aMust; simp only [if_true, hres]
  clear hres h
  go_wp2_with fail
  refine ⟨rfl, ?_⟩
  rw [hI.out]
  exact ⟨rfl, st0.K.trans hk2⟩
 have hv' : v = .bool must := hv
 subst hv'
 have hspec2 : Hid (rAct bs a = aKey k must bs b1) := by unfold Hid; rw [hspec1.out]; unfold aMust; simp only [if_true, hres]
 have stm1 := st0.step hr2 hk2
 clear h hv hr2 hk2 hc0 hf0 hl0 hs0 hm0 st0
 replace hres := Lib.hid hres
 have hc1 := stm1.b1.cell; have hf1 := stm1.b1.frozen; have hl1 := stm1.b1.lt; have hs1 := stm1.b2.cell; have hm1 := stm1.b2.lt
 have st1 := stm1.store (cs1' := #[.int .i64 (k : Int), .string ⟨#[]⟩, .int .i64 0, .float .f64 0, .string ⟨#[]⟩, .int .i64 0, .int .i64 0, .int .i64 0, .int .i64 0, .float .f64 0, .int .i64 0, .string ⟨#[]⟩, .slice none 0 0, .bool must]) 13 (.bool must) rfl
 clear stm1
 go_wp2_with fail
 refine (s_any p A n c bs b1 24 (by omega) _ st1.R).mono ?_
 intro e w' h
 rcases h.cases with ⟨key, b2, v, hres, rfl, hv, hr2, hk2⟩ | ⟨f, hres, rfl, hk2⟩
 case inr =>
  have hI : Hid (rAct bs a = .error f) := by unfold Hid; rw [hspec2.out]; unfold aKey; simp only [if_true, hres]
  clear hres h
  go_wp2_with fail
  refine ⟨rfl, ?_⟩
  rw [hI.out]
  exact ⟨rfl, st1.K.trans hk2⟩
 have hv' : v = .string (str key) := hv
 subst hv'
 have hspec3 : Hid (rAct bs a = aN k must key bs b2) := by unfold Hid; rw [hspec2.out]; unfold aKey; simp only [if_true, hres]
 have stm2 := st1.step hr2 hk2
 clear h hv hr2 hk2 hc1 hf1 hl1 hs1 hm1 st1
 replace hres := Lib.hid hres
 have hc2 := stm2.b1.cell; have hf2 := stm2.b1.frozen; have hl2 := stm2.b1.lt; have hs2 := stm2.b2.cell; have hm2 := stm2.b2.lt
 have st2 := stm2.store (cs1' := #[.int .i64 (k : Int), .string (str key), .int .i64 0, .float .f64 0, .string ⟨#[]⟩, .int .i64 0, .int .i64 0, .int .i64 0, .int .i64 0, .float .f64 0, .int .i64 0, .string ⟨#[]⟩, .slice none 0 0, .bool must]) 1 (.string (str key)) rfl
 clear stm2
 go_wp2_with fail
 refine (f110 _).mono ?_; rintro e w' ⟨rfl, hq⟩
 have st3 := st2.cln hq
 clear hq hc2 hf2 hl2 hs2 hm2 st2
 have hc3 := st3.b1.cell; have hf3 := st3.b1.frozen; have hl3 := st3.b1.lt; have hs3 := st3.b2.cell; have hm3 := st3.b2.lt
 have hspec4 : Hid (rAct bs a = aX k must key 0 bs b2) := by unfold Hid; rw [hspec3.out]; unfold aN; rw [hN.out]; rfl
 go_wp2_with fail
 refine (f120 _).mono ?_; rintro e w' ⟨rfl, hq⟩
 have st4 := st3.cln hq
 clear hq hc3 hf3 hl3 hs3 hm3 st3
 have hc4 := st4.b1.cell; have hf4 := st4.b1.frozen; have hl4 := st4.b1.lt; have hs4 := st4.b2.cell; have hm4 := st4.b2.lt
 have hspec5 : Hid (rAct bs a = aS k must key 0 0 bs b2) := by unfold Hid; rw [hspec4.out]; unfold aX; rw [hX.out]; rfl
 go_wp2_with fail
 refine (f115 _).mono ?_; rintro e w' ⟨rfl, hq⟩
 have st5 := st4.cln hq
 clear hq hc4 hf4 hl4 hs4 hm4 st4
 have hc5 := st5.b1.cell; have hf5 := st5.b1.frozen; have hl5 := st5.b1.lt; have hs5 := st5.b2.cell; have hm5 := st5.b2.lt
 have hspec6 : Hid (rAct bs a = aM k must key 0 0 [] bs b2) := by unfold Hid; rw [hspec5.out]; unfold aS; rw [hS.out]; rfl
 go_wp2_with fail
 refine (f109 _).mono ?_; rintro e w' ⟨rfl, hq⟩
 have st6 := st5.cln hq
 clear hq hc5 hf5 hl5 hs5 hm5 st5
 have hc6 := st6.b1.cell; have hf6 := st6.b1.frozen; have hl6 := st6.b1.lt; have hs6 := st6.b2.cell; have hm6 := st6.b2.lt
 have hsz9 := hl6
 go_wp2_with fail
 refine (take_any p A n c bs b2 _ st6.R (fun ad e => by have := hAo.out ad e; omega)).mono ?_
 intro e w' h
 rcases h.cases with ⟨r, b6, v, hres, rfl, hv, hr2, hk2⟩ | ⟨f, hres, rfl, hk2⟩
 case inr =>
  have hI : Hid (rAct bs a = .error f) := by unfold Hid; rw [hspec6.out]; unfold aM; simp only [hM.out, if_true, hres]
  clear hres h
  go_wp2_with fail
  refine ⟨rfl, ?_⟩
  rw [hI.out]
  exact ⟨rfl, st6.K.trans hk2⟩
 have hspec7 : Hid (rAct bs a = aDone ⟨(k : Int), key, 0, 0, [], r, must⟩ b6) := by unfold Hid; rw [hspec6.out]; unfold aM; simp only [hM.out, if_true, hres]
 obtain ⟨AL, nL, cL, rfl, hL, hge, hwf, hn32⟩ := hv
 have hv : True := trivial
 replace hL := Lib.hid hL; replace hwf := Lib.hid hwf
 have hge' : Hid (∀ ad, AL = some ad → w.heap.size + 2 ≤ ad.block) := fun ad e => by have := hge ad e; omega
 clear hge
 unfold recVal
 have stm7 := st6.step hr2 hk2
 clear h hv hr2 hk2 hc6 hf6 hl6 hs6 hm6 st6
 replace hres := Lib.hid hres
 have hc7 := stm7.b1.cell; have hf7 := stm7.b1.frozen; have hl7 := stm7.b1.lt; have hs7 := stm7.b2.cell; have hm7 := stm7.b2.lt
 have sx0 := stm7
 have sx1 := sx0.store (cs1' := #[.int .i64 (k : Int), .string (str key), .int .i64 0, .float .f64 0, .string ⟨#[]⟩, .int .i64 r.kind, .int .i64 0, .int .i64 0, .int .i64 0, .float .f64 0, .int .i64 0, .string ⟨#[]⟩, .slice none 0 0, .bool must]) 5 (.int .i64 r.kind) rfl
 have sx2 := sx1.store (cs1' := #[.int .i64 (k : Int), .string (str key), .int .i64 0, .float .f64 0, .string ⟨#[]⟩, .int .i64 r.kind, .int .i64 r.num, .int .i64 0, .int .i64 0, .float .f64 0, .int .i64 0, .string ⟨#[]⟩, .slice none 0 0, .bool must]) 6 (.int .i64 r.num) rfl
 have sx3 := sx2.store (cs1' := #[.int .i64 (k : Int), .string (str key), .int .i64 0, .float .f64 0, .string ⟨#[]⟩, .int .i64 r.kind, .int .i64 r.num, .int .i64 r.low, .int .i64 0, .float .f64 0, .int .i64 0, .string ⟨#[]⟩, .slice none 0 0, .bool must]) 7 (.int .i64 r.low) rfl
 have sx4 := sx3.store (cs1' := #[.int .i64 (k : Int), .string (str key), .int .i64 0, .float .f64 0, .string ⟨#[]⟩, .int .i64 r.kind, .int .i64 r.num, .int .i64 r.low, .int .i64 r.high, .float .f64 0, .int .i64 0, .string ⟨#[]⟩, .slice none 0 0, .bool must]) 8 (.int .i64 r.high) rfl
 have sx5 := sx4.store (cs1' := #[.int .i64 (k : Int), .string (str key), .int .i64 0, .float .f64 0, .string ⟨#[]⟩, .int .i64 r.kind, .int .i64 r.num, .int .i64 r.low, .int .i64 r.high, .float .f64 r.real, .int .i64 0, .string ⟨#[]⟩, .slice none 0 0, .bool must]) 9 (.float .f64 r.real) rfl
 have sx6 := sx5.store (cs1' := #[.int .i64 (k : Int), .string (str key), .int .i64 0, .float .f64 0, .string ⟨#[]⟩, .int .i64 r.kind, .int .i64 r.num, .int .i64 r.low, .int .i64 r.high, .float .f64 r.real, .int .i64 r.cap, .string ⟨#[]⟩, .slice none 0 0, .bool must]) 10 (.int .i64 r.cap) rfl
 have sx7 := sx6.store (cs1' := #[.int .i64 (k : Int), .string (str key), .int .i64 0, .float .f64 0, .string ⟨#[]⟩, .int .i64 r.kind, .int .i64 r.num, .int .i64 r.low, .int .i64 r.high, .float .f64 r.real, .int .i64 r.cap, .string (str r.text), .slice none 0 0, .bool must]) 11 (.string (str r.text)) rfl
 have sx8 := sx7.store (cs1' := #[.int .i64 (k : Int), .string (str key), .int .i64 0, .float .f64 0, .string ⟨#[]⟩, .int .i64 r.kind, .int .i64 r.num, .int .i64 r.low, .int .i64 r.high, .float .f64 r.real, .int .i64 r.cap, .string (str r.text), .slice AL nL cL, .bool must]) 12 (.slice AL nL cL) rfl
 have hL9 : Hid (RdItems _ AL nL r.list) := ((((((((hL.out.kept (keptSet _ (w.heap.size + 1) 5 (.int .i64 r.kind)) (fun ad e _ h2 => by have := hge'.out ad e; omega)).kept (keptSet _ (w.heap.size + 1) 6 (.int .i64 r.num)) (fun ad e _ h2 => by have := hge'.out ad e; omega)).kept (keptSet _ (w.heap.size + 1) 7 (.int .i64 r.low)) (fun ad e _ h2 => by have := hge'.out ad e; omega)).kept (keptSet _ (w.heap.size + 1) 8 (.int .i64 r.high)) (fun ad e _ h2 => by have := hge'.out ad e; omega)).kept (keptSet _ (w.heap.size + 1) 9 (.float .f64 r.real)) (fun ad e _ h2 => by have := hge'.out ad e; omega)).kept (keptSet _ (w.heap.size + 1) 10 (.int .i64 r.cap)) (fun ad e _ h2 => by have := hge'.out ad e; omega)).kept (keptSet _ (w.heap.size + 1) 11 (.string (str r.text))) (fun ad e _ h2 => by have := hge'.out ad e; omega)).kept (keptSet _ (w.heap.size + 1) 12 (.slice AL nL cL)) (fun ad e _ h2 => by have := hge'.out ad e; omega))
 have st7 := sx8
 clear sx0 sx1 sx2 sx3 sx4 sx5 sx6 sx7 sx8 stm7 hL
 have hwfA : Hid ((⟨(k : Int), key, 0, 0, [], r, must⟩ : MAct).WF) := ⟨hkW.out, z64, zF, hwf.out⟩
 have hdone : Hid (rAct bs a = aDone ⟨(k : Int), key, 0, 0, [], r, must⟩ b6) := hspec7
 clear f110 f120 f115 f109 fm
 go_wp2_with fail
 have cC := acheck_any ⟨(k : Int), key, 0, 0, [], r, must⟩ AL nL cL (by omega) hwfA.out _ st7.kd (hL9.out)
 unfold actVal at cC
 refine cC.mono ?_; rintro e w9 ⟨rfl, hq⟩
 clear cC
 have stF := st7.cln hq
 have hLF : Hid (RdItems w9 AL nL r.list) := RdItems.cln hL9.out hq
 have hle9 : checkAct ⟨(k : Int), key, 0, 0, [], r, must⟩ ≤ 8 := checkAct_le _
 clear hq hc7 hf7 hl7 hs7 hm7 st7 hL9
 generalize hC : checkAct ⟨(k : Int), key, 0, 0, [], r, must⟩ = ck at hle9 ⊢
 replace hC := Lib.hid hC
 have hc9 := stF.b1.cell; have hf9 := stF.b1.frozen; have hl9 := stF.b1.lt; have hm9 := stF.b0.frozen; have hl0 := stF.b0.lt; have hc0 := stF.b0.cell
 have hn01 : ¬ w.heap.size = w.heap.size + 1 := by omega
 by_cases hz : ck = 0
 ·subst hz
  have hspF : Hid (rAct bs a = .ok (⟨(k : Int), key, 0, 0, [], r, must⟩, b6)) := by unfold Hid; rw [hdone.out]; unfold aDone; rw [if_pos hC.out]
  have hfin := Lib.hid (Blk.store14 stF.b0 (v0 := .int .i64 (k : Int)) (v1 := .string (str key)) (v2 := .int .i64 0) (v3 := .float .f64 0) (v4 := .string ⟨#[]⟩) (v5 := .int .i64 r.kind) (v6 := .int .i64 r.num) (v7 := .int .i64 r.low) (v8 := .int .i64 r.high) (v9 := .float .f64 r.real) (v10 := .int .i64 r.cap) (v11 := .string (str r.text)) (v12 := .slice AL nL cL) (v13 := .bool must))
  have hfk := fill14_kept w9 w.heap.size (.int .i64 (k : Int)) (.string (str key)) (.int .i64 0) (.float .f64 0) (.string ⟨#[]⟩) (.int .i64 r.kind) (.int .i64 r.num) (.int .i64 r.low) (.int .i64 r.high) (.float .f64 r.real) (.int .i64 r.cap) (.string (str r.text)) (.slice AL nL cL) (.bool must)
  have hRR := Lib.hid (stF.R.kept hfk (fun e => by have := stF.Bp; omega) (fun ad e => by have := stF.BA ad e; omega))
  have hKK := Lib.hid (stF.K.then_ hfk (fun i hi h2 => by exfalso; omega))
  have hLL := Lib.hid (hLF.out.kept hfk (fun ad e _ => by have := hge'.out ad e; omega))
  clear hfk stF hLF
  go_wp2_with fail
  refine bodyPost_ret (v := .agg #[.int .i64 (k : Int), .string (str key), .int .i64 0, .float .f64 0, .string ⟨#[]⟩, .int .i64 r.kind, .int .i64 r.num, .int .i64 r.low, .int .i64 r.high, .float .f64 r.real, .int .i64 r.cap, .string (str r.text), .slice AL nL cL, .bool must]) ?_ rfl ?_
  ·exact results_cell_row Tryz.results76 _ _ w.heap.size 64 #[.int .i64 (k : Int), .string (str key), .int .i64 0, .float .f64 0, .string ⟨#[]⟩, .int .i64 r.kind, .int .i64 r.num, .int .i64 r.low, .int .i64 r.high, .float .f64 r.real, .int .i64 r.cap, .string (str r.text), .slice AL nL cL, .bool must] (0, 0) _ rfl hfin.out Tryz.underlying64 rfl size_act
  ·rw [hspF.out]
   exact ⟨_, rfl, ⟨AL, nL, cL, rfl, hLL.out, (fun ad e => by have := hge'.out ad e; omega), hwfA.out, by omega⟩, hRR.out, hKK.out⟩
 ·have hz1 : (((ck : Nat) : Int) == 0) = false := by rw [beq_eq_false_iff_ne]; omega
  have hz3 : (((ck : Nat) : Int) != 0) = true := by rw [bne_iff_ne]; omega
  have hspF : Hid (rAct bs a = .error (ck, b6)) := by unfold Hid; rw [hdone.out]; unfold aDone; rw [if_neg (by rw [hC.out]; exact hz), hC.out]
  go_wp2_with fail
  refine (Fail_any p A n c bs b6 ck _ stF.R).mono ?_
  rintro e w5 ⟨rfl, rfl⟩
  go_wp2_with fail
  refine ⟨rfl, ?_⟩
  rw [hspF.out]
  exact ⟨rfl, stF.K⟩

set_option maxHeartbeats 4000000 in
theorem atake_text (p : Nat) (A : Option Addr) (n c : Nat) (bs : List UInt8) (a : Nat) (w : World) (hr : IsR w p A n c bs a) (hA : ∀ ad, A = some ad → ad.block < w.heap.size) (hK : KindsAt w)
  (k a1 : Nat) (hk : rUpto 21 bs a = .ok (k, a1)) (hk1 : 1 ≤ k ∧ k ≤ 21) (hN : hasF (k : Int) 110 = false) (hX : hasF (k : Int) 120 = false) (hS : hasF (k : Int) 115 = true) (hM : hasF (k : Int) 109 = false) :
  Calls Tryz.prog 76 #[.pointer (some ⟨p, 0, none⟩)] w (RPost (encAct w.heap.size) w p A n c bs (rAct bs a)) := by
 have hspec1 : Hid (rAct bs a = aMust k bs a1) := by unfold Hid rAct; simp only [hk]; rw [if_neg (by omega)]
 have hk0 : ((k : Int) == 0) = false := by rw [beq_eq_false_iff_ne]; omega
 have hkW : Hid (-9223372036854775808 ≤ (k : Int) ∧ (k : Int) < 9223372036854775808) := ⟨by omega, by omega⟩
 have hmo : mostOf (k : Int) < 1000 := by unfold mostOf; split <;> omega
 have hk' := Lib.hid hk
 clear hk hk1
 have hpl := hr.blk.lt
 have f110 : ∀ W, Calls Tryz.prog 100 #[.agg #[.string (str (wordOf (k : Int))), .int .i64 (onOf (k : Int) : Nat), .string (str (kindFs (k : Int)))], .int .u8 110] W fun e w' => e = .returned (.bool false) ∧ Cln W w' := fun W => hN ▸ field_any k 110 W
 have f120 : ∀ W, Calls Tryz.prog 100 #[.agg #[.string (str (wordOf (k : Int))), .int .i64 (onOf (k : Int) : Nat), .string (str (kindFs (k : Int)))], .int .u8 120] W fun e w' => e = .returned (.bool false) ∧ Cln W w' := fun W => hX ▸ field_any k 120 W
 have f115 : ∀ W, Calls Tryz.prog 100 #[.agg #[.string (str (wordOf (k : Int))), .int .i64 (onOf (k : Int) : Nat), .string (str (kindFs (k : Int)))], .int .u8 115] W fun e w' => e = .returned (.bool true) ∧ Cln W w' := fun W => hS ▸ field_any k 115 W
 have f109 : ∀ W, Calls Tryz.prog 100 #[.agg #[.string (str (wordOf (k : Int))), .int .i64 (onOf (k : Int) : Nat), .string (str (kindFs (k : Int)))], .int .u8 109] W fun e w' => e = .returned (.bool false) ∧ Cln W w' := fun W => hM ▸ field_any k 109 W
 have f0 : ∀ W, KindsAt W → Calls Tryz.prog 97 #[.int .i64 (k : Int)] W fun e w' => e = .returned (.agg #[.string (str (wordOf (k : Int))), .int .i64 (onOf (k : Int) : Nat), .string (str (kindFs (k : Int)))]) ∧ Cln W w' := fun W h => of_any (k : Int) W h
 have fm : ∀ W, Calls Tryz.prog 103 #[.agg #[.string (str (wordOf (k : Int))), .int .i64 (onOf (k : Int) : Nat), .string (str (kindFs (k : Int)))]] W fun e w' => e = .returned (.int .i64 (mostOf (k : Int) : Nat)) ∧ Cln W w' := fun W => most_any (k : Int) W
 replace hN := Lib.hid hN; replace hX := Lib.hid hX; replace hS := Lib.hid hS; replace hM := Lib.hid hM
 generalize wordOf (k : Int) = wd at f0 f110 f120 f115 f109 fm
 generalize onOf (k : Int) = on at f0 f110 f120 f115 f109 fm
 generalize kindFs (k : Int) = fl at f0 f110 f120 f115 f109 fm
 have hKl := hK.lt
 have hcl0 := hzWAct60 w
 have hb0 := (Blk.new w 64 #[.int .i64 0, .string ⟨#[]⟩, .int .i64 0, .float .f64 0, .string ⟨#[]⟩, .int .i64 0, .int .i64 0, .int .i64 0, .int .i64 0, .float .f64 0, .int .i64 0, .string ⟨#[]⟩, .slice none 0 0, .bool false]).alloc (.cells #[.int .i64 0, .string ⟨#[]⟩, .int .i64 0, .float .f64 0, .string ⟨#[]⟩, .int .i64 0, .int .i64 0, .int .i64 0, .int .i64 0, .float .f64 0, .int .i64 0, .string ⟨#[]⟩, .slice none 0 0, .bool false] 64)
 have hb1 := Blk.new (w.alloc (.cells #[.int .i64 0, .string ⟨#[]⟩, .int .i64 0, .float .f64 0, .string ⟨#[]⟩, .int .i64 0, .int .i64 0, .int .i64 0, .int .i64 0, .float .f64 0, .int .i64 0, .string ⟨#[]⟩, .slice none 0 0, .bool false] 64)) 64 #[.int .i64 0, .string ⟨#[]⟩, .int .i64 0, .float .f64 0, .string ⟨#[]⟩, .int .i64 0, .int .i64 0, .int .i64 0, .int .i64 0, .float .f64 0, .int .i64 0, .string ⟨#[]⟩, .slice none 0 0, .bool false]
 rw [World.size_alloc] at hb1
 go_enter Tryz.func76, Tryz.ntmps76
 go_wp2_with fail
 refine (upto_any p A n c bs a 21 (by omega) _ (hr.cln hcl0)).mono ?_
 intro e w1 h
 rcases h.cases with ⟨x, a2, v, hres, rfl, hv, hr2, hk2⟩ | ⟨f, hres, rfl, hk2⟩
 case inr => rw [hk'.out] at hres; cases hres
 rw [hk'.out] at hres
 injection hres with hres; injection hres with e1 e2; subst e1; subst e2
 have hv' : v = .int .i64 (k : Nat) := hv
 subst hv'
 clear hv h
 have hb0' := hb0.kept hk2 (show ¬ w.heap.size = p by omega)
 have hb1' := hb1.kept hk2 (show ¬ w.heap.size + 1 = p by omega)
 have hK1 := (Kept.of_below (S := (· = p)) hcl0).trans hk2
 have hKd := ((hK.cln hcl0).kept hk2 (kinds_ne (rest := [.int .i64 (a : Nat)]) hK hr.blk)).kept (keptSet w1 (w.heap.size + 1) 0 (.int .i64 (k : Int))) (show ¬ 1 = w.heap.size + 1 by omega)
 have hR1 := hr2.other (q := ⟨w.heap.size + 1, 0, none⟩) (by dsimp only; omega) (fun ad e => by have := hA ad e; dsimp only; omega) (.int .i64 (k : Int))
 have hb1s : Blk _ (w.heap.size + 1) 64 #[.int .i64 (k : Int), .string ⟨#[]⟩, .int .i64 0, .float .f64 0, .string ⟨#[]⟩, .int .i64 0, .int .i64 0, .int .i64 0, .int .i64 0, .float .f64 0, .int .i64 0, .string ⟨#[]⟩, .slice none 0 0, .bool false] := hb1'.set_ 0 (.int .i64 (k : Int))
 have hb0s := Lib.hid (hb0'.far (p := ⟨w.heap.size + 1, 0, none⟩) (by dsimp only; omega) (.int .i64 (k : Int)))
 have hKs := Lib.hid (hK1.setCell (p := ⟨w.heap.size + 1, 0, none⟩) (fun hl => by exfalso; dsimp only at hl; omega) (.int .i64 (k : Int)))
 have c1 := hb1'.cell 0; have f1 := hb1'.frozen 0; have l1 := hb1'.lt
 replace hR1 := Lib.hid hR1; replace hKd := Lib.hid hKd; replace hb1s := Lib.hid hb1s
 have hAo := Lib.hid hA
 clear hb0 hb1 hcl0 hr2 hk2 hb0' hb1' hK1 hK hA hr
 go_wp2_with fail
 refine (f0 _ hKd.out).mono ?_; rintro e w2 ⟨rfl, hq⟩
 have hsz2 : w.heap.size + 2 ≤ w2.heap.size := by have h1 := (hb1s.out.cln hq).lt; omega
 have hx2 : Cln _ (w2.alloc (.cells #[.string (str wd), .int .i64 (on : Nat), .string (str fl)] 161)) := cln_trans hq ((Below.refl _ _).alloc (Nat.le_refl _) _)
 have st0 : ATk w p A n c bs w2.heap.size #[.int .i64 (k : Int), .string ⟨#[]⟩, .int .i64 0, .float .f64 0, .string ⟨#[]⟩, .int .i64 0, .int .i64 0, .int .i64 0, .int .i64 0, .float .f64 0, .int .i64 0, .string ⟨#[]⟩, .slice none 0 0, .bool false] #[.string (str wd), .int .i64 (on : Nat), .string (str fl)] (w2.alloc (.cells #[.string (str wd), .int .i64 (on : Nat), .string (str fl)] 161)) a1 :=
  ⟨hR1.out.cln hx2, hKs.out.below_ hx2, hb0s.out.cln hx2, hb1s.out.cln hx2, Blk.new w2 _ _, hpl, hAo.out, hsz2, hKd.out.cln hx2, hKl⟩
 clear hq hx2 c1 f1 l1 hR1 hKs hb0s hb1s hKd f0
 have hne21 : ¬ w2.heap.size = w.heap.size + 1 := by omega
 have hne12 : ¬ w.heap.size + 1 = w2.heap.size := by omega
 have hc0 := st0.b1.cell; have hf0 := st0.b1.frozen; have hl0 := st0.b1.lt; have hs0 := st0.b2.cell; have hm0 := st0.b2.lt
 go_wp2_with fail
 refine (flag_any p A n c bs a1 _ st0.R).mono ?_
 intro e w' h
 rcases h.cases with ⟨must, b1, v, hres, rfl, hv, hr2, hk2⟩ | ⟨f, hres, rfl, hk2⟩
 case inr =>
  have hI : Hid (rAct bs a = .error f) := by unfold Hid; rw [hspec1.out]; unfold aMust; simp only [if_true, hres]
  clear hres h
  go_wp2_with fail
  refine ⟨rfl, ?_⟩
  rw [hI.out]
  exact ⟨rfl, st0.K.trans hk2⟩
 have hv' : v = .bool must := hv
 subst hv'
 have hspec2 : Hid (rAct bs a = aKey k must bs b1) := by unfold Hid; rw [hspec1.out]; unfold aMust; simp only [if_true, hres]
 have stm1 := st0.step hr2 hk2
 clear h hv hr2 hk2 hc0 hf0 hl0 hs0 hm0 st0
 replace hres := Lib.hid hres
 have hc1 := stm1.b1.cell; have hf1 := stm1.b1.frozen; have hl1 := stm1.b1.lt; have hs1 := stm1.b2.cell; have hm1 := stm1.b2.lt
 have st1 := stm1.store (cs1' := #[.int .i64 (k : Int), .string ⟨#[]⟩, .int .i64 0, .float .f64 0, .string ⟨#[]⟩, .int .i64 0, .int .i64 0, .int .i64 0, .int .i64 0, .float .f64 0, .int .i64 0, .string ⟨#[]⟩, .slice none 0 0, .bool must]) 13 (.bool must) rfl
 clear stm1
 go_wp2_with fail
 refine (s_any p A n c bs b1 24 (by omega) _ st1.R).mono ?_
 intro e w' h
 rcases h.cases with ⟨key, b2, v, hres, rfl, hv, hr2, hk2⟩ | ⟨f, hres, rfl, hk2⟩
 case inr =>
  have hI : Hid (rAct bs a = .error f) := by unfold Hid; rw [hspec2.out]; unfold aKey; simp only [if_true, hres]
  clear hres h
  go_wp2_with fail
  refine ⟨rfl, ?_⟩
  rw [hI.out]
  exact ⟨rfl, st1.K.trans hk2⟩
 have hv' : v = .string (str key) := hv
 subst hv'
 have hspec3 : Hid (rAct bs a = aN k must key bs b2) := by unfold Hid; rw [hspec2.out]; unfold aKey; simp only [if_true, hres]
 have stm2 := st1.step hr2 hk2
 clear h hv hr2 hk2 hc1 hf1 hl1 hs1 hm1 st1
 replace hres := Lib.hid hres
 have hc2 := stm2.b1.cell; have hf2 := stm2.b1.frozen; have hl2 := stm2.b1.lt; have hs2 := stm2.b2.cell; have hm2 := stm2.b2.lt
 have st2 := stm2.store (cs1' := #[.int .i64 (k : Int), .string (str key), .int .i64 0, .float .f64 0, .string ⟨#[]⟩, .int .i64 0, .int .i64 0, .int .i64 0, .int .i64 0, .float .f64 0, .int .i64 0, .string ⟨#[]⟩, .slice none 0 0, .bool must]) 1 (.string (str key)) rfl
 clear stm2
 go_wp2_with fail
 refine (f110 _).mono ?_; rintro e w' ⟨rfl, hq⟩
 have st3 := st2.cln hq
 clear hq hc2 hf2 hl2 hs2 hm2 st2
 have hc3 := st3.b1.cell; have hf3 := st3.b1.frozen; have hl3 := st3.b1.lt; have hs3 := st3.b2.cell; have hm3 := st3.b2.lt
 have hspec4 : Hid (rAct bs a = aX k must key 0 bs b2) := by unfold Hid; rw [hspec3.out]; unfold aN; rw [hN.out]; rfl
 go_wp2_with fail
 refine (f120 _).mono ?_; rintro e w' ⟨rfl, hq⟩
 have st4 := st3.cln hq
 clear hq hc3 hf3 hl3 hs3 hm3 st3
 have hc4 := st4.b1.cell; have hf4 := st4.b1.frozen; have hl4 := st4.b1.lt; have hs4 := st4.b2.cell; have hm4 := st4.b2.lt
 have hspec5 : Hid (rAct bs a = aS k must key 0 0 bs b2) := by unfold Hid; rw [hspec4.out]; unfold aX; rw [hX.out]; rfl
 go_wp2_with fail
 refine (f115 _).mono ?_; rintro e w' ⟨rfl, hq⟩
 have st5 := st4.cln hq
 clear hq hc4 hf4 hl4 hs4 hm4 st4
 have hc5 := st5.b1.cell; have hf5 := st5.b1.frozen; have hl5 := st5.b1.lt; have hs5 := st5.b2.cell; have hm5 := st5.b2.lt
 go_wp2_with fail
 refine (fm _).mono ?_; rintro e w' ⟨rfl, hq⟩
 have st6 := st5.cln hq
 clear hq hc5 hf5 hl5 hs5 hm5 st5
 have hc6 := st6.b1.cell; have hf6 := st6.b1.frozen; have hl6 := st6.b1.lt; have hs6 := st6.b2.cell; have hm6 := st6.b2.lt
 go_wp2_with fail
 refine (s_any p A n c bs b2 (mostOf (k : Int)) (by omega) _ st6.R).mono ?_
 intro e w' h
 rcases h.cases with ⟨ss, b5, v, hres, rfl, hv, hr2, hk2⟩ | ⟨f, hres, rfl, hk2⟩
 case inr =>
  have hI : Hid (rAct bs a = .error f) := by unfold Hid; rw [hspec5.out]; unfold aS; simp only [hS.out, if_true, hres]
  clear hres h
  go_wp2_with fail
  refine ⟨rfl, ?_⟩
  rw [hI.out]
  exact ⟨rfl, st6.K.trans hk2⟩
 have hv' : v = .string (str ss) := hv
 subst hv'
 have hspec6 : Hid (rAct bs a = aM k must key 0 0 ss bs b5) := by unfold Hid; rw [hspec5.out]; unfold aS; simp only [hS.out, if_true, hres]
 have stm7 := st6.step hr2 hk2
 clear h hv hr2 hk2 hc6 hf6 hl6 hs6 hm6 st6
 replace hres := Lib.hid hres
 have hc7 := stm7.b1.cell; have hf7 := stm7.b1.frozen; have hl7 := stm7.b1.lt; have hs7 := stm7.b2.cell; have hm7 := stm7.b2.lt
 have st7 := stm7.store (cs1' := #[.int .i64 (k : Int), .string (str key), .int .i64 0, .float .f64 0, .string (str ss), .int .i64 0, .int .i64 0, .int .i64 0, .int .i64 0, .float .f64 0, .int .i64 0, .string ⟨#[]⟩, .slice none 0 0, .bool must]) 4 (.string (str ss)) rfl
 clear stm7
 go_wp2_with fail
 refine (f109 _).mono ?_; rintro e w' ⟨rfl, hq⟩
 have st8 := st7.cln hq
 clear hq hc7 hf7 hl7 hs7 hm7 st7
 have hc8 := st8.b1.cell; have hf8 := st8.b1.frozen; have hl8 := st8.b1.lt; have hs8 := st8.b2.cell; have hm8 := st8.b2.lt
 have hspec7 : Hid (rAct bs a = aDone ⟨(k : Int), key, 0, 0, ss, zeroRec, must⟩ b5) := by unfold Hid; rw [hspec6.out]; unfold aM; rw [hM.out]; rfl
 have hL9 : Hid (∀ W : World, RdItems W none 0 zeroRec.list) := fun W => RdItems.none_ W
 have hge' : Hid (∀ ad, (none : Option Addr) = some ad → w.heap.size + 2 ≤ ad.block) := fun ad e => by cases e
 have hwfA : Hid ((⟨(k : Int), key, 0, 0, ss, zeroRec, must⟩ : MAct).WF) := ⟨hkW.out, z64, zF, zeroRec_wf_⟩
 have hdone : Hid (rAct bs a = aDone ⟨(k : Int), key, 0, 0, ss, zeroRec, must⟩ b5) := hspec7
 clear f110 f120 f115 f109 fm
 go_wp2_with fail
 have cC := acheck_any ⟨(k : Int), key, 0, 0, ss, zeroRec, must⟩ none 0 0 (by omega) hwfA.out _ st8.kd (hL9.out _)
 unfold actVal at cC
 refine cC.mono ?_; rintro e w9 ⟨rfl, hq⟩
 clear cC
 have stF := st8.cln hq
 have hLF : Hid (RdItems w9 none 0 zeroRec.list) := hL9.out _
 have hle9 : checkAct ⟨(k : Int), key, 0, 0, ss, zeroRec, must⟩ ≤ 8 := checkAct_le _
 clear hq hc8 hf8 hl8 hs8 hm8 st8 hL9
 generalize hC : checkAct ⟨(k : Int), key, 0, 0, ss, zeroRec, must⟩ = ck at hle9 ⊢
 replace hC := Lib.hid hC
 have hc9 := stF.b1.cell; have hf9 := stF.b1.frozen; have hl9 := stF.b1.lt; have hm9 := stF.b0.frozen; have hl0 := stF.b0.lt; have hc0 := stF.b0.cell
 have hn01 : ¬ w.heap.size = w.heap.size + 1 := by omega
 by_cases hz : ck = 0
 ·subst hz
  have hspF : Hid (rAct bs a = .ok (⟨(k : Int), key, 0, 0, ss, zeroRec, must⟩, b5)) := by unfold Hid; rw [hdone.out]; unfold aDone; rw [if_pos hC.out]
  have hfin := Lib.hid (Blk.store14 stF.b0 (v0 := .int .i64 (k : Int)) (v1 := .string (str key)) (v2 := .int .i64 0) (v3 := .float .f64 0) (v4 := .string (str ss)) (v5 := .int .i64 0) (v6 := .int .i64 0) (v7 := .int .i64 0) (v8 := .int .i64 0) (v9 := .float .f64 0) (v10 := .int .i64 0) (v11 := .string ⟨#[]⟩) (v12 := .slice none 0 0) (v13 := .bool must))
  have hfk := fill14_kept w9 w.heap.size (.int .i64 (k : Int)) (.string (str key)) (.int .i64 0) (.float .f64 0) (.string (str ss)) (.int .i64 0) (.int .i64 0) (.int .i64 0) (.int .i64 0) (.float .f64 0) (.int .i64 0) (.string ⟨#[]⟩) (.slice none 0 0) (.bool must)
  have hRR := Lib.hid (stF.R.kept hfk (fun e => by have := stF.Bp; omega) (fun ad e => by have := stF.BA ad e; omega))
  have hKK := Lib.hid (stF.K.then_ hfk (fun i hi h2 => by exfalso; omega))
  have hLL := Lib.hid (hLF.out.kept hfk (fun ad e _ => by have := hge'.out ad e; omega))
  clear hfk stF hLF
  go_wp2_with fail
  refine bodyPost_ret (v := .agg #[.int .i64 (k : Int), .string (str key), .int .i64 0, .float .f64 0, .string (str ss), .int .i64 0, .int .i64 0, .int .i64 0, .int .i64 0, .float .f64 0, .int .i64 0, .string ⟨#[]⟩, .slice none 0 0, .bool must]) ?_ rfl ?_
  ·exact results_cell_row Tryz.results76 _ _ w.heap.size 64 #[.int .i64 (k : Int), .string (str key), .int .i64 0, .float .f64 0, .string (str ss), .int .i64 0, .int .i64 0, .int .i64 0, .int .i64 0, .float .f64 0, .int .i64 0, .string ⟨#[]⟩, .slice none 0 0, .bool must] (0, 0) _ rfl hfin.out Tryz.underlying64 rfl size_act
  ·rw [hspF.out]
   exact ⟨_, rfl, ⟨none, 0, 0, rfl, hLL.out, (fun ad e => by have := hge'.out ad e; omega), hwfA.out, by omega⟩, hRR.out, hKK.out⟩
 ·have hz1 : (((ck : Nat) : Int) == 0) = false := by rw [beq_eq_false_iff_ne]; omega
  have hz3 : (((ck : Nat) : Int) != 0) = true := by rw [bne_iff_ne]; omega
  have hspF : Hid (rAct bs a = .error (ck, b5)) := by unfold Hid; rw [hdone.out]; unfold aDone; rw [if_neg (by rw [hC.out]; exact hz), hC.out]
  go_wp2_with fail
  refine (Fail_any p A n c bs b5 ck _ stF.R).mono ?_
  rintro e w5 ⟨rfl, rfl⟩
  go_wp2_with fail
  refine ⟨rfl, ?_⟩
  rw [hspF.out]
  exact ⟨rfl, stF.K⟩

set_option maxHeartbeats 4000000 in
theorem atake_num (p : Nat) (A : Option Addr) (n c : Nat) (bs : List UInt8) (a : Nat) (w : World) (hr : IsR w p A n c bs a) (hA : ∀ ad, A = some ad → ad.block < w.heap.size) (hK : KindsAt w)
  (k a1 : Nat) (hk : rUpto 21 bs a = .ok (k, a1)) (hk1 : 1 ≤ k ∧ k ≤ 21) (hN : hasF (k : Int) 110 = true) (hX : hasF (k : Int) 120 = false) (hS : hasF (k : Int) 115 = false) (hM : hasF (k : Int) 109 = false) :
  Calls Tryz.prog 76 #[.pointer (some ⟨p, 0, none⟩)] w (RPost (encAct w.heap.size) w p A n c bs (rAct bs a)) := by
 have hspec1 : Hid (rAct bs a = aMust k bs a1) := by unfold Hid rAct; simp only [hk]; rw [if_neg (by omega)]
 have hk0 : ((k : Int) == 0) = false := by rw [beq_eq_false_iff_ne]; omega
 have hkW : Hid (-9223372036854775808 ≤ (k : Int) ∧ (k : Int) < 9223372036854775808) := ⟨by omega, by omega⟩
 have hmo : mostOf (k : Int) < 1000 := by unfold mostOf; split <;> omega
 have hk' := Lib.hid hk
 clear hk hk1
 have hpl := hr.blk.lt
 have f110 : ∀ W, Calls Tryz.prog 100 #[.agg #[.string (str (wordOf (k : Int))), .int .i64 (onOf (k : Int) : Nat), .string (str (kindFs (k : Int)))], .int .u8 110] W fun e w' => e = .returned (.bool true) ∧ Cln W w' := fun W => hN ▸ field_any k 110 W
 have f120 : ∀ W, Calls Tryz.prog 100 #[.agg #[.string (str (wordOf (k : Int))), .int .i64 (onOf (k : Int) : Nat), .string (str (kindFs (k : Int)))], .int .u8 120] W fun e w' => e = .returned (.bool false) ∧ Cln W w' := fun W => hX ▸ field_any k 120 W
 have f115 : ∀ W, Calls Tryz.prog 100 #[.agg #[.string (str (wordOf (k : Int))), .int .i64 (onOf (k : Int) : Nat), .string (str (kindFs (k : Int)))], .int .u8 115] W fun e w' => e = .returned (.bool false) ∧ Cln W w' := fun W => hS ▸ field_any k 115 W
 have f109 : ∀ W, Calls Tryz.prog 100 #[.agg #[.string (str (wordOf (k : Int))), .int .i64 (onOf (k : Int) : Nat), .string (str (kindFs (k : Int)))], .int .u8 109] W fun e w' => e = .returned (.bool false) ∧ Cln W w' := fun W => hM ▸ field_any k 109 W
 have f0 : ∀ W, KindsAt W → Calls Tryz.prog 97 #[.int .i64 (k : Int)] W fun e w' => e = .returned (.agg #[.string (str (wordOf (k : Int))), .int .i64 (onOf (k : Int) : Nat), .string (str (kindFs (k : Int)))]) ∧ Cln W w' := fun W h => of_any (k : Int) W h
 have fm : ∀ W, Calls Tryz.prog 103 #[.agg #[.string (str (wordOf (k : Int))), .int .i64 (onOf (k : Int) : Nat), .string (str (kindFs (k : Int)))]] W fun e w' => e = .returned (.int .i64 (mostOf (k : Int) : Nat)) ∧ Cln W w' := fun W => most_any (k : Int) W
 replace hN := Lib.hid hN; replace hX := Lib.hid hX; replace hS := Lib.hid hS; replace hM := Lib.hid hM
 generalize wordOf (k : Int) = wd at f0 f110 f120 f115 f109 fm
 generalize onOf (k : Int) = on at f0 f110 f120 f115 f109 fm
 generalize kindFs (k : Int) = fl at f0 f110 f120 f115 f109 fm
 have hKl := hK.lt
 have hcl0 := hzWAct60 w
 have hb0 := (Blk.new w 64 #[.int .i64 0, .string ⟨#[]⟩, .int .i64 0, .float .f64 0, .string ⟨#[]⟩, .int .i64 0, .int .i64 0, .int .i64 0, .int .i64 0, .float .f64 0, .int .i64 0, .string ⟨#[]⟩, .slice none 0 0, .bool false]).alloc (.cells #[.int .i64 0, .string ⟨#[]⟩, .int .i64 0, .float .f64 0, .string ⟨#[]⟩, .int .i64 0, .int .i64 0, .int .i64 0, .int .i64 0, .float .f64 0, .int .i64 0, .string ⟨#[]⟩, .slice none 0 0, .bool false] 64)
 have hb1 := Blk.new (w.alloc (.cells #[.int .i64 0, .string ⟨#[]⟩, .int .i64 0, .float .f64 0, .string ⟨#[]⟩, .int .i64 0, .int .i64 0, .int .i64 0, .int .i64 0, .float .f64 0, .int .i64 0, .string ⟨#[]⟩, .slice none 0 0, .bool false] 64)) 64 #[.int .i64 0, .string ⟨#[]⟩, .int .i64 0, .float .f64 0, .string ⟨#[]⟩, .int .i64 0, .int .i64 0, .int .i64 0, .int .i64 0, .float .f64 0, .int .i64 0, .string ⟨#[]⟩, .slice none 0 0, .bool false]
 rw [World.size_alloc] at hb1
 go_enter Tryz.func76, Tryz.ntmps76
 go_wp2_with fail
 refine (upto_any p A n c bs a 21 (by omega) _ (hr.cln hcl0)).mono ?_
 intro e w1 h
 rcases h.cases with ⟨x, a2, v, hres, rfl, hv, hr2, hk2⟩ | ⟨f, hres, rfl, hk2⟩
 case inr => rw [hk'.out] at hres; cases hres
 rw [hk'.out] at hres
 injection hres with hres; injection hres with e1 e2; subst e1; subst e2
 have hv' : v = .int .i64 (k : Nat) := hv
 subst hv'
 clear hv h
 have hb0' := hb0.kept hk2 (show ¬ w.heap.size = p by omega)
 have hb1' := hb1.kept hk2 (show ¬ w.heap.size + 1 = p by omega)
 have hK1 := (Kept.of_below (S := (· = p)) hcl0).trans hk2
 have hKd := ((hK.cln hcl0).kept hk2 (kinds_ne (rest := [.int .i64 (a : Nat)]) hK hr.blk)).kept (keptSet w1 (w.heap.size + 1) 0 (.int .i64 (k : Int))) (show ¬ 1 = w.heap.size + 1 by omega)
 have hR1 := hr2.other (q := ⟨w.heap.size + 1, 0, none⟩) (by dsimp only; omega) (fun ad e => by have := hA ad e; dsimp only; omega) (.int .i64 (k : Int))
 have hb1s : Blk _ (w.heap.size + 1) 64 #[.int .i64 (k : Int), .string ⟨#[]⟩, .int .i64 0, .float .f64 0, .string ⟨#[]⟩, .int .i64 0, .int .i64 0, .int .i64 0, .int .i64 0, .float .f64 0, .int .i64 0, .string ⟨#[]⟩, .slice none 0 0, .bool false] := hb1'.set_ 0 (.int .i64 (k : Int))
 have hb0s := Lib.hid (hb0'.far (p := ⟨w.heap.size + 1, 0, none⟩) (by dsimp only; omega) (.int .i64 (k : Int)))
 have hKs := Lib.hid (hK1.setCell (p := ⟨w.heap.size + 1, 0, none⟩) (fun hl => by exfalso; dsimp only at hl; omega) (.int .i64 (k : Int)))
 have c1 := hb1'.cell 0; have f1 := hb1'.frozen 0; have l1 := hb1'.lt
 replace hR1 := Lib.hid hR1; replace hKd := Lib.hid hKd; replace hb1s := Lib.hid hb1s
 have hAo := Lib.hid hA
 clear hb0 hb1 hcl0 hr2 hk2 hb0' hb1' hK1 hK hA hr
 go_wp2_with fail
 refine (f0 _ hKd.out).mono ?_; rintro e w2 ⟨rfl, hq⟩
 have hsz2 : w.heap.size + 2 ≤ w2.heap.size := by have h1 := (hb1s.out.cln hq).lt; omega
 have hx2 : Cln _ (w2.alloc (.cells #[.string (str wd), .int .i64 (on : Nat), .string (str fl)] 161)) := cln_trans hq ((Below.refl _ _).alloc (Nat.le_refl _) _)
 have st0 : ATk w p A n c bs w2.heap.size #[.int .i64 (k : Int), .string ⟨#[]⟩, .int .i64 0, .float .f64 0, .string ⟨#[]⟩, .int .i64 0, .int .i64 0, .int .i64 0, .int .i64 0, .float .f64 0, .int .i64 0, .string ⟨#[]⟩, .slice none 0 0, .bool false] #[.string (str wd), .int .i64 (on : Nat), .string (str fl)] (w2.alloc (.cells #[.string (str wd), .int .i64 (on : Nat), .string (str fl)] 161)) a1 :=
  ⟨hR1.out.cln hx2, hKs.out.below_ hx2, hb0s.out.cln hx2, hb1s.out.cln hx2, Blk.new w2 _ _, hpl, hAo.out, hsz2, hKd.out.cln hx2, hKl⟩
 clear hq hx2 c1 f1 l1 hR1 hKs hb0s hb1s hKd f0
 have hne21 : ¬ w2.heap.size = w.heap.size + 1 := by omega
 have hne12 : ¬ w.heap.size + 1 = w2.heap.size := by omega
 have hc0 := st0.b1.cell; have hf0 := st0.b1.frozen; have hl0 := st0.b1.lt; have hs0 := st0.b2.cell; have hm0 := st0.b2.lt
 go_wp2_with fail
 refine (flag_any p A n c bs a1 _ st0.R).mono ?_
 intro e w' h
 rcases h.cases with ⟨must, b1, v, hres, rfl, hv, hr2, hk2⟩ | ⟨f, hres, rfl, hk2⟩
 case inr =>
  have hI : Hid (rAct bs a = .error f) := by unfold Hid; rw [hspec1.out]; unfold aMust; simp only [if_true, hres]
  clear hres h
  go_wp2_with fail
  refine ⟨rfl, ?_⟩
  rw [hI.out]
  exact ⟨rfl, st0.K.trans hk2⟩
 have hv' : v = .bool must := hv
 subst hv'
 have hspec2 : Hid (rAct bs a = aKey k must bs b1) := by unfold Hid; rw [hspec1.out]; unfold aMust; simp only [if_true, hres]
 have stm1 := st0.step hr2 hk2
 clear h hv hr2 hk2 hc0 hf0 hl0 hs0 hm0 st0
 replace hres := Lib.hid hres
 have hc1 := stm1.b1.cell; have hf1 := stm1.b1.frozen; have hl1 := stm1.b1.lt; have hs1 := stm1.b2.cell; have hm1 := stm1.b2.lt
 have st1 := stm1.store (cs1' := #[.int .i64 (k : Int), .string ⟨#[]⟩, .int .i64 0, .float .f64 0, .string ⟨#[]⟩, .int .i64 0, .int .i64 0, .int .i64 0, .int .i64 0, .float .f64 0, .int .i64 0, .string ⟨#[]⟩, .slice none 0 0, .bool must]) 13 (.bool must) rfl
 clear stm1
 go_wp2_with fail
 refine (s_any p A n c bs b1 24 (by omega) _ st1.R).mono ?_
 intro e w' h
 rcases h.cases with ⟨key, b2, v, hres, rfl, hv, hr2, hk2⟩ | ⟨f, hres, rfl, hk2⟩
 case inr =>
  have hI : Hid (rAct bs a = .error f) := by unfold Hid; rw [hspec2.out]; unfold aKey; simp only [if_true, hres]
  clear hres h
  go_wp2_with fail
  refine ⟨rfl, ?_⟩
  rw [hI.out]
  exact ⟨rfl, st1.K.trans hk2⟩
 have hv' : v = .string (str key) := hv
 subst hv'
 have hspec3 : Hid (rAct bs a = aN k must key bs b2) := by unfold Hid; rw [hspec2.out]; unfold aKey; simp only [if_true, hres]
 have stm2 := st1.step hr2 hk2
 clear h hv hr2 hk2 hc1 hf1 hl1 hs1 hm1 st1
 replace hres := Lib.hid hres
 have hc2 := stm2.b1.cell; have hf2 := stm2.b1.frozen; have hl2 := stm2.b1.lt; have hs2 := stm2.b2.cell; have hm2 := stm2.b2.lt
 have st2 := stm2.store (cs1' := #[.int .i64 (k : Int), .string (str key), .int .i64 0, .float .f64 0, .string ⟨#[]⟩, .int .i64 0, .int .i64 0, .int .i64 0, .int .i64 0, .float .f64 0, .int .i64 0, .string ⟨#[]⟩, .slice none 0 0, .bool must]) 1 (.string (str key)) rfl
 clear stm2
 go_wp2_with fail
 refine (f110 _).mono ?_; rintro e w' ⟨rfl, hq⟩
 have st3 := st2.cln hq
 clear hq hc2 hf2 hl2 hs2 hm2 st2
 have hc3 := st3.b1.cell; have hf3 := st3.b1.frozen; have hl3 := st3.b1.lt; have hs3 := st3.b2.cell; have hm3 := st3.b2.lt
 go_wp2_with fail
 refine (i_any p A n c bs b2 _ st3.R).mono ?_
 intro e w' h
 rcases h.cases with ⟨nn, b3, v, hres, rfl, hv, hr2, hk2⟩ | ⟨f, hres, rfl, hk2⟩
 case inr =>
  have hI : Hid (rAct bs a = .error f) := by unfold Hid; rw [hspec3.out]; unfold aN; simp only [hN.out, if_true, hres]
  clear hres h
  go_wp2_with fail
  refine ⟨rfl, ?_⟩
  rw [hI.out]
  exact ⟨rfl, st3.K.trans hk2⟩
 have hv' : v = .int .i64 nn := hv
 subst hv'
 have hspec4 : Hid (rAct bs a = aX k must key nn bs b3) := by unfold Hid; rw [hspec3.out]; unfold aN; simp only [hN.out, if_true, hres]
 have hnW : Hid (-9223372036854775808 ≤ nn ∧ nn < 9223372036854775808) := rI_lt hres
 have stm4 := st3.step hr2 hk2
 clear h hv hr2 hk2 hc3 hf3 hl3 hs3 hm3 st3
 replace hres := Lib.hid hres
 have hc4 := stm4.b1.cell; have hf4 := stm4.b1.frozen; have hl4 := stm4.b1.lt; have hs4 := stm4.b2.cell; have hm4 := stm4.b2.lt
 have st4 := stm4.store (cs1' := #[.int .i64 (k : Int), .string (str key), .int .i64 nn, .float .f64 0, .string ⟨#[]⟩, .int .i64 0, .int .i64 0, .int .i64 0, .int .i64 0, .float .f64 0, .int .i64 0, .string ⟨#[]⟩, .slice none 0 0, .bool must]) 2 (.int .i64 nn) rfl
 clear stm4
 go_wp2_with fail
 refine (f120 _).mono ?_; rintro e w' ⟨rfl, hq⟩
 have st5 := st4.cln hq
 clear hq hc4 hf4 hl4 hs4 hm4 st4
 have hc5 := st5.b1.cell; have hf5 := st5.b1.frozen; have hl5 := st5.b1.lt; have hs5 := st5.b2.cell; have hm5 := st5.b2.lt
 have hspec5 : Hid (rAct bs a = aS k must key nn 0 bs b3) := by unfold Hid; rw [hspec4.out]; unfold aX; rw [hX.out]; rfl
 go_wp2_with fail
 refine (f115 _).mono ?_; rintro e w' ⟨rfl, hq⟩
 have st6 := st5.cln hq
 clear hq hc5 hf5 hl5 hs5 hm5 st5
 have hc6 := st6.b1.cell; have hf6 := st6.b1.frozen; have hl6 := st6.b1.lt; have hs6 := st6.b2.cell; have hm6 := st6.b2.lt
 have hspec6 : Hid (rAct bs a = aM k must key nn 0 [] bs b3) := by unfold Hid; rw [hspec5.out]; unfold aS; rw [hS.out]; rfl
 go_wp2_with fail
 refine (f109 _).mono ?_; rintro e w' ⟨rfl, hq⟩
 have st7 := st6.cln hq
 clear hq hc6 hf6 hl6 hs6 hm6 st6
 have hc7 := st7.b1.cell; have hf7 := st7.b1.frozen; have hl7 := st7.b1.lt; have hs7 := st7.b2.cell; have hm7 := st7.b2.lt
 have hspec7 : Hid (rAct bs a = aDone ⟨(k : Int), key, nn, 0, [], zeroRec, must⟩ b3) := by unfold Hid; rw [hspec6.out]; unfold aM; rw [hM.out]; rfl
 have hL9 : Hid (∀ W : World, RdItems W none 0 zeroRec.list) := fun W => RdItems.none_ W
 have hge' : Hid (∀ ad, (none : Option Addr) = some ad → w.heap.size + 2 ≤ ad.block) := fun ad e => by cases e
 have hwfA : Hid ((⟨(k : Int), key, nn, 0, [], zeroRec, must⟩ : MAct).WF) := ⟨hkW.out, hnW.out, zF, zeroRec_wf_⟩
 have hdone : Hid (rAct bs a = aDone ⟨(k : Int), key, nn, 0, [], zeroRec, must⟩ b3) := hspec7
 clear f110 f120 f115 f109 fm
 go_wp2_with fail
 have cC := acheck_any ⟨(k : Int), key, nn, 0, [], zeroRec, must⟩ none 0 0 (by omega) hwfA.out _ st7.kd (hL9.out _)
 unfold actVal at cC
 refine cC.mono ?_; rintro e w9 ⟨rfl, hq⟩
 clear cC
 have stF := st7.cln hq
 have hLF : Hid (RdItems w9 none 0 zeroRec.list) := hL9.out _
 have hle9 : checkAct ⟨(k : Int), key, nn, 0, [], zeroRec, must⟩ ≤ 8 := checkAct_le _
 clear hq hc7 hf7 hl7 hs7 hm7 st7 hL9
 generalize hC : checkAct ⟨(k : Int), key, nn, 0, [], zeroRec, must⟩ = ck at hle9 ⊢
 replace hC := Lib.hid hC
 have hc9 := stF.b1.cell; have hf9 := stF.b1.frozen; have hl9 := stF.b1.lt; have hm9 := stF.b0.frozen; have hl0 := stF.b0.lt; have hc0 := stF.b0.cell
 have hn01 : ¬ w.heap.size = w.heap.size + 1 := by omega
 by_cases hz : ck = 0
 ·subst hz
  have hspF : Hid (rAct bs a = .ok (⟨(k : Int), key, nn, 0, [], zeroRec, must⟩, b3)) := by unfold Hid; rw [hdone.out]; unfold aDone; rw [if_pos hC.out]
  have hfin := Lib.hid (Blk.store14 stF.b0 (v0 := .int .i64 (k : Int)) (v1 := .string (str key)) (v2 := .int .i64 nn) (v3 := .float .f64 0) (v4 := .string ⟨#[]⟩) (v5 := .int .i64 0) (v6 := .int .i64 0) (v7 := .int .i64 0) (v8 := .int .i64 0) (v9 := .float .f64 0) (v10 := .int .i64 0) (v11 := .string ⟨#[]⟩) (v12 := .slice none 0 0) (v13 := .bool must))
  have hfk := fill14_kept w9 w.heap.size (.int .i64 (k : Int)) (.string (str key)) (.int .i64 nn) (.float .f64 0) (.string ⟨#[]⟩) (.int .i64 0) (.int .i64 0) (.int .i64 0) (.int .i64 0) (.float .f64 0) (.int .i64 0) (.string ⟨#[]⟩) (.slice none 0 0) (.bool must)
  have hRR := Lib.hid (stF.R.kept hfk (fun e => by have := stF.Bp; omega) (fun ad e => by have := stF.BA ad e; omega))
  have hKK := Lib.hid (stF.K.then_ hfk (fun i hi h2 => by exfalso; omega))
  have hLL := Lib.hid (hLF.out.kept hfk (fun ad e _ => by have := hge'.out ad e; omega))
  clear hfk stF hLF
  go_wp2_with fail
  refine bodyPost_ret (v := .agg #[.int .i64 (k : Int), .string (str key), .int .i64 nn, .float .f64 0, .string ⟨#[]⟩, .int .i64 0, .int .i64 0, .int .i64 0, .int .i64 0, .float .f64 0, .int .i64 0, .string ⟨#[]⟩, .slice none 0 0, .bool must]) ?_ rfl ?_
  ·exact results_cell_row Tryz.results76 _ _ w.heap.size 64 #[.int .i64 (k : Int), .string (str key), .int .i64 nn, .float .f64 0, .string ⟨#[]⟩, .int .i64 0, .int .i64 0, .int .i64 0, .int .i64 0, .float .f64 0, .int .i64 0, .string ⟨#[]⟩, .slice none 0 0, .bool must] (0, 0) _ rfl hfin.out Tryz.underlying64 rfl size_act
  ·rw [hspF.out]
   exact ⟨_, rfl, ⟨none, 0, 0, rfl, hLL.out, (fun ad e => by have := hge'.out ad e; omega), hwfA.out, by omega⟩, hRR.out, hKK.out⟩
 ·have hz1 : (((ck : Nat) : Int) == 0) = false := by rw [beq_eq_false_iff_ne]; omega
  have hz3 : (((ck : Nat) : Int) != 0) = true := by rw [bne_iff_ne]; omega
  have hspF : Hid (rAct bs a = .error (ck, b3)) := by unfold Hid; rw [hdone.out]; unfold aDone; rw [if_neg (by rw [hC.out]; exact hz), hC.out]
  go_wp2_with fail
  refine (Fail_any p A n c bs b3 ck _ stF.R).mono ?_
  rintro e w5 ⟨rfl, rfl⟩
  go_wp2_with fail
  refine ⟨rfl, ?_⟩
  rw [hspF.out]
  exact ⟨rfl, stF.K⟩

set_option maxHeartbeats 4000000 in
theorem atake_real (p : Nat) (A : Option Addr) (n c : Nat) (bs : List UInt8) (a : Nat) (w : World) (hr : IsR w p A n c bs a) (hA : ∀ ad, A = some ad → ad.block < w.heap.size) (hK : KindsAt w)
  (k a1 : Nat) (hk : rUpto 21 bs a = .ok (k, a1)) (hk1 : 1 ≤ k ∧ k ≤ 21) (hN : hasF (k : Int) 110 = false) (hX : hasF (k : Int) 120 = true) (hS : hasF (k : Int) 115 = false) (hM : hasF (k : Int) 109 = false) :
  Calls Tryz.prog 76 #[.pointer (some ⟨p, 0, none⟩)] w (RPost (encAct w.heap.size) w p A n c bs (rAct bs a)) := by
 have hspec1 : Hid (rAct bs a = aMust k bs a1) := by unfold Hid rAct; simp only [hk]; rw [if_neg (by omega)]
 have hk0 : ((k : Int) == 0) = false := by rw [beq_eq_false_iff_ne]; omega
 have hkW : Hid (-9223372036854775808 ≤ (k : Int) ∧ (k : Int) < 9223372036854775808) := ⟨by omega, by omega⟩
 have hmo : mostOf (k : Int) < 1000 := by unfold mostOf; split <;> omega
 have hk' := Lib.hid hk
 clear hk hk1
 have hpl := hr.blk.lt
 have f110 : ∀ W, Calls Tryz.prog 100 #[.agg #[.string (str (wordOf (k : Int))), .int .i64 (onOf (k : Int) : Nat), .string (str (kindFs (k : Int)))], .int .u8 110] W fun e w' => e = .returned (.bool false) ∧ Cln W w' := fun W => hN ▸ field_any k 110 W
 have f120 : ∀ W, Calls Tryz.prog 100 #[.agg #[.string (str (wordOf (k : Int))), .int .i64 (onOf (k : Int) : Nat), .string (str (kindFs (k : Int)))], .int .u8 120] W fun e w' => e = .returned (.bool true) ∧ Cln W w' := fun W => hX ▸ field_any k 120 W
 have f115 : ∀ W, Calls Tryz.prog 100 #[.agg #[.string (str (wordOf (k : Int))), .int .i64 (onOf (k : Int) : Nat), .string (str (kindFs (k : Int)))], .int .u8 115] W fun e w' => e = .returned (.bool false) ∧ Cln W w' := fun W => hS ▸ field_any k 115 W
 have f109 : ∀ W, Calls Tryz.prog 100 #[.agg #[.string (str (wordOf (k : Int))), .int .i64 (onOf (k : Int) : Nat), .string (str (kindFs (k : Int)))], .int .u8 109] W fun e w' => e = .returned (.bool false) ∧ Cln W w' := fun W => hM ▸ field_any k 109 W
 have f0 : ∀ W, KindsAt W → Calls Tryz.prog 97 #[.int .i64 (k : Int)] W fun e w' => e = .returned (.agg #[.string (str (wordOf (k : Int))), .int .i64 (onOf (k : Int) : Nat), .string (str (kindFs (k : Int)))]) ∧ Cln W w' := fun W h => of_any (k : Int) W h
 have fm : ∀ W, Calls Tryz.prog 103 #[.agg #[.string (str (wordOf (k : Int))), .int .i64 (onOf (k : Int) : Nat), .string (str (kindFs (k : Int)))]] W fun e w' => e = .returned (.int .i64 (mostOf (k : Int) : Nat)) ∧ Cln W w' := fun W => most_any (k : Int) W
 replace hN := Lib.hid hN; replace hX := Lib.hid hX; replace hS := Lib.hid hS; replace hM := Lib.hid hM
 generalize wordOf (k : Int) = wd at f0 f110 f120 f115 f109 fm
 generalize onOf (k : Int) = on at f0 f110 f120 f115 f109 fm
 generalize kindFs (k : Int) = fl at f0 f110 f120 f115 f109 fm
 have hKl := hK.lt
 have hcl0 := hzWAct60 w
 have hb0 := (Blk.new w 64 #[.int .i64 0, .string ⟨#[]⟩, .int .i64 0, .float .f64 0, .string ⟨#[]⟩, .int .i64 0, .int .i64 0, .int .i64 0, .int .i64 0, .float .f64 0, .int .i64 0, .string ⟨#[]⟩, .slice none 0 0, .bool false]).alloc (.cells #[.int .i64 0, .string ⟨#[]⟩, .int .i64 0, .float .f64 0, .string ⟨#[]⟩, .int .i64 0, .int .i64 0, .int .i64 0, .int .i64 0, .float .f64 0, .int .i64 0, .string ⟨#[]⟩, .slice none 0 0, .bool false] 64)
 have hb1 := Blk.new (w.alloc (.cells #[.int .i64 0, .string ⟨#[]⟩, .int .i64 0, .float .f64 0, .string ⟨#[]⟩, .int .i64 0, .int .i64 0, .int .i64 0, .int .i64 0, .float .f64 0, .int .i64 0, .string ⟨#[]⟩, .slice none 0 0, .bool false] 64)) 64 #[.int .i64 0, .string ⟨#[]⟩, .int .i64 0, .float .f64 0, .string ⟨#[]⟩, .int .i64 0, .int .i64 0, .int .i64 0, .int .i64 0, .float .f64 0, .int .i64 0, .string ⟨#[]⟩, .slice none 0 0, .bool false]
 rw [World.size_alloc] at hb1
 go_enter Tryz.func76, Tryz.ntmps76
 go_wp2_with fail
 refine (upto_any p A n c bs a 21 (by omega) _ (hr.cln hcl0)).mono ?_
 intro e w1 h
 rcases h.cases with ⟨x, a2, v, hres, rfl, hv, hr2, hk2⟩ | ⟨f, hres, rfl, hk2⟩
 case inr => rw [hk'.out] at hres; cases hres
 rw [hk'.out] at hres
 injection hres with hres; injection hres with e1 e2; subst e1; subst e2
 have hv' : v = .int .i64 (k : Nat) := hv
 subst hv'
 clear hv h
 have hb0' := hb0.kept hk2 (show ¬ w.heap.size = p by omega)
 have hb1' := hb1.kept hk2 (show ¬ w.heap.size + 1 = p by omega)
 have hK1 := (Kept.of_below (S := (· = p)) hcl0).trans hk2
 have hKd := ((hK.cln hcl0).kept hk2 (kinds_ne (rest := [.int .i64 (a : Nat)]) hK hr.blk)).kept (keptSet w1 (w.heap.size + 1) 0 (.int .i64 (k : Int))) (show ¬ 1 = w.heap.size + 1 by omega)
 have hR1 := hr2.other (q := ⟨w.heap.size + 1, 0, none⟩) (by dsimp only; omega) (fun ad e => by have := hA ad e; dsimp only; omega) (.int .i64 (k : Int))
 have hb1s : Blk _ (w.heap.size + 1) 64 #[.int .i64 (k : Int), .string ⟨#[]⟩, .int .i64 0, .float .f64 0, .string ⟨#[]⟩, .int .i64 0, .int .i64 0, .int .i64 0, .int .i64 0, .float .f64 0, .int .i64 0, .string ⟨#[]⟩, .slice none 0 0, .bool false] := hb1'.set_ 0 (.int .i64 (k : Int))
 have hb0s := Lib.hid (hb0'.far (p := ⟨w.heap.size + 1, 0, none⟩) (by dsimp only; omega) (.int .i64 (k : Int)))
 have hKs := Lib.hid (hK1.setCell (p := ⟨w.heap.size + 1, 0, none⟩) (fun hl => by exfalso; dsimp only at hl; omega) (.int .i64 (k : Int)))
 have c1 := hb1'.cell 0; have f1 := hb1'.frozen 0; have l1 := hb1'.lt
 replace hR1 := Lib.hid hR1; replace hKd := Lib.hid hKd; replace hb1s := Lib.hid hb1s
 have hAo := Lib.hid hA
 clear hb0 hb1 hcl0 hr2 hk2 hb0' hb1' hK1 hK hA hr
 go_wp2_with fail
 refine (f0 _ hKd.out).mono ?_; rintro e w2 ⟨rfl, hq⟩
 have hsz2 : w.heap.size + 2 ≤ w2.heap.size := by have h1 := (hb1s.out.cln hq).lt; omega
 have hx2 : Cln _ (w2.alloc (.cells #[.string (str wd), .int .i64 (on : Nat), .string (str fl)] 161)) := cln_trans hq ((Below.refl _ _).alloc (Nat.le_refl _) _)
 have st0 : ATk w p A n c bs w2.heap.size #[.int .i64 (k : Int), .string ⟨#[]⟩, .int .i64 0, .float .f64 0, .string ⟨#[]⟩, .int .i64 0, .int .i64 0, .int .i64 0, .int .i64 0, .float .f64 0, .int .i64 0, .string ⟨#[]⟩, .slice none 0 0, .bool false] #[.string (str wd), .int .i64 (on : Nat), .string (str fl)] (w2.alloc (.cells #[.string (str wd), .int .i64 (on : Nat), .string (str fl)] 161)) a1 :=
  ⟨hR1.out.cln hx2, hKs.out.below_ hx2, hb0s.out.cln hx2, hb1s.out.cln hx2, Blk.new w2 _ _, hpl, hAo.out, hsz2, hKd.out.cln hx2, hKl⟩
 clear hq hx2 c1 f1 l1 hR1 hKs hb0s hb1s hKd f0
 have hne21 : ¬ w2.heap.size = w.heap.size + 1 := by omega
 have hne12 : ¬ w.heap.size + 1 = w2.heap.size := by omega
 have hc0 := st0.b1.cell; have hf0 := st0.b1.frozen; have hl0 := st0.b1.lt; have hs0 := st0.b2.cell; have hm0 := st0.b2.lt
 go_wp2_with fail
 refine (flag_any p A n c bs a1 _ st0.R).mono ?_
 intro e w' h
 rcases h.cases with ⟨must, b1, v, hres, rfl, hv, hr2, hk2⟩ | ⟨f, hres, rfl, hk2⟩
 case inr =>
  have hI : Hid (rAct bs a = .error f) := by unfold Hid; rw [hspec1.out]; unfold aMust; simp only [if_true, hres]
  clear hres h
  go_wp2_with fail
  refine ⟨rfl, ?_⟩
  rw [hI.out]
  exact ⟨rfl, st0.K.trans hk2⟩
 have hv' : v = .bool must := hv
 subst hv'
 have hspec2 : Hid (rAct bs a = aKey k must bs b1) := by unfold Hid; rw [hspec1.out]; unfold aMust; simp only [if_true, hres]
 have stm1 := st0.step hr2 hk2
 clear h hv hr2 hk2 hc0 hf0 hl0 hs0 hm0 st0
 replace hres := Lib.hid hres
 have hc1 := stm1.b1.cell; have hf1 := stm1.b1.frozen; have hl1 := stm1.b1.lt; have hs1 := stm1.b2.cell; have hm1 := stm1.b2.lt
 have st1 := stm1.store (cs1' := #[.int .i64 (k : Int), .string ⟨#[]⟩, .int .i64 0, .float .f64 0, .string ⟨#[]⟩, .int .i64 0, .int .i64 0, .int .i64 0, .int .i64 0, .float .f64 0, .int .i64 0, .string ⟨#[]⟩, .slice none 0 0, .bool must]) 13 (.bool must) rfl
 clear stm1
 go_wp2_with fail
 refine (s_any p A n c bs b1 24 (by omega) _ st1.R).mono ?_
 intro e w' h
 rcases h.cases with ⟨key, b2, v, hres, rfl, hv, hr2, hk2⟩ | ⟨f, hres, rfl, hk2⟩
 case inr =>
  have hI : Hid (rAct bs a = .error f) := by unfold Hid; rw [hspec2.out]; unfold aKey; simp only [if_true, hres]
  clear hres h
  go_wp2_with fail
  refine ⟨rfl, ?_⟩
  rw [hI.out]
  exact ⟨rfl, st1.K.trans hk2⟩
 have hv' : v = .string (str key) := hv
 subst hv'
 have hspec3 : Hid (rAct bs a = aN k must key bs b2) := by unfold Hid; rw [hspec2.out]; unfold aKey; simp only [if_true, hres]
 have stm2 := st1.step hr2 hk2
 clear h hv hr2 hk2 hc1 hf1 hl1 hs1 hm1 st1
 replace hres := Lib.hid hres
 have hc2 := stm2.b1.cell; have hf2 := stm2.b1.frozen; have hl2 := stm2.b1.lt; have hs2 := stm2.b2.cell; have hm2 := stm2.b2.lt
 have st2 := stm2.store (cs1' := #[.int .i64 (k : Int), .string (str key), .int .i64 0, .float .f64 0, .string ⟨#[]⟩, .int .i64 0, .int .i64 0, .int .i64 0, .int .i64 0, .float .f64 0, .int .i64 0, .string ⟨#[]⟩, .slice none 0 0, .bool must]) 1 (.string (str key)) rfl
 clear stm2
 go_wp2_with fail
 refine (f110 _).mono ?_; rintro e w' ⟨rfl, hq⟩
 have st3 := st2.cln hq
 clear hq hc2 hf2 hl2 hs2 hm2 st2
 have hc3 := st3.b1.cell; have hf3 := st3.b1.frozen; have hl3 := st3.b1.lt; have hs3 := st3.b2.cell; have hm3 := st3.b2.lt
 have hspec4 : Hid (rAct bs a = aX k must key 0 bs b2) := by unfold Hid; rw [hspec3.out]; unfold aN; rw [hN.out]; rfl
 go_wp2_with fail
 refine (f120 _).mono ?_; rintro e w' ⟨rfl, hq⟩
 have st4 := st3.cln hq
 clear hq hc3 hf3 hl3 hs3 hm3 st3
 have hc4 := st4.b1.cell; have hf4 := st4.b1.frozen; have hl4 := st4.b1.lt; have hs4 := st4.b2.cell; have hm4 := st4.b2.lt
 go_wp2_with fail
 refine (f_any p A n c bs b2 _ st4.R).mono ?_
 intro e w' h
 rcases h.cases with ⟨xx, b4, v, hres, rfl, hv, hr2, hk2⟩ | ⟨f, hres, rfl, hk2⟩
 case inr =>
  have hI : Hid (rAct bs a = .error f) := by unfold Hid; rw [hspec4.out]; unfold aX; simp only [hX.out, if_true, hres]
  clear hres h
  go_wp2_with fail
  refine ⟨rfl, ?_⟩
  rw [hI.out]
  exact ⟨rfl, st4.K.trans hk2⟩
 have hv' : v = .float .f64 xx := hv
 subst hv'
 have hspec5 : Hid (rAct bs a = aS k must key 0 xx bs b4) := by unfold Hid; rw [hspec4.out]; unfold aX; simp only [hX.out, if_true, hres]
 have hxW : Hid (xx < 18446744073709551616) := rF_lt hres
 have stm5 := st4.step hr2 hk2
 clear h hv hr2 hk2 hc4 hf4 hl4 hs4 hm4 st4
 replace hres := Lib.hid hres
 have hc5 := stm5.b1.cell; have hf5 := stm5.b1.frozen; have hl5 := stm5.b1.lt; have hs5 := stm5.b2.cell; have hm5 := stm5.b2.lt
 have st5 := stm5.store (cs1' := #[.int .i64 (k : Int), .string (str key), .int .i64 0, .float .f64 xx, .string ⟨#[]⟩, .int .i64 0, .int .i64 0, .int .i64 0, .int .i64 0, .float .f64 0, .int .i64 0, .string ⟨#[]⟩, .slice none 0 0, .bool must]) 3 (.float .f64 xx) rfl
 clear stm5
 go_wp2_with fail
 refine (f115 _).mono ?_; rintro e w' ⟨rfl, hq⟩
 have st6 := st5.cln hq
 clear hq hc5 hf5 hl5 hs5 hm5 st5
 have hc6 := st6.b1.cell; have hf6 := st6.b1.frozen; have hl6 := st6.b1.lt; have hs6 := st6.b2.cell; have hm6 := st6.b2.lt
 have hspec6 : Hid (rAct bs a = aM k must key 0 xx [] bs b4) := by unfold Hid; rw [hspec5.out]; unfold aS; rw [hS.out]; rfl
 go_wp2_with fail
 refine (f109 _).mono ?_; rintro e w' ⟨rfl, hq⟩
 have st7 := st6.cln hq
 clear hq hc6 hf6 hl6 hs6 hm6 st6
 have hc7 := st7.b1.cell; have hf7 := st7.b1.frozen; have hl7 := st7.b1.lt; have hs7 := st7.b2.cell; have hm7 := st7.b2.lt
 have hspec7 : Hid (rAct bs a = aDone ⟨(k : Int), key, 0, xx, [], zeroRec, must⟩ b4) := by unfold Hid; rw [hspec6.out]; unfold aM; rw [hM.out]; rfl
 have hL9 : Hid (∀ W : World, RdItems W none 0 zeroRec.list) := fun W => RdItems.none_ W
 have hge' : Hid (∀ ad, (none : Option Addr) = some ad → w.heap.size + 2 ≤ ad.block) := fun ad e => by cases e
 have hwfA : Hid ((⟨(k : Int), key, 0, xx, [], zeroRec, must⟩ : MAct).WF) := ⟨hkW.out, z64, hxW.out, zeroRec_wf_⟩
 have hdone : Hid (rAct bs a = aDone ⟨(k : Int), key, 0, xx, [], zeroRec, must⟩ b4) := hspec7
 clear f110 f120 f115 f109 fm
 go_wp2_with fail
 have cC := acheck_any ⟨(k : Int), key, 0, xx, [], zeroRec, must⟩ none 0 0 (by omega) hwfA.out _ st7.kd (hL9.out _)
 unfold actVal at cC
 refine cC.mono ?_; rintro e w9 ⟨rfl, hq⟩
 clear cC
 have stF := st7.cln hq
 have hLF : Hid (RdItems w9 none 0 zeroRec.list) := hL9.out _
 have hle9 : checkAct ⟨(k : Int), key, 0, xx, [], zeroRec, must⟩ ≤ 8 := checkAct_le _
 clear hq hc7 hf7 hl7 hs7 hm7 st7 hL9
 generalize hC : checkAct ⟨(k : Int), key, 0, xx, [], zeroRec, must⟩ = ck at hle9 ⊢
 replace hC := Lib.hid hC
 have hc9 := stF.b1.cell; have hf9 := stF.b1.frozen; have hl9 := stF.b1.lt; have hm9 := stF.b0.frozen; have hl0 := stF.b0.lt; have hc0 := stF.b0.cell
 have hn01 : ¬ w.heap.size = w.heap.size + 1 := by omega
 by_cases hz : ck = 0
 ·subst hz
  have hspF : Hid (rAct bs a = .ok (⟨(k : Int), key, 0, xx, [], zeroRec, must⟩, b4)) := by unfold Hid; rw [hdone.out]; unfold aDone; rw [if_pos hC.out]
  have hfin := Lib.hid (Blk.store14 stF.b0 (v0 := .int .i64 (k : Int)) (v1 := .string (str key)) (v2 := .int .i64 0) (v3 := .float .f64 xx) (v4 := .string ⟨#[]⟩) (v5 := .int .i64 0) (v6 := .int .i64 0) (v7 := .int .i64 0) (v8 := .int .i64 0) (v9 := .float .f64 0) (v10 := .int .i64 0) (v11 := .string ⟨#[]⟩) (v12 := .slice none 0 0) (v13 := .bool must))
  have hfk := fill14_kept w9 w.heap.size (.int .i64 (k : Int)) (.string (str key)) (.int .i64 0) (.float .f64 xx) (.string ⟨#[]⟩) (.int .i64 0) (.int .i64 0) (.int .i64 0) (.int .i64 0) (.float .f64 0) (.int .i64 0) (.string ⟨#[]⟩) (.slice none 0 0) (.bool must)
  have hRR := Lib.hid (stF.R.kept hfk (fun e => by have := stF.Bp; omega) (fun ad e => by have := stF.BA ad e; omega))
  have hKK := Lib.hid (stF.K.then_ hfk (fun i hi h2 => by exfalso; omega))
  have hLL := Lib.hid (hLF.out.kept hfk (fun ad e _ => by have := hge'.out ad e; omega))
  clear hfk stF hLF
  go_wp2_with fail
  refine bodyPost_ret (v := .agg #[.int .i64 (k : Int), .string (str key), .int .i64 0, .float .f64 xx, .string ⟨#[]⟩, .int .i64 0, .int .i64 0, .int .i64 0, .int .i64 0, .float .f64 0, .int .i64 0, .string ⟨#[]⟩, .slice none 0 0, .bool must]) ?_ rfl ?_
  ·exact results_cell_row Tryz.results76 _ _ w.heap.size 64 #[.int .i64 (k : Int), .string (str key), .int .i64 0, .float .f64 xx, .string ⟨#[]⟩, .int .i64 0, .int .i64 0, .int .i64 0, .int .i64 0, .float .f64 0, .int .i64 0, .string ⟨#[]⟩, .slice none 0 0, .bool must] (0, 0) _ rfl hfin.out Tryz.underlying64 rfl size_act
  ·rw [hspF.out]
   exact ⟨_, rfl, ⟨none, 0, 0, rfl, hLL.out, (fun ad e => by have := hge'.out ad e; omega), hwfA.out, by omega⟩, hRR.out, hKK.out⟩
 ·have hz1 : (((ck : Nat) : Int) == 0) = false := by rw [beq_eq_false_iff_ne]; omega
  have hz3 : (((ck : Nat) : Int) != 0) = true := by rw [bne_iff_ne]; omega
  have hspF : Hid (rAct bs a = .error (ck, b4)) := by unfold Hid; rw [hdone.out]; unfold aDone; rw [if_neg (by rw [hC.out]; exact hz), hC.out]
  go_wp2_with fail
  refine (Fail_any p A n c bs b4 ck _ stF.R).mono ?_
  rintro e w5 ⟨rfl, rfl⟩
  go_wp2_with fail
  refine ⟨rfl, ?_⟩
  rw [hspF.out]
  exact ⟨rfl, stF.K⟩

set_option maxHeartbeats 4000000 in
theorem atake_offer (p : Nat) (A : Option Addr) (n c : Nat) (bs : List UInt8) (a : Nat) (w : World) (hr : IsR w p A n c bs a) (hA : ∀ ad, A = some ad → ad.block < w.heap.size) (hK : KindsAt w)
  (k a1 : Nat) (hk : rUpto 21 bs a = .ok (k, a1)) (hk1 : 1 ≤ k ∧ k ≤ 21) (hN : hasF (k : Int) 110 = false) (hX : hasF (k : Int) 120 = true) (hS : hasF (k : Int) 115 = true) (hM : hasF (k : Int) 109 = false) :
  Calls Tryz.prog 76 #[.pointer (some ⟨p, 0, none⟩)] w (RPost (encAct w.heap.size) w p A n c bs (rAct bs a)) := by
 have hspec1 : Hid (rAct bs a = aMust k bs a1) := by unfold Hid rAct; simp only [hk]; rw [if_neg (by omega)]
 have hk0 : ((k : Int) == 0) = false := by rw [beq_eq_false_iff_ne]; omega
 have hkW : Hid (-9223372036854775808 ≤ (k : Int) ∧ (k : Int) < 9223372036854775808) := ⟨by omega, by omega⟩
 have hmo : mostOf (k : Int) < 1000 := by unfold mostOf; split <;> omega
 have hk' := Lib.hid hk
 clear hk hk1
 have hpl := hr.blk.lt
 have f110 : ∀ W, Calls Tryz.prog 100 #[.agg #[.string (str (wordOf (k : Int))), .int .i64 (onOf (k : Int) : Nat), .string (str (kindFs (k : Int)))], .int .u8 110] W fun e w' => e = .returned (.bool false) ∧ Cln W w' := fun W => hN ▸ field_any k 110 W
 have f120 : ∀ W, Calls Tryz.prog 100 #[.agg #[.string (str (wordOf (k : Int))), .int .i64 (onOf (k : Int) : Nat), .string (str (kindFs (k : Int)))], .int .u8 120] W fun e w' => e = .returned (.bool true) ∧ Cln W w' := fun W => hX ▸ field_any k 120 W
 have f115 : ∀ W, Calls Tryz.prog 100 #[.agg #[.string (str (wordOf (k : Int))), .int .i64 (onOf (k : Int) : Nat), .string (str (kindFs (k : Int)))], .int .u8 115] W fun e w' => e = .returned (.bool true) ∧ Cln W w' := fun W => hS ▸ field_any k 115 W
 have f109 : ∀ W, Calls Tryz.prog 100 #[.agg #[.string (str (wordOf (k : Int))), .int .i64 (onOf (k : Int) : Nat), .string (str (kindFs (k : Int)))], .int .u8 109] W fun e w' => e = .returned (.bool false) ∧ Cln W w' := fun W => hM ▸ field_any k 109 W
 have f0 : ∀ W, KindsAt W → Calls Tryz.prog 97 #[.int .i64 (k : Int)] W fun e w' => e = .returned (.agg #[.string (str (wordOf (k : Int))), .int .i64 (onOf (k : Int) : Nat), .string (str (kindFs (k : Int)))]) ∧ Cln W w' := fun W h => of_any (k : Int) W h
 have fm : ∀ W, Calls Tryz.prog 103 #[.agg #[.string (str (wordOf (k : Int))), .int .i64 (onOf (k : Int) : Nat), .string (str (kindFs (k : Int)))]] W fun e w' => e = .returned (.int .i64 (mostOf (k : Int) : Nat)) ∧ Cln W w' := fun W => most_any (k : Int) W
 replace hN := Lib.hid hN; replace hX := Lib.hid hX; replace hS := Lib.hid hS; replace hM := Lib.hid hM
 generalize wordOf (k : Int) = wd at f0 f110 f120 f115 f109 fm
 generalize onOf (k : Int) = on at f0 f110 f120 f115 f109 fm
 generalize kindFs (k : Int) = fl at f0 f110 f120 f115 f109 fm
 have hKl := hK.lt
 have hcl0 := hzWAct60 w
 have hb0 := (Blk.new w 64 #[.int .i64 0, .string ⟨#[]⟩, .int .i64 0, .float .f64 0, .string ⟨#[]⟩, .int .i64 0, .int .i64 0, .int .i64 0, .int .i64 0, .float .f64 0, .int .i64 0, .string ⟨#[]⟩, .slice none 0 0, .bool false]).alloc (.cells #[.int .i64 0, .string ⟨#[]⟩, .int .i64 0, .float .f64 0, .string ⟨#[]⟩, .int .i64 0, .int .i64 0, .int .i64 0, .int .i64 0, .float .f64 0, .int .i64 0, .string ⟨#[]⟩, .slice none 0 0, .bool false] 64)
 have hb1 := Blk.new (w.alloc (.cells #[.int .i64 0, .string ⟨#[]⟩, .int .i64 0, .float .f64 0, .string ⟨#[]⟩, .int .i64 0, .int .i64 0, .int .i64 0, .int .i64 0, .float .f64 0, .int .i64 0, .string ⟨#[]⟩, .slice none 0 0, .bool false] 64)) 64 #[.int .i64 0, .string ⟨#[]⟩, .int .i64 0, .float .f64 0, .string ⟨#[]⟩, .int .i64 0, .int .i64 0, .int .i64 0, .int .i64 0, .float .f64 0, .int .i64 0, .string ⟨#[]⟩, .slice none 0 0, .bool false]
 rw [World.size_alloc] at hb1
 go_enter Tryz.func76, Tryz.ntmps76
 go_wp2_with fail
 refine (upto_any p A n c bs a 21 (by omega) _ (hr.cln hcl0)).mono ?_
 intro e w1 h
 rcases h.cases with ⟨x, a2, v, hres, rfl, hv, hr2, hk2⟩ | ⟨f, hres, rfl, hk2⟩
 case inr => rw [hk'.out] at hres; cases hres
 rw [hk'.out] at hres
 injection hres with hres; injection hres with e1 e2; subst e1; subst e2
 have hv' : v = .int .i64 (k : Nat) := hv
 subst hv'
 clear hv h
 have hb0' := hb0.kept hk2 (show ¬ w.heap.size = p by omega)
 have hb1' := hb1.kept hk2 (show ¬ w.heap.size + 1 = p by omega)
 have hK1 := (Kept.of_below (S := (· = p)) hcl0).trans hk2
 have hKd := ((hK.cln hcl0).kept hk2 (kinds_ne (rest := [.int .i64 (a : Nat)]) hK hr.blk)).kept (keptSet w1 (w.heap.size + 1) 0 (.int .i64 (k : Int))) (show ¬ 1 = w.heap.size + 1 by omega)
 have hR1 := hr2.other (q := ⟨w.heap.size + 1, 0, none⟩) (by dsimp only; omega) (fun ad e => by have := hA ad e; dsimp only; omega) (.int .i64 (k : Int))
 have hb1s : Blk _ (w.heap.size + 1) 64 #[.int .i64 (k : Int), .string ⟨#[]⟩, .int .i64 0, .float .f64 0, .string ⟨#[]⟩, .int .i64 0, .int .i64 0, .int .i64 0, .int .i64 0, .float .f64 0, .int .i64 0, .string ⟨#[]⟩, .slice none 0 0, .bool false] := hb1'.set_ 0 (.int .i64 (k : Int))
 have hb0s := Lib.hid (hb0'.far (p := ⟨w.heap.size + 1, 0, none⟩) (by dsimp only; omega) (.int .i64 (k : Int)))
 have hKs := Lib.hid (hK1.setCell (p := ⟨w.heap.size + 1, 0, none⟩) (fun hl => by exfalso; dsimp only at hl; omega) (.int .i64 (k : Int)))
 have c1 := hb1'.cell 0; have f1 := hb1'.frozen 0; have l1 := hb1'.lt
 replace hR1 := Lib.hid hR1; replace hKd := Lib.hid hKd; replace hb1s := Lib.hid hb1s
 have hAo := Lib.hid hA
 clear hb0 hb1 hcl0 hr2 hk2 hb0' hb1' hK1 hK hA hr
 go_wp2_with fail
 refine (f0 _ hKd.out).mono ?_; rintro e w2 ⟨rfl, hq⟩
 have hsz2 : w.heap.size + 2 ≤ w2.heap.size := by have h1 := (hb1s.out.cln hq).lt; omega
 have hx2 : Cln _ (w2.alloc (.cells #[.string (str wd), .int .i64 (on : Nat), .string (str fl)] 161)) := cln_trans hq ((Below.refl _ _).alloc (Nat.le_refl _) _)
 have st0 : ATk w p A n c bs w2.heap.size #[.int .i64 (k : Int), .string ⟨#[]⟩, .int .i64 0, .float .f64 0, .string ⟨#[]⟩, .int .i64 0, .int .i64 0, .int .i64 0, .int .i64 0, .float .f64 0, .int .i64 0, .string ⟨#[]⟩, .slice none 0 0, .bool false] #[.string (str wd), .int .i64 (on : Nat), .string (str fl)] (w2.alloc (.cells #[.string (str wd), .int .i64 (on : Nat), .string (str fl)] 161)) a1 :=
  ⟨hR1.out.cln hx2, hKs.out.below_ hx2, hb0s.out.cln hx2, hb1s.out.cln hx2, Blk.new w2 _ _, hpl, hAo.out, hsz2, hKd.out.cln hx2, hKl⟩
 clear hq hx2 c1 f1 l1 hR1 hKs hb0s hb1s hKd f0
 have hne21 : ¬ w2.heap.size = w.heap.size + 1 := by omega
 have hne12 : ¬ w.heap.size + 1 = w2.heap.size := by omega
 have hc0 := st0.b1.cell; have hf0 := st0.b1.frozen; have hl0 := st0.b1.lt; have hs0 := st0.b2.cell; have hm0 := st0.b2.lt
 go_wp2_with fail
 refine (flag_any p A n c bs a1 _ st0.R).mono ?_
 intro e w' h
 rcases h.cases with ⟨must, b1, v, hres, rfl, hv, hr2, hk2⟩ | ⟨f, hres, rfl, hk2⟩
 case inr =>
  have hI : Hid (rAct bs a = .error f) := by unfold Hid; rw [hspec1.out]; unfold aMust; simp only [if_true, hres]
  clear hres h
  go_wp2_with fail
  refine ⟨rfl, ?_⟩
  rw [hI.out]
  exact ⟨rfl, st0.K.trans hk2⟩
 have hv' : v = .bool must := hv
 subst hv'
 have hspec2 : Hid (rAct bs a = aKey k must bs b1) := by unfold Hid; rw [hspec1.out]; unfold aMust; simp only [if_true, hres]
 have stm1 := st0.step hr2 hk2
 clear h hv hr2 hk2 hc0 hf0 hl0 hs0 hm0 st0
 replace hres := Lib.hid hres
 have hc1 := stm1.b1.cell; have hf1 := stm1.b1.frozen; have hl1 := stm1.b1.lt; have hs1 := stm1.b2.cell; have hm1 := stm1.b2.lt
 have st1 := stm1.store (cs1' := #[.int .i64 (k : Int), .string ⟨#[]⟩, .int .i64 0, .float .f64 0, .string ⟨#[]⟩, .int .i64 0, .int .i64 0, .int .i64 0, .int .i64 0, .float .f64 0, .int .i64 0, .string ⟨#[]⟩, .slice none 0 0, .bool must]) 13 (.bool must) rfl
 clear stm1
 go_wp2_with fail
 refine (s_any p A n c bs b1 24 (by omega) _ st1.R).mono ?_
 intro e w' h
 rcases h.cases with ⟨key, b2, v, hres, rfl, hv, hr2, hk2⟩ | ⟨f, hres, rfl, hk2⟩
 case inr =>
  have hI : Hid (rAct bs a = .error f) := by unfold Hid; rw [hspec2.out]; unfold aKey; simp only [if_true, hres]
  clear hres h
  go_wp2_with fail
  refine ⟨rfl, ?_⟩
  rw [hI.out]
  exact ⟨rfl, st1.K.trans hk2⟩
 have hv' : v = .string (str key) := hv
 subst hv'
 have hspec3 : Hid (rAct bs a = aN k must key bs b2) := by unfold Hid; rw [hspec2.out]; unfold aKey; simp only [if_true, hres]
 have stm2 := st1.step hr2 hk2
 clear h hv hr2 hk2 hc1 hf1 hl1 hs1 hm1 st1
 replace hres := Lib.hid hres
 have hc2 := stm2.b1.cell; have hf2 := stm2.b1.frozen; have hl2 := stm2.b1.lt; have hs2 := stm2.b2.cell; have hm2 := stm2.b2.lt
 have st2 := stm2.store (cs1' := #[.int .i64 (k : Int), .string (str key), .int .i64 0, .float .f64 0, .string ⟨#[]⟩, .int .i64 0, .int .i64 0, .int .i64 0, .int .i64 0, .float .f64 0, .int .i64 0, .string ⟨#[]⟩, .slice none 0 0, .bool must]) 1 (.string (str key)) rfl
 clear stm2
 go_wp2_with fail
 refine (f110 _).mono ?_; rintro e w' ⟨rfl, hq⟩
 have st3 := st2.cln hq
 clear hq hc2 hf2 hl2 hs2 hm2 st2
 have hc3 := st3.b1.cell; have hf3 := st3.b1.frozen; have hl3 := st3.b1.lt; have hs3 := st3.b2.cell; have hm3 := st3.b2.lt
 have hspec4 : Hid (rAct bs a = aX k must key 0 bs b2) := by unfold Hid; rw [hspec3.out]; unfold aN; rw [hN.out]; rfl
 go_wp2_with fail
 refine (f120 _).mono ?_; rintro e w' ⟨rfl, hq⟩
 have st4 := st3.cln hq
 clear hq hc3 hf3 hl3 hs3 hm3 st3
 have hc4 := st4.b1.cell; have hf4 := st4.b1.frozen; have hl4 := st4.b1.lt; have hs4 := st4.b2.cell; have hm4 := st4.b2.lt
 go_wp2_with fail
 refine (f_any p A n c bs b2 _ st4.R).mono ?_
 intro e w' h
 rcases h.cases with ⟨xx, b4, v, hres, rfl, hv, hr2, hk2⟩ | ⟨f, hres, rfl, hk2⟩
 case inr =>
  have hI : Hid (rAct bs a = .error f) := by unfold Hid; rw [hspec4.out]; unfold aX; simp only [hX.out, if_true, hres]
  clear hres h
  go_wp2_with fail
  refine ⟨rfl, ?_⟩
  rw [hI.out]
  exact ⟨rfl, st4.K.trans hk2⟩
 have hv' : v = .float .f64 xx := hv
 subst hv'
 have hspec5 : Hid (rAct bs a = aS k must key 0 xx bs b4) := by unfold Hid; rw [hspec4.out]; unfold aX; simp only [hX.out, if_true, hres]
 have hxW : Hid (xx < 18446744073709551616) := rF_lt hres
 have stm5 := st4.step hr2 hk2
 clear h hv hr2 hk2 hc4 hf4 hl4 hs4 hm4 st4
 replace hres := Lib.hid hres
 have hc5 := stm5.b1.cell; have hf5 := stm5.b1.frozen; have hl5 := stm5.b1.lt; have hs5 := stm5.b2.cell; have hm5 := stm5.b2.lt
 have st5 := stm5.store (cs1' := #[.int .i64 (k : Int), .string (str key), .int .i64 0, .float .f64 xx, .string ⟨#[]⟩, .int .i64 0, .int .i64 0, .int .i64 0, .int .i64 0, .float .f64 0, .int .i64 0, .string ⟨#[]⟩, .slice none 0 0, .bool must]) 3 (.float .f64 xx) rfl
 clear stm5
 go_wp2_with fail
 refine (f115 _).mono ?_; rintro e w' ⟨rfl, hq⟩
 have st6 := st5.cln hq
 clear hq hc5 hf5 hl5 hs5 hm5 st5
 have hc6 := st6.b1.cell; have hf6 := st6.b1.frozen; have hl6 := st6.b1.lt; have hs6 := st6.b2.cell; have hm6 := st6.b2.lt
 go_wp2_with fail
 refine (fm _).mono ?_; rintro e w' ⟨rfl, hq⟩
 have st7 := st6.cln hq
 clear hq hc6 hf6 hl6 hs6 hm6 st6
 have hc7 := st7.b1.cell; have hf7 := st7.b1.frozen; have hl7 := st7.b1.lt; have hs7 := st7.b2.cell; have hm7 := st7.b2.lt
 go_wp2_with fail
 refine (s_any p A n c bs b4 (mostOf (k : Int)) (by omega) _ st7.R).mono ?_
 intro e w' h
 rcases h.cases with ⟨ss, b5, v, hres, rfl, hv, hr2, hk2⟩ | ⟨f, hres, rfl, hk2⟩
 case inr =>
  have hI : Hid (rAct bs a = .error f) := by unfold Hid; rw [hspec5.out]; unfold aS; simp only [hS.out, if_true, hres]
  clear hres h
  go_wp2_with fail
  refine ⟨rfl, ?_⟩
  rw [hI.out]
  exact ⟨rfl, st7.K.trans hk2⟩
 have hv' : v = .string (str ss) := hv
 subst hv'
 have hspec6 : Hid (rAct bs a = aM k must key 0 xx ss bs b5) := by unfold Hid; rw [hspec5.out]; unfold aS; simp only [hS.out, if_true, hres]
 have stm8 := st7.step hr2 hk2
 clear h hv hr2 hk2 hc7 hf7 hl7 hs7 hm7 st7
 replace hres := Lib.hid hres
 have hc8 := stm8.b1.cell; have hf8 := stm8.b1.frozen; have hl8 := stm8.b1.lt; have hs8 := stm8.b2.cell; have hm8 := stm8.b2.lt
 have st8 := stm8.store (cs1' := #[.int .i64 (k : Int), .string (str key), .int .i64 0, .float .f64 xx, .string (str ss), .int .i64 0, .int .i64 0, .int .i64 0, .int .i64 0, .float .f64 0, .int .i64 0, .string ⟨#[]⟩, .slice none 0 0, .bool must]) 4 (.string (str ss)) rfl
 clear stm8
 go_wp2_with fail
 refine (f109 _).mono ?_; rintro e w' ⟨rfl, hq⟩
 have st9 := st8.cln hq
 clear hq hc8 hf8 hl8 hs8 hm8 st8
 have hc9 := st9.b1.cell; have hf9 := st9.b1.frozen; have hl9 := st9.b1.lt; have hs9 := st9.b2.cell; have hm9 := st9.b2.lt
 have hspec7 : Hid (rAct bs a = aDone ⟨(k : Int), key, 0, xx, ss, zeroRec, must⟩ b5) := by unfold Hid; rw [hspec6.out]; unfold aM; rw [hM.out]; rfl
 have hL9 : Hid (∀ W : World, RdItems W none 0 zeroRec.list) := fun W => RdItems.none_ W
 have hge' : Hid (∀ ad, (none : Option Addr) = some ad → w.heap.size + 2 ≤ ad.block) := fun ad e => by cases e
 have hwfA : Hid ((⟨(k : Int), key, 0, xx, ss, zeroRec, must⟩ : MAct).WF) := ⟨hkW.out, z64, hxW.out, zeroRec_wf_⟩
 have hdone : Hid (rAct bs a = aDone ⟨(k : Int), key, 0, xx, ss, zeroRec, must⟩ b5) := hspec7
 clear f110 f120 f115 f109 fm
 go_wp2_with fail
 have cC := acheck_any ⟨(k : Int), key, 0, xx, ss, zeroRec, must⟩ none 0 0 (by omega) hwfA.out _ st9.kd (hL9.out _)
 unfold actVal at cC
 refine cC.mono ?_; rintro e w9 ⟨rfl, hq⟩
 clear cC
 have stF := st9.cln hq
 have hLF : Hid (RdItems w9 none 0 zeroRec.list) := hL9.out _
 have hle9 : checkAct ⟨(k : Int), key, 0, xx, ss, zeroRec, must⟩ ≤ 8 := checkAct_le _
 clear hq hc9 hf9 hl9 hs9 hm9 st9 hL9
 generalize hC : checkAct ⟨(k : Int), key, 0, xx, ss, zeroRec, must⟩ = ck at hle9 ⊢
 replace hC := Lib.hid hC
 have hc9 := stF.b1.cell; have hf9 := stF.b1.frozen; have hl9 := stF.b1.lt; have hm9 := stF.b0.frozen; have hl0 := stF.b0.lt; have hc0 := stF.b0.cell
 have hn01 : ¬ w.heap.size = w.heap.size + 1 := by omega
 by_cases hz : ck = 0
 ·subst hz
  have hspF : Hid (rAct bs a = .ok (⟨(k : Int), key, 0, xx, ss, zeroRec, must⟩, b5)) := by unfold Hid; rw [hdone.out]; unfold aDone; rw [if_pos hC.out]
  have hfin := Lib.hid (Blk.store14 stF.b0 (v0 := .int .i64 (k : Int)) (v1 := .string (str key)) (v2 := .int .i64 0) (v3 := .float .f64 xx) (v4 := .string (str ss)) (v5 := .int .i64 0) (v6 := .int .i64 0) (v7 := .int .i64 0) (v8 := .int .i64 0) (v9 := .float .f64 0) (v10 := .int .i64 0) (v11 := .string ⟨#[]⟩) (v12 := .slice none 0 0) (v13 := .bool must))
  have hfk := fill14_kept w9 w.heap.size (.int .i64 (k : Int)) (.string (str key)) (.int .i64 0) (.float .f64 xx) (.string (str ss)) (.int .i64 0) (.int .i64 0) (.int .i64 0) (.int .i64 0) (.float .f64 0) (.int .i64 0) (.string ⟨#[]⟩) (.slice none 0 0) (.bool must)
  have hRR := Lib.hid (stF.R.kept hfk (fun e => by have := stF.Bp; omega) (fun ad e => by have := stF.BA ad e; omega))
  have hKK := Lib.hid (stF.K.then_ hfk (fun i hi h2 => by exfalso; omega))
  have hLL := Lib.hid (hLF.out.kept hfk (fun ad e _ => by have := hge'.out ad e; omega))
  clear hfk stF hLF
  go_wp2_with fail
  refine bodyPost_ret (v := .agg #[.int .i64 (k : Int), .string (str key), .int .i64 0, .float .f64 xx, .string (str ss), .int .i64 0, .int .i64 0, .int .i64 0, .int .i64 0, .float .f64 0, .int .i64 0, .string ⟨#[]⟩, .slice none 0 0, .bool must]) ?_ rfl ?_
  ·exact results_cell_row Tryz.results76 _ _ w.heap.size 64 #[.int .i64 (k : Int), .string (str key), .int .i64 0, .float .f64 xx, .string (str ss), .int .i64 0, .int .i64 0, .int .i64 0, .int .i64 0, .float .f64 0, .int .i64 0, .string ⟨#[]⟩, .slice none 0 0, .bool must] (0, 0) _ rfl hfin.out Tryz.underlying64 rfl size_act
  ·rw [hspF.out]
   exact ⟨_, rfl, ⟨none, 0, 0, rfl, hLL.out, (fun ad e => by have := hge'.out ad e; omega), hwfA.out, by omega⟩, hRR.out, hKK.out⟩
 ·have hz1 : (((ck : Nat) : Int) == 0) = false := by rw [beq_eq_false_iff_ne]; omega
  have hz3 : (((ck : Nat) : Int) != 0) = true := by rw [bne_iff_ne]; omega
  have hspF : Hid (rAct bs a = .error (ck, b5)) := by unfold Hid; rw [hdone.out]; unfold aDone; rw [if_neg (by rw [hC.out]; exact hz), hC.out]
  go_wp2_with fail
  refine (Fail_any p A n c bs b5 ck _ stF.R).mono ?_
  rintro e w5 ⟨rfl, rfl⟩
  go_wp2_with fail
  refine ⟨rfl, ?_⟩
  rw [hspF.out]
  exact ⟨rfl, stF.K⟩

set_option maxHeartbeats 4000000 in
theorem atake_err (p : Nat) (A : Option Addr) (n c : Nat) (bs : List UInt8) (a : Nat) (w : World) (hr : IsR w p A n c bs a) (er : RErr) (hk : rUpto 21 bs a = .error er) :
  Calls Tryz.prog 76 #[.pointer (some ⟨p, 0, none⟩)] w (RPost (encAct w.heap.size) w p A n c bs (rAct bs a)) := by
 have hspec1 : Hid (rAct bs a = .error er) := by unfold Hid rAct; simp only [hk]
 have hk' := Lib.hid hk
 clear hk
 have hcl0 := hzWAct60 w
 go_enter Tryz.func76, Tryz.ntmps76
 go_wp2_with fail
 refine (upto_any p A n c bs a 21 (by omega) _ (hr.cln hcl0)).mono ?_
 intro e w1 h
 rcases h.cases with ⟨x, a2, v, hres, rfl, hv, hr2, hk2⟩ | ⟨f, hres, rfl, hk2⟩
 case inl => rw [hk'.out] at hres; cases hres
 rw [hk'.out] at hres
 injection hres with hres; subst hres
 clear h
 go_wp2_with fail
 refine ⟨rfl, ?_⟩
 rw [hspec1.out]
 exact ⟨rfl, (Kept.of_below (S := (· = p)) hcl0).trans hk2⟩
set_option maxHeartbeats 4000000 in
theorem atake_zero (p : Nat) (A : Option Addr) (n c : Nat) (bs : List UInt8) (a : Nat) (w : World) (hr : IsR w p A n c bs a) (hA : ∀ ad, A = some ad → ad.block < w.heap.size) (a1 : Nat) (hk : rUpto 21 bs a = .ok (0, a1)) :
  Calls Tryz.prog 76 #[.pointer (some ⟨p, 0, none⟩)] w (RPost (encAct w.heap.size) w p A n c bs (rAct bs a)) := by
 have hspec1 : Hid (rAct bs a = .error (5, a1)) := by unfold Hid rAct; simp only [hk]; rfl
 have hk' := Lib.hid hk
 clear hk
 have hpl := hr.blk.lt
 have hcl0 := hzWAct60 w
 have hb1 := Blk.new (w.alloc (.cells #[.int .i64 0, .string ⟨#[]⟩, .int .i64 0, .float .f64 0, .string ⟨#[]⟩, .int .i64 0, .int .i64 0, .int .i64 0, .int .i64 0, .float .f64 0, .int .i64 0, .string ⟨#[]⟩, .slice none 0 0, .bool false] 64)) 64 #[.int .i64 0, .string ⟨#[]⟩, .int .i64 0, .float .f64 0, .string ⟨#[]⟩, .int .i64 0, .int .i64 0, .int .i64 0, .int .i64 0, .float .f64 0, .int .i64 0, .string ⟨#[]⟩, .slice none 0 0, .bool false]
 rw [World.size_alloc] at hb1
 go_enter Tryz.func76, Tryz.ntmps76
 go_wp2_with fail
 refine (upto_any p A n c bs a 21 (by omega) _ (hr.cln hcl0)).mono ?_
 intro e w1 h
 rcases h.cases with ⟨x, a2, v, hres, rfl, hv, hr2, hk2⟩ | ⟨f, hres, rfl, hk2⟩
 case inr => rw [hk'.out] at hres; cases hres
 rw [hk'.out] at hres
 injection hres with hres; injection hres with e1 e2; subst e1; subst e2
 have hv' : v = .int .i64 (0 : Nat) := hv
 subst hv'
 clear hv h
 have hb1' := hb1.kept hk2 (show ¬ w.heap.size + 1 = p by omega)
 have l1 := hb1'.lt; have c1 := hb1'.cell 0; have f1 := hb1'.frozen 0
 have hK1 := (Kept.of_below (S := (· = p)) hcl0).trans hk2
 have hR := Lib.hid (hr2.other (q := ⟨w.heap.size + 1, 0, none⟩) (by dsimp only; omega) (fun ad e => by have := hA ad e; dsimp only; omega) (.int .i64 0))
 have hK2 := Lib.hid (hK1.setCell (p := ⟨w.heap.size + 1, 0, none⟩) (fun hl => by exfalso; dsimp only at hl; omega) (.int .i64 0))
 clear hb1 hcl0 hA hr hr2 hb1' hk2 hK1
 go_wp2_with fail
 refine (Fail_any p A n c bs a1 5 _ hR.out).mono ?_
 rintro e w5 ⟨rfl, rfl⟩
 go_wp2_with fail
 refine ⟨rfl, ?_⟩
 rw [hspec1.out]
 exact ⟨rfl, hK2.out⟩
theorem atake_any (p : Nat) (A : Option Addr) (n c : Nat) (bs : List UInt8) (a : Nat) (w : World) (hr : IsR w p A n c bs a) (hA : ∀ ad, A = some ad → ad.block < w.heap.size) (hK : KindsAt w) :
  Calls Tryz.prog 76 #[.pointer (some ⟨p, 0, none⟩)] w (RPost (encAct w.heap.size) w p A n c bs (rAct bs a)) := by
 cases h : rUpto 21 bs a with
 | error er => exact atake_err p A n c bs a w hr er h
 | ok x =>
  obtain ⟨k, a1⟩ := x
  have hk := rUpto_le h
  by_cases h0 : k = 0
  ·subst h0; exact atake_zero p A n c bs a w hr hA a1 h
  have hk1 : 1 ≤ k ∧ k ≤ 21 := by omega
  rcases act_class k hk1 with ⟨hN, hX, hS, hM, he⟩ | ⟨hN, hX, hS, hM, he⟩ | ⟨hN, hX, hS, hM, he⟩ | ⟨hN, hX, hS, hM, he⟩ | ⟨hN, hX, hS, hM, he⟩ | ⟨hN, hX, hS, hM, he⟩
  ·exact atake_none p A n c bs a w hr hA hK k a1 h hk1 hN hX hS hM
  ·exact atake_make p A n c bs a w hr hA hK k a1 h hk1 hN hX hS hM
  ·exact atake_text p A n c bs a w hr hA hK k a1 h hk1 hN hX hS hM
  ·exact atake_num p A n c bs a w hr hA hK k a1 h hk1 hN hX hS hM
  ·exact atake_real p A n c bs a w hr hA hK k a1 h hk1 hN hX hS hM
  ·exact atake_offer p A n c bs a w hr hA hK k a1 h hk1 hN hX hS hM
end Go.Proofs.YtbemnfbndjolpaaGreatDoor
