/- The law ActBytes. (Printed by wip/tools/gen_lactb.py.) -/
import Derived.Test.YtocllhghbmbjpaaDoorWActSp
import Derived.Test.YtocllhghbmbjpaaDoorWAct7
import Derived.Test.YtocllhghbmbjpaaDoorWAct8
import Derived.Deep.RegionWith
set_option linter.unusedSimpArgs false
set_option linter.unusedVariables false
set_option maxRecDepth 20000
namespace Go.Proofs.YtocllhghbmbjpaaDoor
open Go.RowKit Moi
attribute [local go_sem] toList_str str_size less_ltB store_float
theorem actParts_wf {a : MAct} {k : Nat} (hk : a.kind = (k : Int)) (hck : checkAct a = 0) (hf : FullA a) : ∀ p ∈ actParts k a, p.WF := by
  obtain ⟨h1, h2, h3, h4, hb, h6, h7, h8⟩ := act_ok hck
  have hs := act_s hck
  have hm := hasF_109 k (by omega)
  intro p hp
  unfold actParts at hp
  rcases List.mem_append.1 hp with hp | hp
  · simp at hp
    rcases hp with rfl | rfl | rfl
    · show k < _; omega
    · trivial
    · show a.key.length ≤ _; omega
  rcases List.mem_append.1 hp with hp | hp
  · split at hp
    · simp at hp; subst hp; exact hf.wf.n
    · cases hp
  rcases List.mem_append.1 hp with hp | hp
  · split at hp
    · simp at hp; subst hp; exact fkey_lt _ hf.wf.x
    · cases hp
  rcases List.mem_append.1 hp with hp | hp
  · split at hp
    · simp at hp; subst hp; show a.s.length ≤ _; omega
    · cases hp
  · split at hp
    · rename_i h9
      rw [hm] at h9
      exact recParts_wf (h8 (by have := of_decide_eq_true h9; omega)) ⟨hf.wf.make, hf.sc⟩ p hp
    · cases hp
theorem actParts_len {a : MAct} {k : Nat} (hk : a.kind = (k : Int)) (hck : checkAct a = 0) : (actParts k a).length ≤ 2000 := by
  obtain ⟨h1, h2, h3, h4, hb, h6, h7, h8⟩ := act_ok hck
  have hm := hasF_109 k (by omega)
  have e : (if hasF k 109 then recParts a.make else []).length ≤ 1000 := by
    split
    · rename_i h9
      rw [hm] at h9
      exact recParts_len (h8 (by have := of_decide_eq_true h9; omega))
    · simp
  have e1 : (if hasF k 110 then [MPart.i a.n] else []).length ≤ 1 := by split <;> simp
  have e2 : (if hasF k 120 then [MPart.f (fkey a.x)] else []).length ≤ 1 := by split <;> simp
  have e3 : (if hasF k 115 then [MPart.s a.s] else []).length ≤ 1 := by split <;> simp
  unfold actParts
  simp only [List.length_append, List.length_cons, List.length_nil]
  omega
theorem aparts_any (a : MAct) (k : Nat) (hk : a.kind = (k : Int)) (hck : checkAct a = 0) (hf : a.WF) (A : Option Addr) (n c : Nat) (w : World) (hr : RdItems w A n a.make.list) :
    Calls Tryd.prog 46 #[.agg #[.int .i64 a.kind, .string (str a.key), .int .i64 a.n, .float .f64 a.x, .string (str a.s), .int .i64 a.make.kind, .int .i64 a.make.num, .int .i64 a.make.low, .int .i64 a.make.high, .float .f64 a.make.real, .int .i64 a.make.cap, .string (str a.make.text), .slice A n c, .bool a.must]] w (NewParts w (actParts k a)) := by
  obtain ⟨h1, h2, _, _, _, _, _, h8⟩ := act_ok hck
  rw [hk]
  have hk1 : 1 ≤ k ∧ k ≤ 21 := by omega
  rcases act_class k hk1 with ⟨hN, hX, hS, hM, he⟩ | ⟨hN, hX, hS, hM, he⟩ | ⟨hN, hX, hS, hM, he⟩ | ⟨hN, hX, hS, hM, he⟩ | ⟨hN, hX, hS, hM, he⟩ | ⟨hN, hX, hS, hM, he⟩
  · exact aparts_none a k hk1 hN hX hS hM he hf.x trivial hf.make A n c w hr
  · exact aparts_make a k hk1 hN hX hS hM he hf.x (h8 (by omega)) hf.make A n c w hr
  · exact aparts_text a k hk1 hN hX hS hM he hf.x trivial hf.make A n c w hr
  · exact aparts_num a k hk1 hN hX hS hM he hf.x trivial hf.make A n c w hr
  · exact aparts_real a k hk1 hN hX hS hM he hf.x trivial hf.make A n c w hr
  · exact aparts_offer a k hk1 hN hX hS hM he hf.x trivial hf.make A n c w hr
set_option maxHeartbeats 4000000 in
theorem rabytes_any (a : MAct) (hck : checkAct a = 0) (hf : FullA a) (A : Option Addr) (n c : Nat) (w : World) (hit : RdItems w A n a.make.list) :
    Calls Tryd.prog 21 #[.agg #[.int .i64 a.kind, .string (str a.key), .int .i64 a.n, .float .f64 a.x, .string (str a.s), .int .i64 a.make.kind, .int .i64 a.make.num, .int .i64 a.make.low, .int .i64 a.make.high, .float .f64 a.make.real, .int .i64 a.make.cap, .string (str a.make.text), .slice A n c, .bool a.must]] w (NewBytes w (wAct a)) := by
  obtain ⟨k, hk⟩ : ∃ k : Nat, a.kind = (k : Int) := ⟨a.kind.toNat, by have := (act_ok hck).1; omega⟩
  have cP : ∀ W : World, Cln w W → Calls Tryd.prog 46 #[.agg #[.int .i64 a.kind, .string (str a.key), .int .i64 a.n, .float .f64 a.x, .string (str a.s), .int .i64 a.make.kind, .int .i64 a.make.num, .int .i64 a.make.low, .int .i64 a.make.high, .float .f64 a.make.real, .int .i64 a.make.cap, .string (str a.make.text), .slice A n c, .bool a.must]] W (NewParts W (actParts k a)) := fun W h => aparts_any a k hk hck hf.wf A n c W (hit.cln h)
  have hwf := Lib.hid (actParts_wf hk hck hf)
  have hlen := actParts_len hk hck
  have hcat := Lib.hid (catParts_act k a hk)
  have hsum : Hid ((catParts (actParts k a)).length ≤ 100000000) := by
    unfold Hid; rw [hcat.out]; have := wAct_len hck hf.wf; omega
  have hb0 := Blk.new w 33 #[.int .i64 a.kind, .string (str a.key), .int .i64 a.n, .float .f64 a.x, .string (str a.s), .int .i64 a.make.kind, .int .i64 a.make.num, .int .i64 a.make.low, .int .i64 a.make.high, .float .f64 a.make.real, .int .i64 a.make.cap, .string (str a.make.text), .slice A n c, .bool a.must]
  have u0 := hb0.cell; have l0 := hb0.lt
  replace hk := Lib.hid hk
  clear hb0 hit
  go_enter Tryd.func21, Tryd.ntmps21
  go_wp2_with fail
  refine (cP _ (by (repeat (first | (with_reducible exact Below.refl _ _) | (with_reducible assumption) | (with_reducible refine Below.setCell ?_ (by first | omega | (simp; done) | (simp; omega)) _) | (with_reducible refine Below.alloc ?_ (by first | omega | (simp; done) | (simp; omega)) _) | (with_reducible refine Below.drew ?_) | (with_reducible refine below_drewN ?_ _))))).mono ?_; rintro e w2 ⟨A2, c2, n2, rfl, hrd, hq⟩
  have hcl := Lib.hid (show Cln w w2 from cln_trans (by (repeat (first | (with_reducible exact Below.refl _ _) | (with_reducible assumption) | (with_reducible refine Below.setCell ?_ (by first | omega | (simp; done) | (simp; omega)) _) | (with_reducible refine Below.alloc ?_ (by first | omega | (simp; done) | (simp; omega)) _) | (with_reducible refine Below.drew ?_) | (with_reducible refine below_drewN ?_ _)))) hq)
  have hl2 := hrd.len
  have hn2 : n2 ≤ 2000 := by omega
  replace hl2 := Lib.hid hl2
  clear hq u0 l0
  go_wp2_with fail
  refine (write_any (actParts k a) A2 n2 c2 (by omega) (fun i hi => hwf.out _ (partAt_mem (by rw [hl2.out]; exact hi))) hsum.out _ hrd).mono ?_
  rintro e w3 ⟨A3, c3, m, hm, rfl, hown, hq⟩
  rw [hcat.out] at hm hown
  replace hown := Lib.hid (own_base hown hcl.out.size)
  replace hq := Lib.hid (cln_trans hcl.out hq)
  go_wp2_with fail
  go_ret
  exact ⟨A3, c3, m, hm, rfl, hown.out, hq.out⟩
theorem conv_actB {W : World} {A : Option Addr} {n : Nat} {bs : List UInt8} (h : RdBytes W A n bs) (c : Nat) : ∀ W', Cln W W' → (convert 38 9 (.slice A n c)).run Tryd.prog W' = .ok (.string (str bs)) W' :=
  fun W' k => conv_all (h.cln k) c
set_option maxHeartbeats 8000000 in
theorem lActBytes (a : MAct) (A : Option Addr) (n c : Nat) (hf : a.WF) (w : World) (hK : KindsAt w) (hr : RdItems w A n a.make.list) :
    Calls Tryd.prog 5 #[actVal a A n c] w fun e w' => e = .returned (.bool true) ∧ Cln w w' := by
  have hn : Hid (a.make.list.length = n) := hr.len
  have hfa : Hid (FullA a) := ⟨hf, fun x hx => by
    obtain ⟨i, hi, rfl⟩ := List.getElem_of_mem hx
    have := hr.wf i
    simpa [itAt, hi] using this⟩
  have hax := hf.x; have har := hf.make.real
  replace hf := Lib.hid hf
  have hb0 := Blk.new w 33 #[.int .i64 a.kind, .string (str a.key), .int .i64 a.n, .float .f64 a.x, .string (str a.s), .int .i64 a.make.kind, .int .i64 a.make.num, .int .i64 a.make.low, .int .i64 a.make.high, .float .f64 a.make.real, .int .i64 a.make.cap, .string (str a.make.text), .slice A n c, .bool a.must]
  have hcl : Cln w (w.alloc (.cells #[.int .i64 a.kind, .string (str a.key), .int .i64 a.n, .float .f64 a.x, .string (str a.s), .int .i64 a.make.kind, .int .i64 a.make.num, .int .i64 a.make.low, .int .i64 a.make.high, .float .f64 a.make.real, .int .i64 a.make.cap, .string (str a.make.text), .slice A n c, .bool a.must] 33)) := by (repeat (first | (with_reducible exact Below.refl _ _) | (with_reducible assumption) | (with_reducible refine Below.setCell ?_ (by first | omega | (simp; done) | (simp; omega)) _) | (with_reducible refine Below.alloc ?_ (by first | omega | (simp; done) | (simp; omega)) _) | (with_reducible refine Below.drew ?_) | (with_reducible refine below_drewN ?_ _)))
  have cSp := speaks_act _ (hK.cln hcl)
  rw [show actVal a A n c = .agg #[.int .i64 a.kind, .string (str a.key), .int .i64 a.n, .float .f64 a.x, .string (str a.s), .int .i64 a.make.kind, .int .i64 a.make.num, .int .i64 a.make.low, .int .i64 a.make.high, .float .f64 a.make.real, .int .i64 a.make.cap, .string (str a.make.text), .slice A n c, .bool a.must] from rfl]
  go_enter Tryd.func5, Tryd.ntmps5
  go_wp2_with fail
  refine cSp.mono ?_; rintro e w1 ⟨rfl, hq⟩
  clear cSp
  have hA1 := Lib.hid (hb0.cln hq)
  have hcl1 := Lib.hid (cln_trans hcl hq)
  have hr1 := Lib.hid (hr.cln hcl1.out)
  have hK1 := Lib.hid (hK.cln hcl1.out)
  clear hb0 hcl hq hr hK
  have uA := hA1.out.cell; have lA := hA1.out.lt
  have hcur : Hid (Cln w1 w1) := Below.refl _ _
  go_wp2_with fail
  have cG := bigA_any a A n c _ hr1.out
  unfold actVal at cG
  refine cG.mono ?_; rintro e w2 ⟨rfl, hq⟩
  clear cG
  have hcur := Lib.hid (cln_trans hcur.out hq)
  clear hq uA lA
  have uA := (hA1.out.cln hcur.out).cell
  have lA := (hA1.out.cln hcur.out).lt
  rcases bigA_or a with hbig | hbig
  case inr =>
    rw [hbig]
    go_wp2_with fail
    go_ret
    exact ⟨rfl, cln_trans hcl1.out hcur.out⟩
  have hn1 : n ≤ 1000 := by have := (bigN_le a.make (bigA_le hbig).2.2).1; rw [hn.out] at this; omega
  rw [hbig]
  clear hbig hn
  go_wp2_with fail
  have cB := bytes_act a hf.out A n c (by omega) _ (hK1.out.cln hcur.out) (hr1.out.cln hcur.out)
  unfold actVal at cB
  refine cB.mono ?_; rintro e w3 ⟨A3, c3, m, hm, rfl, hown, hq⟩
  clear cB
  obtain ⟨hrd, hmc, hml, hA3⟩ := newBytes_ok hown
  have hcur := Lib.hid (cln_trans hcur.out hq)
  clear hq uA lA
  have uA := (hA1.out.cln hcur.out).cell
  have lA := (hA1.out.cln hcur.out).lt
  replace hrd := Lib.hid hrd; replace hA3 := Lib.hid hA3; replace hml := Lib.hid hml
  clear hown
  go_wp2_with fail
  have cC := racheck_any a A n c (by omega) hf.out _ (hr1.out.cln hcur.out)
  unfold actVal at cC
  refine cC.mono ?_; rintro e w4 ⟨rfl, hq⟩
  clear cC
  have hrd4 := Lib.hid (hrd.out.cln hq)
  have hsz4 := hq.size
  have hcur := Lib.hid (cln_trans hcur.out hq)
  clear hq uA lA
  have uA := (hA1.out.cln hcur.out).cell
  have lA := (hA1.out.cln hcur.out).lt
  clear hrd
  by_cases hck : checkAct a = 0
  case neg =>
    have hz : m = 0 := by rw [hml.out]; unfold actBytes; rw [if_neg hck]; rfl
    have t3 : (((checkAct a : Nat) : Int) != 0) = true := by rw [bne_iff_ne]; omega
    have t4 : ((m : Int) == 0) = true := by rw [beq_iff_eq]; omega
    go_wp2_with fail
    go_ret
    exact ⟨ret_bool (by simp [hz]), cln_trans hcl1.out hcur.out⟩
  have t3 : (((checkAct a : Nat) : Int) != 0) = false := by rw [hck]; rfl
  have eb : actBytes a = wAct a := by unfold actBytes; rw [if_pos hck]
  rw [eb] at hrd4 hml
  have hm1400 : m ≤ 1400 := by rw [hml.out]; exact wAct_len hck hf.out
  have hck' := Lib.hid hck
  clear hck eb
  replace hm := Lib.hid hm
  go_wp2_with fail
  refine (aread_any A3 m c3 (wAct a) w4 (hK1.out.cln hcur.out) hrd4.out hmc (by omega) (fun ad e => by have := (hA3.out ad e).1; omega)).mono ?_
  rw [readAct_wAct hck'.out hfa.out]
  have hxs : Hid (sameAct (norm a) a = true) := norm_same a hck'.out
  rintro e w5 ⟨AL, nL, cL, rfl, hIL, hgeL, hwL, hn32, hq⟩
  dsimp only at hIL hwL
  generalize norm a = x at hIL hwL hxs ⊢
  rw [show actVal x AL nL cL = .agg #[.int .i64 x.kind, .string (str x.key), .int .i64 x.n, .float .f64 x.x, .string (str x.s), .int .i64 x.make.kind, .int .i64 x.make.num, .int .i64 x.make.low, .int .i64 x.make.high, .float .f64 x.make.real, .int .i64 x.make.cap, .string (str x.make.text), .slice AL nL cL, .bool x.must] from rfl, show faultAgg (0, 0) = .agg #[.int .i64 0, .int .i64 0] from rfl]
  have hclX : Cln w5 ((w5.alloc (.cells #[.int .i64 x.kind, .string (str x.key), .int .i64 x.n, .float .f64 x.x, .string (str x.s), .int .i64 x.make.kind, .int .i64 x.make.num, .int .i64 x.make.low, .int .i64 x.make.high, .float .f64 x.make.real, .int .i64 x.make.cap, .string (str x.make.text), .slice AL nL cL, .bool x.must] 33)).alloc (.cells #[.int .i64 0, .int .i64 0] 41)) := by (repeat (first | (with_reducible exact Below.refl _ _) | (with_reducible assumption) | (with_reducible refine Below.setCell ?_ (by first | omega | (simp; done) | (simp; omega)) _) | (with_reducible refine Below.alloc ?_ (by first | omega | (simp; done) | (simp; omega)) _) | (with_reducible refine Below.drew ?_) | (with_reducible refine below_drewN ?_ _)))
  have hrd5 := Lib.hid ((hrd4.out.cln hq).cln hclX)
  have hIL5 := Lib.hid (RdItems.cln hIL hclX)
  have hxx := hwL.x; have hxr := hwL.make.real
  have hbX := Lib.hid ((Blk.new w5 33 #[.int .i64 x.kind, .string (str x.key), .int .i64 x.n, .float .f64 x.x, .string (str x.s), .int .i64 x.make.kind, .int .i64 x.make.num, .int .i64 x.make.low, .int .i64 x.make.high, .float .f64 x.make.real, .int .i64 x.make.cap, .string (str x.make.text), .slice AL nL cL, .bool x.must]).alloc (.cells #[.int .i64 0, .int .i64 0] 41))
  have hbF := Blk.new (w5.alloc (.cells #[.int .i64 x.kind, .string (str x.key), .int .i64 x.n, .float .f64 x.x, .string (str x.s), .int .i64 x.make.kind, .int .i64 x.make.num, .int .i64 x.make.low, .int .i64 x.make.high, .float .f64 x.make.real, .int .i64 x.make.cap, .string (str x.make.text), .slice AL nL cL, .bool x.must] 33)) 41 #[.int .i64 0, .int .i64 0]
  rw [World.size_alloc] at hbF
  have hsz5 : w.heap.size < w5.heap.size := (hA1.out.cln (cln_trans hcur.out hq)).lt
  have hcurB := Lib.hid (cln_trans (cln_trans hcur.out hq) hclX)
  have hA5 := Lib.hid (hA1.out.cln hcurB.out)
  have hr5 := Lib.hid (hr1.out.cln hcurB.out)
  clear uA lA hrd4 hIL hgeL hq hclX hcur hwL
  have hcv := conv_actB hrd5.out c3
  have cB : ∀ W : World, Cln ((w5.alloc (.cells #[.int .i64 x.kind, .string (str x.key), .int .i64 x.n, .float .f64 x.x, .string (str x.s), .int .i64 x.make.kind, .int .i64 x.make.num, .int .i64 x.make.low, .int .i64 x.make.high, .float .f64 x.make.real, .int .i64 x.make.cap, .string (str x.make.text), .slice AL nL cL, .bool x.must] 33)).alloc (.cells #[.int .i64 0, .int .i64 0] 41)) W → Calls Tryd.prog 21 #[.agg #[.int .i64 a.kind, .string (str a.key), .int .i64 a.n, .float .f64 a.x, .string (str a.s), .int .i64 a.make.kind, .int .i64 a.make.num, .int .i64 a.make.low, .int .i64 a.make.high, .float .f64 a.make.real, .int .i64 a.make.cap, .string (str a.make.text), .slice A n c, .bool a.must]] W fun e w' => ∃ A' c' m', e = .returned (.slice A' m' c') ∧ (∀ W', Cln w' W' → (convert 38 9 (.slice A' m' c')).run Tryd.prog W' = .ok (.string (str (wAct a))) W') ∧ Cln W w' := fun W h => by
    refine (rabytes_any a hck'.out hfa.out A n c W (hr5.out.cln h)).mono ?_
    rintro e w' ⟨A', c', m', hm', rfl, hown, hq⟩
    exact ⟨A', c', m', rfl, conv_actB (newBytes_ok hown).1 c', hq⟩
  have cS : ∀ W : World, Cln ((w5.alloc (.cells #[.int .i64 x.kind, .string (str x.key), .int .i64 x.n, .float .f64 x.x, .string (str x.s), .int .i64 x.make.kind, .int .i64 x.make.num, .int .i64 x.make.low, .int .i64 x.make.high, .float .f64 x.make.real, .int .i64 x.make.cap, .string (str x.make.text), .slice AL nL cL, .bool x.must] 33)).alloc (.cells #[.int .i64 0, .int .i64 0] 41)) W → Calls Tryd.prog 22 #[.agg #[.int .i64 x.kind, .string (str x.key), .int .i64 x.n, .float .f64 x.x, .string (str x.s), .int .i64 x.make.kind, .int .i64 x.make.num, .int .i64 x.make.low, .int .i64 x.make.high, .float .f64 x.make.real, .int .i64 x.make.cap, .string (str x.make.text), .slice AL nL cL, .bool x.must], .agg #[.int .i64 a.kind, .string (str a.key), .int .i64 a.n, .float .f64 a.x, .string (str a.s), .int .i64 a.make.kind, .int .i64 a.make.num, .int .i64 a.make.low, .int .i64 a.make.high, .float .f64 a.make.real, .int .i64 a.make.cap, .string (str a.make.text), .slice A n c, .bool a.must]] W fun e w' => e = .returned (.bool true) ∧ Cln W w' := fun W h => by
    have := rasame_any x a AL A nL cL n c W (hIL5.out.cln h) (hr5.out.cln h) (by omega) (by omega) hxx hax hxr har
    rw [hxs.out] at this
    exact this
  have hfe : ∀ W : World, (binOp .eql 41 (.agg #[.int .i64 0, .int .i64 0]) (.agg #[.int .i64 0, .int .i64 0])).run Tryd.prog W = .ok (.bool true) W := fun W => by kernel_rfl
  have hcur : Hid (Cln ((w5.alloc (.cells #[.int .i64 x.kind, .string (str x.key), .int .i64 x.n, .float .f64 x.x, .string (str x.s), .int .i64 x.make.kind, .int .i64 x.make.num, .int .i64 x.make.low, .int .i64 x.make.high, .float .f64 x.make.real, .int .i64 x.make.cap, .string (str x.make.text), .slice AL nL cL, .bool x.must] 33)).alloc (.cells #[.int .i64 0, .int .i64 0] 41)) (((w5.alloc (.cells #[.int .i64 x.kind, .string (str x.key), .int .i64 x.n, .float .f64 x.x, .string (str x.s), .int .i64 x.make.kind, .int .i64 x.make.num, .int .i64 x.make.low, .int .i64 x.make.high, .float .f64 x.make.real, .int .i64 x.make.cap, .string (str x.make.text), .slice AL nL cL, .bool x.must] 33)).alloc (.cells #[.int .i64 0, .int .i64 0] 41))).drew) := Below.drew (Below.refl _ _)
  have cA := hA5.out.cell; have cX := hbX.out.cell; have cF := hbF.cell
  have lA := hA5.out.lt; have lX := hbX.out.lt; have lF := hbF.lt
  replace hbF := Lib.hid hbF
  clear hfa hf
  go_wp2_with fail
  go_region_with (first
      | (go_at_call 21; with_reducible refine (cB _ hcur.out).mono ?_; rintro e w' ⟨A', c', m', rfl, hva, hq⟩; have hcur := Lib.hid (cln_trans hcur.out hq); have uA := (hA5.out.cln hcur.out).cell; have uX := (hbX.out.cln hcur.out).cell; have uF := (hbF.out.cln hcur.out).cell)
      | (go_at_call 22; with_reducible refine (cS _ hcur.out).mono ?_; rintro e w' ⟨rfl, hq⟩; have hcur := Lib.hid (cln_trans hcur.out hq))
      | simp only [hfe]
      | simp only [hcv _ hcur.out]
      | simp only [hva _ (Below.refl _ _)])
  all_goals
    (try go_wp2_with fail)
    go_ret
    exact ⟨rfl, cln_trans (cln_trans hcl1.out hcurB.out) hcur.out⟩
end Go.Proofs.YtocllhghbmbjpaaDoor
