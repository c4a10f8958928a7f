/- The law ActSame. (Printed by wip/tools/gen_lacts.py.) -/
import Derived.Test.YtocllhghbmbjpaaDoorWActSp
import Derived.Test.YtocllhghbmbjpaaDoorWAct7
import Derived.Test.YtocllhghbmbjpaaDoorTripAct
import Derived.Deep.RegionWith
set_option linter.unusedSimpArgs false
set_option linter.unusedVariables false
set_option maxRecDepth 20000
namespace Go.Proofs.YtocllhghbmbjpaaDoor
open Go.RowKit Moi
attribute [local go_sem] toList_str str_size less_ltB store_float
theorem conv_act {W : World} {A : Option Addr} {n : Nat} {bs : List UInt8} (h : RdBytes W A n bs) (c : Nat) : ∀ W', Cln W W' → (convert 38 9 (.slice A n c)).run Tryd.prog W' = .ok (.string (str bs)) W' :=
  fun W' k => conv_all (h.cln k) c
theorem fsame_comm (x y : Nat) : fsame x y = fsame y x := by unfold fsame; exact decide_eq_decide.2 ⟨Eq.symm, Eq.symm⟩
theorem sameAct_comm (a b : MAct) : sameAct a b = sameAct b a := by
  have key : ∀ a b : MAct, sameAct a b = true → sameAct b a = true := by
    intro a b h
    have hr := sameAct_refl a
    simp only [sameAct, Bool.and_eq_true, beq_iff_eq] at h hr ⊢
    obtain ⟨⟨⟨⟨⟨⟨e1, e2⟩, e3⟩, e4⟩, e5⟩, e6⟩, e7⟩ := h
    refine ⟨⟨⟨⟨⟨⟨e1.symm, e2.symm⟩, e3.symm⟩, by rw [fsame_comm]; exact e4⟩, e5.symm⟩, sameRec_eu e6 (sameRec_refl a.make)⟩, e7.symm⟩
  cases h : sameAct a b with
  | true => exact (key a b h).symm
  | false =>
    cases h' : sameAct b a with
    | false => rfl
    | true => rw [key b a h'] at h; cases h
set_option maxHeartbeats 8000000 in
theorem lActSame (a b : MAct) (A B : Option Addr) (n c k d : Nat) (hf : a.WF) (hg : b.WF) (w : World) (hK : KindsAt w) (hr : RdItems w A n a.make.list) (hs : RdItems w B k b.make.list) :
    Calls Tryd.prog 7 #[actVal a A n c, actVal b B k d] w fun e w' => e = .returned (.bool true) ∧ Cln w w' := by
  have hn : Hid (a.make.list.length = n) := hr.len
  have hk : Hid (b.make.list.length = k) := hs.len
  have hfa : Hid (FullA a) := ⟨hf, fun x hx => by
    obtain ⟨i, hi, rfl⟩ := List.getElem_of_mem hx
    have := hr.wf i
    simpa [itAt, hi] using this⟩
  have hfb : Hid (FullA b) := ⟨hg, fun x hx => by
    obtain ⟨i, hi, rfl⟩ := List.getElem_of_mem hx
    have := hs.wf i
    simpa [itAt, hi] using this⟩
  have hax := hf.x; have hbx := hg.x; have har := hf.make.real; have hbr := hg.make.real
  replace hf := Lib.hid hf; replace hg := Lib.hid hg
  have hb0 := (Blk.new w 33 #[.int .i64 a.kind, .string (str a.key), .int .i64 a.n, .float .f64 a.x, .string (str a.s), .int .i64 a.make.kind, .int .i64 a.make.num, .int .i64 a.make.low, .int .i64 a.make.high, .float .f64 a.make.real, .int .i64 a.make.cap, .string (str a.make.text), .slice A n c, .bool a.must]).alloc (.cells #[.int .i64 b.kind, .string (str b.key), .int .i64 b.n, .float .f64 b.x, .string (str b.s), .int .i64 b.make.kind, .int .i64 b.make.num, .int .i64 b.make.low, .int .i64 b.make.high, .float .f64 b.make.real, .int .i64 b.make.cap, .string (str b.make.text), .slice B k d, .bool b.must] 33)
  have hb1 := Blk.new (w.alloc (.cells #[.int .i64 a.kind, .string (str a.key), .int .i64 a.n, .float .f64 a.x, .string (str a.s), .int .i64 a.make.kind, .int .i64 a.make.num, .int .i64 a.make.low, .int .i64 a.make.high, .float .f64 a.make.real, .int .i64 a.make.cap, .string (str a.make.text), .slice A n c, .bool a.must] 33)) 33 #[.int .i64 b.kind, .string (str b.key), .int .i64 b.n, .float .f64 b.x, .string (str b.s), .int .i64 b.make.kind, .int .i64 b.make.num, .int .i64 b.make.low, .int .i64 b.make.high, .float .f64 b.make.real, .int .i64 b.make.cap, .string (str b.make.text), .slice B k d, .bool b.must]
  rw [World.size_alloc] at hb1
  have hcl : Cln w ((w.alloc (.cells #[.int .i64 a.kind, .string (str a.key), .int .i64 a.n, .float .f64 a.x, .string (str a.s), .int .i64 a.make.kind, .int .i64 a.make.num, .int .i64 a.make.low, .int .i64 a.make.high, .float .f64 a.make.real, .int .i64 a.make.cap, .string (str a.make.text), .slice A n c, .bool a.must] 33)).alloc (.cells #[.int .i64 b.kind, .string (str b.key), .int .i64 b.n, .float .f64 b.x, .string (str b.s), .int .i64 b.make.kind, .int .i64 b.make.num, .int .i64 b.make.low, .int .i64 b.make.high, .float .f64 b.make.real, .int .i64 b.make.cap, .string (str b.make.text), .slice B k d, .bool b.must] 33)) := by (repeat (first | (with_reducible exact Below.refl _ _) | (with_reducible assumption) | (with_reducible refine Below.setCell ?_ (by first | omega | (simp; done) | (simp; omega)) _) | (with_reducible refine Below.alloc ?_ (by first | omega | (simp; done) | (simp; omega)) _) | (with_reducible refine Below.drew ?_) | (with_reducible refine below_drewN ?_ _)))
  have cSp := speaks_act _ (hK.cln hcl)
  rw [show actVal a A n c = .agg #[.int .i64 a.kind, .string (str a.key), .int .i64 a.n, .float .f64 a.x, .string (str a.s), .int .i64 a.make.kind, .int .i64 a.make.num, .int .i64 a.make.low, .int .i64 a.make.high, .float .f64 a.make.real, .int .i64 a.make.cap, .string (str a.make.text), .slice A n c, .bool a.must] from rfl, show actVal b B k d = .agg #[.int .i64 b.kind, .string (str b.key), .int .i64 b.n, .float .f64 b.x, .string (str b.s), .int .i64 b.make.kind, .int .i64 b.make.num, .int .i64 b.make.low, .int .i64 b.make.high, .float .f64 b.make.real, .int .i64 b.make.cap, .string (str b.make.text), .slice B k d, .bool b.must] from rfl]
  go_enter Tryd.func7, Tryd.ntmps7
  go_wp2_with fail
  refine cSp.mono ?_; rintro e w1 ⟨rfl, hq⟩
  clear cSp
  have hA1 := Lib.hid (hb0.cln hq); have hB1 := Lib.hid (hb1.cln hq)
  have hcl1 := Lib.hid (cln_trans hcl hq)
  have hr1 := Lib.hid (hr.cln hcl1.out); have hs1 := Lib.hid (hs.cln hcl1.out)
  have hK1 := Lib.hid (hK.cln hcl1.out)
  clear hb0 hb1 hcl hq hr hs hK
  have uA := hA1.out.cell; have uB := hB1.out.cell; have lA := hA1.out.lt; have lB := hB1.out.lt
  have hcur : Hid (Cln w1 w1.drew) := Below.drew (Below.refl _ _)
  have cGa : ∀ W, Cln w1 W → Calls Tryd.prog 16 #[.agg #[.int .i64 a.kind, .string (str a.key), .int .i64 a.n, .float .f64 a.x, .string (str a.s), .int .i64 a.make.kind, .int .i64 a.make.num, .int .i64 a.make.low, .int .i64 a.make.high, .float .f64 a.make.real, .int .i64 a.make.cap, .string (str a.make.text), .slice A n c, .bool a.must]] W fun e w' => e = .returned (.int .i64 (bigNA a)) ∧ Cln W w' := fun W h => bigA_any a A n c W (hr1.out.cln h)
  have cGb : ∀ W, Cln w1 W → Calls Tryd.prog 16 #[.agg #[.int .i64 b.kind, .string (str b.key), .int .i64 b.n, .float .f64 b.x, .string (str b.s), .int .i64 b.make.kind, .int .i64 b.make.num, .int .i64 b.make.low, .int .i64 b.make.high, .float .f64 b.make.real, .int .i64 b.make.cap, .string (str b.make.text), .slice B k d, .bool b.must]] W fun e w' => e = .returned (.int .i64 (bigNA b)) ∧ Cln W w' := fun W h => bigA_any b B k d W (hs1.out.cln h)
  go_wp2_with fail
  rename_i KA hKA KB hKB
  have hT : ∀ (s0 s1 s4 s5 s6 s7 s8 s9 s10 s11 s12 s14 s15 s16 s17 s18 s19 s20 s21 s22 s23 s24 s25 s26 s27 s28 s29 s30 s31 s32 s33 s34 s35 s36 s37 s38 s39 s40 s41 s42 s43 s44 s45 s46 s47 s48 s49 s50 s51 : Value) (W : World), Cln w1 W → KB { tmps := #[s0, s1, .pointer (some ⟨w.heap.size, 0, none⟩), .pointer (some ⟨w.heap.size + 1, 0, none⟩), s4, s5, s6, s7, s8, s9, s10, s11, s12, .bool true, s14, s15, s16, s17, s18, s19, s20, s21, s22, s23, s24, s25, s26, s27, s28, s29, s30, s31, s32, s33, s34, s35, s36, s37, s38, s39, s40, s41, s42, s43, s44, s45, s46, s47, s48, s49, s50, s51], defers := [] } W := by as_aux_lemma =>
    intro s0 s1 s4 s5 s6 s7 s8 s9 s10 s11 s12 s14 s15 s16 s17 s18 s19 s20 s21 s22 s23 s24 s25 s26 s27 s28 s29 s30 s31 s32 s33 s34 s35 s36 s37 s38 s39 s40 s41 s42 s43 s44 s45 s46 s47 s48 s49 s50 s51 W hcur
    refine hKB _ _ ?_
    clear uA uB lA lB cGa cGb
    go_wp2_with fail
    go_ret
    exact ⟨rfl, cln_trans hcl1.out (cln_trans hcur (by (repeat (first | (with_reducible exact Below.refl _ _) | (with_reducible assumption) | (with_reducible refine Below.setCell ?_ (by first | omega | (simp; done) | (simp; omega)) _) | (with_reducible refine Below.alloc ?_ (by first | omega | (simp; done) | (simp; omega)) _) | (with_reducible refine Below.drew ?_) | (with_reducible refine below_drewN ?_ _)))))⟩
  rcases bigA_or a with ha0 | ha0
  · rcases bigA_or b with hb0 | hb0
    · have hR : ∀ (s0 s1 s4 s5 s6 s7 s8 s9 s10 s11 s12 s14 s15 s16 s17 s18 s19 s20 s21 s22 s23 s24 s25 s26 s27 s28 s29 s30 s31 s32 s33 s34 s35 s36 s37 s38 s39 s40 s41 s42 s43 s44 s45 s46 s47 s48 s49 s50 s51 : Value) (W : World), Cln w1 W → KB { tmps := #[s0, s1, .pointer (some ⟨w.heap.size, 0, none⟩), .pointer (some ⟨w.heap.size + 1, 0, none⟩), s4, s5, s6, s7, s8, s9, s10, s11, s12, .bool false, s14, s15, s16, s17, s18, s19, s20, s21, s22, s23, s24, s25, s26, s27, s28, s29, s30, s31, s32, s33, s34, s35, s36, s37, s38, s39, s40, s41, s42, s43, s44, s45, s46, s47, s48, s49, s50, s51], defers := [] } W := by as_aux_lemma =>
        intro s0 s1 s4 s5 s6 s7 s8 s9 s10 s11 s12 s14 s15 s16 s17 s18 s19 s20 s21 s22 s23 s24 s25 s26 s27 s28 s29 s30 s31 s32 s33 s34 s35 s36 s37 s38 s39 s40 s41 s42 s43 s44 s45 s46 s47 s48 s49 s50 s51 W hcur
        refine hKB _ _ ?_
        replace hcur := Lib.hid hcur
        clear hT hKB cGa cGb uA uB lA lB
        have uA := (hA1.out.cln hcur.out).cell; have uB := (hB1.out.cln hcur.out).cell; have lA := (hA1.out.cln hcur.out).lt; have lB := (hB1.out.cln hcur.out).lt
        have hn1 : n ≤ 1000 := by have := (bigN_le a.make (bigA_le ha0).2.2).1; rw [hn.out] at this; omega
        have hk1 : k ≤ 1000 := by have := (bigN_le b.make (bigA_le hb0).2.2).1; rw [hk.out] at this; omega
        have hsm : Hid (∃ s, s = sameAct a b) := ⟨_, rfl⟩
        obtain ⟨s, hse⟩ := hsm.out
        clear hsm
        have cR : ∀ W, Cln w1 W → Calls Tryd.prog 22 #[.agg #[.int .i64 a.kind, .string (str a.key), .int .i64 a.n, .float .f64 a.x, .string (str a.s), .int .i64 a.make.kind, .int .i64 a.make.num, .int .i64 a.make.low, .int .i64 a.make.high, .float .f64 a.make.real, .int .i64 a.make.cap, .string (str a.make.text), .slice A n c, .bool a.must], .agg #[.int .i64 b.kind, .string (str b.key), .int .i64 b.n, .float .f64 b.x, .string (str b.s), .int .i64 b.make.kind, .int .i64 b.make.num, .int .i64 b.make.low, .int .i64 b.make.high, .float .f64 b.make.real, .int .i64 b.make.cap, .string (str b.make.text), .slice B k d, .bool b.must]] W fun e w' => e = .returned (.bool s) ∧ Cln W w' := fun W h => hse ▸ rasame_any a b A B n c k d W (hr1.out.cln h) (hs1.out.cln h) (by omega) (by omega) hax hbx har hbr
        have cAB : ∀ W, Cln w1 W → Calls Tryd.prog 24 #[.agg #[.int .i64 a.kind, .string (str a.key), .int .i64 a.n, .float .f64 a.x, .string (str a.s), .int .i64 a.make.kind, .int .i64 a.make.num, .int .i64 a.make.low, .int .i64 a.make.high, .float .f64 a.make.real, .int .i64 a.make.cap, .string (str a.make.text), .slice A n c, .bool a.must], .agg #[.int .i64 b.kind, .string (str b.key), .int .i64 b.n, .float .f64 b.x, .string (str b.s), .int .i64 b.make.kind, .int .i64 b.make.num, .int .i64 b.make.low, .int .i64 b.make.high, .float .f64 b.make.real, .int .i64 b.make.cap, .string (str b.make.text), .slice B k d, .bool b.must]] W fun e w' => e = .returned (.bool s) ∧ Cln W w' := fun W h => hse ▸ asame_any a b A B n c k d W (hr1.out.cln h) (hs1.out.cln h) (by omega) (by omega) hax hbx har hbr
        have cBA : ∀ W, Cln w1 W → Calls Tryd.prog 24 #[.agg #[.int .i64 b.kind, .string (str b.key), .int .i64 b.n, .float .f64 b.x, .string (str b.s), .int .i64 b.make.kind, .int .i64 b.make.num, .int .i64 b.make.low, .int .i64 b.make.high, .float .f64 b.make.real, .int .i64 b.make.cap, .string (str b.make.text), .slice B k d, .bool b.must], .agg #[.int .i64 a.kind, .string (str a.key), .int .i64 a.n, .float .f64 a.x, .string (str a.s), .int .i64 a.make.kind, .int .i64 a.make.num, .int .i64 a.make.low, .int .i64 a.make.high, .float .f64 a.make.real, .int .i64 a.make.cap, .string (str a.make.text), .slice A n c, .bool a.must]] W fun e w' => e = .returned (.bool s) ∧ Cln W w' := fun W h => by
          have := asame_any b a B A k d n c W (hs1.out.cln h) (hr1.out.cln h) (by omega) (by omega) hbx hax hbr har
          rw [sameAct_comm, ← hse] at this
          exact this
        have cAA : ∀ W, Cln w1 W → Calls Tryd.prog 24 #[.agg #[.int .i64 a.kind, .string (str a.key), .int .i64 a.n, .float .f64 a.x, .string (str a.s), .int .i64 a.make.kind, .int .i64 a.make.num, .int .i64 a.make.low, .int .i64 a.make.high, .float .f64 a.make.real, .int .i64 a.make.cap, .string (str a.make.text), .slice A n c, .bool a.must], .agg #[.int .i64 a.kind, .string (str a.key), .int .i64 a.n, .float .f64 a.x, .string (str a.s), .int .i64 a.make.kind, .int .i64 a.make.num, .int .i64 a.make.low, .int .i64 a.make.high, .float .f64 a.make.real, .int .i64 a.make.cap, .string (str a.make.text), .slice A n c, .bool a.must]] W fun e w' => e = .returned (.bool true) ∧ Cln W w' := fun W h => by
          have := asame_any a a A A n c n c W (hr1.out.cln h) (hr1.out.cln h) (by omega) (by omega) hax hax har har
          rw [sameAct_refl] at this
          exact this
        have cCa : ∀ W, Cln w1 W → Calls Tryd.prog 18 #[.agg #[.int .i64 a.kind, .string (str a.key), .int .i64 a.n, .float .f64 a.x, .string (str a.s), .int .i64 a.make.kind, .int .i64 a.make.num, .int .i64 a.make.low, .int .i64 a.make.high, .float .f64 a.make.real, .int .i64 a.make.cap, .string (str a.make.text), .slice A n c, .bool a.must]] W fun e w' => e = .returned (.int .i64 (checkAct a : Nat)) ∧ Cln W w' := fun W h => racheck_any a A n c (by omega) hf.out W (hr1.out.cln h)
        have cCb : ∀ W, Cln w1 W → Calls Tryd.prog 18 #[.agg #[.int .i64 b.kind, .string (str b.key), .int .i64 b.n, .float .f64 b.x, .string (str b.s), .int .i64 b.make.kind, .int .i64 b.make.num, .int .i64 b.make.low, .int .i64 b.make.high, .float .f64 b.make.real, .int .i64 b.make.cap, .string (str b.make.text), .slice B k d, .bool b.must]] W fun e w' => e = .returned (.int .i64 (checkAct b : Nat)) ∧ Cln W w' := fun W h => racheck_any b B k d (by omega) hg.out W (hs1.out.cln h)
        have hBa : checkAct a = 0 → ∀ W, Cln w1 W → Calls Tryd.prog 19 #[.agg #[.int .i64 a.kind, .string (str a.key), .int .i64 a.n, .float .f64 a.x, .string (str a.s), .int .i64 a.make.kind, .int .i64 a.make.num, .int .i64 a.make.low, .int .i64 a.make.high, .float .f64 a.make.real, .int .i64 a.make.cap, .string (str a.make.text), .slice A n c, .bool a.must]] W fun e w' => ∃ A' c' m, e = .returned (.slice A' m c') ∧ (∀ W', Cln w' W' → (convert 38 9 (.slice A' m c')).run Tryd.prog W' = .ok (.string (str (wAct a))) W') ∧ Cln W w' := fun hz W h => by
          refine (bytes_act a hf.out A n c (by omega) W (hK1.out.cln h) (hr1.out.cln h)).mono ?_
          rintro e w' ⟨A', c', m, hm, rfl, hown, hq⟩
          rw [show actBytes a = wAct a from by unfold actBytes; rw [if_pos hz]] at hown
          exact ⟨A', c', m, rfl, conv_act (newBytes_ok hown).1 c', hq⟩
        have hBb : checkAct b = 0 → ∀ W, Cln w1 W → Calls Tryd.prog 19 #[.agg #[.int .i64 b.kind, .string (str b.key), .int .i64 b.n, .float .f64 b.x, .string (str b.s), .int .i64 b.make.kind, .int .i64 b.make.num, .int .i64 b.make.low, .int .i64 b.make.high, .float .f64 b.make.real, .int .i64 b.make.cap, .string (str b.make.text), .slice B k d, .bool b.must]] W fun e w' => ∃ A' c' m, e = .returned (.slice A' m c') ∧ (∀ W', Cln w' W' → (convert 38 9 (.slice A' m c')).run Tryd.prog W' = .ok (.string (str (wAct b))) W') ∧ Cln W w' := fun hz W h => by
          refine (bytes_act b hg.out B k d (by omega) W (hK1.out.cln h) (hs1.out.cln h)).mono ?_
          rintro e w' ⟨A', c', m, hm, rfl, hown, hq⟩
          rw [show actBytes b = wAct b from by unfold actBytes; rw [if_pos hz]] at hown
          exact ⟨A', c', m, rfl, conv_act (newBytes_ok hown).1 c', hq⟩
        have hwI : Hid (checkAct a = 0 → checkAct b = 0 → (wAct a == wAct b) = s) := fun h1 h2 => by
          have := wAct_inj hfa.out hfb.out h1 h2
          rw [← hse] at this
          rw [Bool.eq_iff_iff, beq_iff_eq]; exact this
        have tS : (s != s) = false := by simp
        replace hse := Lib.hid hse
        replace hBa := Lib.hid hBa; replace hBb := Lib.hid hBb
        clear hfa hfb hn hk
        go_wp2_with fail
        refine (cR _ hcur.out).mono ?_; rintro e w2 ⟨rfl, hq⟩
        have hcur := Lib.hid (cln_trans hcur.out hq)
        clear hq
        clear uA uB lA lB
        have uA := (hA1.out.cln hcur.out).cell
        have uB := (hB1.out.cln hcur.out).cell
        have lA := (hA1.out.cln hcur.out).lt
        have lB := (hB1.out.cln hcur.out).lt
        go_wp2_with fail
        refine (cAB _ hcur.out).mono ?_; rintro e w3 ⟨rfl, hq⟩
        have hcur := Lib.hid (cln_trans hcur.out hq)
        clear hq
        clear uA uB lA lB
        have uA := (hA1.out.cln hcur.out).cell
        have uB := (hB1.out.cln hcur.out).cell
        have lA := (hA1.out.cln hcur.out).lt
        have lB := (hB1.out.cln hcur.out).lt
        go_wp2_with fail
        refine (cBA _ hcur.out).mono ?_; rintro e w4 ⟨rfl, hq⟩
        have hcur := Lib.hid (cln_trans hcur.out hq)
        clear hq
        clear uA uB lA lB
        have uA := (hA1.out.cln hcur.out).cell
        have uB := (hB1.out.cln hcur.out).cell
        have lA := (hA1.out.cln hcur.out).lt
        have lB := (hB1.out.cln hcur.out).lt
        go_wp2_with fail
        refine (cAA _ hcur.out).mono ?_; rintro e w5 ⟨rfl, hq⟩
        have hcur := Lib.hid (cln_trans hcur.out hq)
        clear hq
        clear uA uB lA lB
        have uA := (hA1.out.cln hcur.out).cell
        have uB := (hB1.out.cln hcur.out).cell
        have lA := (hA1.out.cln hcur.out).lt
        have lB := (hB1.out.cln hcur.out).lt
        clear cR cAB cBA cAA
        go_wp2_with fail
        refine (cCa _ hcur.out).mono ?_; rintro e w6 ⟨rfl, hq⟩
        have hcur := Lib.hid (cln_trans hcur.out hq)
        clear hq
        clear uA uB lA lB
        have uA := (hA1.out.cln hcur.out).cell
        have uB := (hB1.out.cln hcur.out).cell
        have lA := (hA1.out.cln hcur.out).lt
        have lB := (hB1.out.cln hcur.out).lt
        clear cCa
        by_cases hza : checkAct a = 0
        case neg =>
          have t5 : (((checkAct a : Nat) : Int) != 0) = true := by rw [bne_iff_ne]; omega
          go_wp2_with fail
          go_ret
          exact ⟨rfl, cln_trans hcl1.out (cln_trans hcur.out (by (repeat (first | (with_reducible exact Below.refl _ _) | (with_reducible assumption) | (with_reducible refine Below.setCell ?_ (by first | omega | (simp; done) | (simp; omega)) _) | (with_reducible refine Below.alloc ?_ (by first | omega | (simp; done) | (simp; omega)) _) | (with_reducible refine Below.drew ?_) | (with_reducible refine below_drewN ?_ _)))))⟩
        have t5 : (((checkAct a : Nat) : Int) != 0) = false := by rw [hza]; rfl
        replace hza := Lib.hid hza
        go_wp2_with fail
        refine (cCb _ hcur.out).mono ?_; rintro e w7 ⟨rfl, hq⟩
        have hcur := Lib.hid (cln_trans hcur.out hq)
        clear hq
        clear uA uB lA lB
        have uA := (hA1.out.cln hcur.out).cell
        have uB := (hB1.out.cln hcur.out).cell
        have lA := (hA1.out.cln hcur.out).lt
        have lB := (hB1.out.cln hcur.out).lt
        clear cCb
        by_cases hzb : checkAct b = 0
        case neg =>
          have t6 : (((checkAct b : Nat) : Int) != 0) = true := by rw [bne_iff_ne]; omega
          go_wp2_with fail
          go_ret
          exact ⟨rfl, cln_trans hcl1.out (cln_trans hcur.out (by (repeat (first | (with_reducible exact Below.refl _ _) | (with_reducible assumption) | (with_reducible refine Below.setCell ?_ (by first | omega | (simp; done) | (simp; omega)) _) | (with_reducible refine Below.alloc ?_ (by first | omega | (simp; done) | (simp; omega)) _) | (with_reducible refine Below.drew ?_) | (with_reducible refine below_drewN ?_ _)))))⟩
        have t6 : (((checkAct b : Nat) : Int) != 0) = false := by rw [hzb]; rfl
        replace hzb := Lib.hid hzb
        have hBaa := hBa.out hza.out; have hBbb := hBb.out hzb.out
        have hw9 := Lib.hid (hwI.out hza.out hzb.out)
        have hcur := Lib.hid (cln_trans hcur.out (Below.drew (Below.refl _ w7)))
        clear hBa hBb hwI
        go_wp2_with fail
        go_region_with (first
          | (go_at_call 19; with_reducible refine (hBaa _ hcur.out).mono ?_; rintro e w' ⟨A', c', m', rfl, hva, hq⟩; have hcur := Lib.hid (cln_trans hcur.out hq); clear uA uB lA lB; have uA := (hA1.out.cln hcur.out).cell; have uB := (hB1.out.cln hcur.out).cell; have lA := (hA1.out.cln hcur.out).lt; have lB := (hB1.out.cln hcur.out).lt)
          | (go_at_call 19; with_reducible refine (hBbb _ hcur.out).mono ?_; rintro e w' ⟨A', c', m', rfl, hva, hq⟩; have hcur := Lib.hid (cln_trans hcur.out hq); clear uA uB lA lB; have uA := (hA1.out.cln hcur.out).cell; have uB := (hB1.out.cln hcur.out).cell; have lA := (hA1.out.cln hcur.out).lt; have lB := (hB1.out.cln hcur.out).lt)
          | simp only [hva _ (by first | exact Below.refl _ _ | assumption)])
        all_goals
          (try go_wp2_with fail)
          go_ret
          refine ⟨ret_bool ?_, cln_trans hcl1.out (cln_trans hcur.out (by (repeat (first | (with_reducible exact Below.refl _ _) | (with_reducible assumption) | (with_reducible refine Below.setCell ?_ (by first | omega | (simp; done) | (simp; omega)) _) | (with_reducible refine Below.alloc ?_ (by first | omega | (simp; done) | (simp; omega)) _) | (with_reducible refine Below.drew ?_) | (with_reducible refine below_drewN ?_ _)))))⟩
          rw [hw9.out]; cases s <;> rfl
      rw [ha0] at cGa; rw [hb0] at cGb
      clear hKB hKA
      clear ha0 hb0
      go_region_with (first
        | (go_at_call 16; with_reducible refine (cGa _ hcur.out).mono ?_; rintro e w' ⟨rfl, hq⟩; have hcur := Lib.hid (cln_trans hcur.out hq); clear hq; clear uA uB lA lB; have uA := (hA1.out.cln hcur.out).cell; have uB := (hB1.out.cln hcur.out).cell; have lA := (hA1.out.cln hcur.out).lt; have lB := (hB1.out.cln hcur.out).lt)
        | (go_at_call 16; with_reducible refine (cGb _ hcur.out).mono ?_; rintro e w' ⟨rfl, hq⟩; have hcur := Lib.hid (cln_trans hcur.out hq); clear hq; clear uA uB lA lB; have uA := (hA1.out.cln hcur.out).cell; have uB := (hB1.out.cln hcur.out).cell; have lA := (hA1.out.cln hcur.out).lt; have lB := (hB1.out.cln hcur.out).lt))
      all_goals exact hR _ _ _ _ _ _ _ _ _ _ _ _ _ _ _ _ _ _ _ _ _ _ _ _ _ _ _ _ _ _ _ _ _ _ _ _ _ _ _ _ _ _ _ _ _ _ _ _ _ _ hcur.out
    · rw [ha0] at cGa; rw [hb0] at cGb
      clear hKB hKA
      clear ha0 hb0
      go_region_with (first
        | (go_at_call 16; with_reducible refine (cGa _ hcur.out).mono ?_; rintro e w' ⟨rfl, hq⟩; have hcur := Lib.hid (cln_trans hcur.out hq); clear hq; clear uA uB lA lB; have uA := (hA1.out.cln hcur.out).cell; have uB := (hB1.out.cln hcur.out).cell; have lA := (hA1.out.cln hcur.out).lt; have lB := (hB1.out.cln hcur.out).lt)
        | (go_at_call 16; with_reducible refine (cGb _ hcur.out).mono ?_; rintro e w' ⟨rfl, hq⟩; have hcur := Lib.hid (cln_trans hcur.out hq); clear hq; clear uA uB lA lB; have uA := (hA1.out.cln hcur.out).cell; have uB := (hB1.out.cln hcur.out).cell; have lA := (hA1.out.cln hcur.out).lt; have lB := (hB1.out.cln hcur.out).lt))
      all_goals exact hT _ _ _ _ _ _ _ _ _ _ _ _ _ _ _ _ _ _ _ _ _ _ _ _ _ _ _ _ _ _ _ _ _ _ _ _ _ _ _ _ _ _ _ _ _ _ _ _ _ _ hcur.out
  · rcases bigA_or b with hb0 | hb0
    · rw [ha0] at cGa; rw [hb0] at cGb
      clear hKB hKA
      clear ha0 hb0
      go_region_with (first
        | (go_at_call 16; with_reducible refine (cGa _ hcur.out).mono ?_; rintro e w' ⟨rfl, hq⟩; have hcur := Lib.hid (cln_trans hcur.out hq); clear hq; clear uA uB lA lB; have uA := (hA1.out.cln hcur.out).cell; have uB := (hB1.out.cln hcur.out).cell; have lA := (hA1.out.cln hcur.out).lt; have lB := (hB1.out.cln hcur.out).lt)
        | (go_at_call 16; with_reducible refine (cGb _ hcur.out).mono ?_; rintro e w' ⟨rfl, hq⟩; have hcur := Lib.hid (cln_trans hcur.out hq); clear hq; clear uA uB lA lB; have uA := (hA1.out.cln hcur.out).cell; have uB := (hB1.out.cln hcur.out).cell; have lA := (hA1.out.cln hcur.out).lt; have lB := (hB1.out.cln hcur.out).lt))
      all_goals exact hT _ _ _ _ _ _ _ _ _ _ _ _ _ _ _ _ _ _ _ _ _ _ _ _ _ _ _ _ _ _ _ _ _ _ _ _ _ _ _ _ _ _ _ _ _ _ _ _ _ _ hcur.out
    · rw [ha0] at cGa; rw [hb0] at cGb
      clear hKB hKA
      clear ha0 hb0
      go_region_with (first
        | (go_at_call 16; with_reducible refine (cGa _ hcur.out).mono ?_; rintro e w' ⟨rfl, hq⟩; have hcur := Lib.hid (cln_trans hcur.out hq); clear hq; clear uA uB lA lB; have uA := (hA1.out.cln hcur.out).cell; have uB := (hB1.out.cln hcur.out).cell; have lA := (hA1.out.cln hcur.out).lt; have lB := (hB1.out.cln hcur.out).lt)
        | (go_at_call 16; with_reducible refine (cGb _ hcur.out).mono ?_; rintro e w' ⟨rfl, hq⟩; have hcur := Lib.hid (cln_trans hcur.out hq); clear hq; clear uA uB lA lB; have uA := (hA1.out.cln hcur.out).cell; have uB := (hB1.out.cln hcur.out).cell; have lA := (hA1.out.cln hcur.out).lt; have lB := (hB1.out.cln hcur.out).lt))
      all_goals exact hT _ _ _ _ _ _ _ _ _ _ _ _ _ _ _ _ _ _ _ _ _ _ _ _ _ _ _ _ _ _ _ _ _ _ _ _ _ _ _ _ _ _ _ _ _ _ _ _ _ _ hcur.out
end Go.Proofs.YtocllhghbmbjpaaDoor
