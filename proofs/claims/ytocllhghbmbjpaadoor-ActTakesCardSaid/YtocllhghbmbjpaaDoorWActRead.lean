/- The walk of act.Read. (Printed by wip/tools/gen_actread.py out of the walk of rec.Read.) -/
import Derived.Test.YtocllhghbmbjpaaDoorWAct6
import Derived.Test.YtocllhghbmbjpaaDoorWRead
import Derived.Recover
import Derived.RegionTactic
import Derived.ChangeAlike
set_option linter.unusedSimpArgs false
set_option linter.unusedVariables false
set_option maxRecDepth 20000
namespace Go.Proofs.YtocllhghbmbjpaaDoor
open Go.RowKit Moi
attribute [local go_sem] toList_str str_size less_ltB store_float
theorem acatch_idle (g2 g3 : Nat) (w : World) :
    CallsD Tryd.prog 42 #[.pointer (some ⟨g2, 0, none⟩), .pointer (some ⟨g3, 0, none⟩)] .returning w fun e u' w' => e = .returned (.tuple #[]) ∧ u' = .returning ∧ Cln w w' := by
  refine callsD_of_wpS Tryd.func42 rfl fun c₀ cs hu => ?_
  apply wpS_seq
  apply wpS_region
  simp [wpOpsS, go_sem, recoverD, hu, Tryd.ntmps42, Exit.thenS]
  refine (caught_nil w).mono ?_
  rintro e w1 ⟨rfl, hq⟩
  simp [faultAgg, go_sem]
  refine wpS_of_wp ?_
  go_wp2_with fail
  refine ⟨rfl, .returning, ?_, .tuple #[], results_none rfl _ _ _, rfl, rfl, ?_⟩
  · cases c₀; simp_all
  · exact cln_trans hq ((Below.refl _ _).alloc (Nat.le_refl _) _)

set_option maxHeartbeats 2000000 in
theorem acatch_val (g2 g3 : Nat) (f : RErr) (hf : f.1 ≠ 0) (w : World) (a0 a1 a2 a3 a4 a5 a6 a7 a8 a9 a10 a11 a12 a13 b0 b1 : Value) (h2 : Blk w g2 33 #[a0, a1, a2, a3, a4, a5, a6, a7, a8, a9, a10, a11, a12, a13]) (h3 : Blk w g3 41 #[b0, b1]) (hne : g2 ≠ g3) :
    CallsD Tryd.prog 42 #[.pointer (some ⟨g2, 0, none⟩), .pointer (some ⟨g3, 0, none⟩)] (.panicking (faultChain f)) w fun e u' w' => e = .returned (.tuple #[]) ∧ u' = .panicking [{ v := faultVal f, recovered := true }] ∧
      Blk w' g2 33 #[.int .i64 0, .string ⟨#[]⟩, .int .i64 0, .float .f64 0, .string ⟨#[]⟩, .int .i64 0, .int .i64 0, .int .i64 0, .int .i64 0, .float .f64 0, .int .i64 0, .string ⟨#[]⟩, .slice none 0 0, .bool false] ∧ Blk w' g3 41 #[.int .i64 (f.1 : Nat), .int .i64 (f.2 : Nat)] ∧ Kept (fun i => i = g2 ∨ i = g3) w w' := by
  unfold faultChain
  refine callsD_of_wpS Tryd.func42 rfl fun c₀ cs hu => ?_
  apply wpS_seq
  apply wpS_region
  simp [wpOpsS, go_sem, recoverD, hu, Tryd.ntmps42, Exit.thenS]
  refine (caught_val f w).mono ?_
  rintro e w1 ⟨rfl, hq⟩
  simp [faultAgg, go_sem]
  refine wpS_of_wp ?_
  have h2' := (h2.cln hq).alloc (.cells #[.int .i64 (f.1 : Nat), .int .i64 (f.2 : Nat)] 41)
  have h3' := (h3.cln hq).alloc (.cells #[.int .i64 (f.1 : Nat), .int .i64 (f.2 : Nat)] 41)
  have h4' := Blk.new w1 41 #[.int .i64 (f.1 : Nat), .int .i64 (f.2 : Nat)]
  have hK : Cln w (w1.alloc (.cells #[.int .i64 (f.1 : Nat), .int .i64 (f.2 : Nat)] 41)) := cln_trans hq ((Below.refl _ _).alloc (Nat.le_refl _) _)
  have hg4 : w.heap.size ≤ w1.heap.size := hq.size
  have hl2 := h2.lt
  have hl3 := h3.lt
  refine (show Code.wp _ _ _ { tmps := #[.pointer (some ⟨g2, 0, none⟩), .pointer (some ⟨g3, 0, none⟩), .pointer (some ⟨w1.heap.size, 0, none⟩), faultVal f, faultAgg f, undef, undef, undef, undef, undef], defers := [] } _ from ?_)
  generalize w1.alloc (.cells #[.int .i64 (f.1 : Nat), .int .i64 (f.2 : Nat)] 41) = W at h2' h3' h4' hK ⊢
  have hz3 : (((f.1 : Nat) : Int) != 0) = true := by simp; omega
  have hz : (((f.1 : Nat) : Int) == 0) = false := by rw [beq_eq_false_iff_ne]; omega
  generalize w1.heap.size = g4 at h4' hg4 ⊢
  clear hq h2 h3
  have n24 : ¬ g4 = g2 := by omega
  have n34 : ¬ g4 = g3 := by omega
  have n42 : ¬ g2 = g4 := by omega
  have n43 : ¬ g3 = g4 := by omega
  have n32 : ¬ g3 = g2 := fun e => hne e.symm
  have n23 : ¬ g2 = g3 := hne
  have hlt2 := h2'.lt
  have hlt3 := h3'.lt
  have hlt4 := h4'.lt
  have hf2 := h2'.frozen
  have hf3 := h3'.frozen
  have hc2 := h2'.cell
  have hc3 := h3'.cell
  have hc4 := h4'.cell
  have hu' := Lib.hid hu
  have hK' := Lib.hid hK
  clear hu hf hK
  go_wp2_with fail
  go_region
  refine ⟨rfl, _, rfl, .tuple #[], results_none rfl _ _ _, rfl, rfl, ?_, ?_, ?_⟩
  · refine blk_drew ?_
    have hx := Blk.store14 h2' (v0 := .int .i64 0) (v1 := .string ⟨#[]⟩) (v2 := .int .i64 0) (v3 := .float .f64 0) (v4 := .string ⟨#[]⟩) (v5 := .int .i64 0) (v6 := .int .i64 0) (v7 := .int .i64 0) (v8 := .int .i64 0) (v9 := .float .f64 0) (v10 := .int .i64 0) (v11 := .string ⟨#[]⟩) (v12 := .slice none 0 0) (v13 := .bool false)
    exact (hx.far (p := ⟨g3, 0, none⟩) n23 (.int .i64 (f.1 : Nat))).far (p := ⟨g3, 1, none⟩) n23 (.int .i64 (f.2 : Nat))
  · refine blk_drew ?_
    have hx := fill14_kept W g2 (.int .i64 0) (.string ⟨#[]⟩) (.int .i64 0) (.float .f64 0) (.string ⟨#[]⟩) (.int .i64 0) (.int .i64 0) (.int .i64 0) (.int .i64 0) (.float .f64 0) (.int .i64 0) (.string ⟨#[]⟩) (.slice none 0 0) (.bool false)
    unfold fill14 at hx
    have hy := h3'.kept hx n32
    exact hy.store2 (v0 := .int .i64 (f.1 : Nat)) (v1 := .int .i64 (f.2 : Nat))
  · refine Kept.drew ?_
    iterate 2 refine Kept.setCell (S := fun i => i = g2 ∨ i = g3) ?_ (fun _ => .inr rfl) _
    iterate 14 refine Kept.setCell (S := fun i => i = g2 ∨ i = g3) ?_ (fun _ => .inl rfl) _
    exact Kept.of_below hK'.out

/-- What act.Read hands back. -/
def AReadPost (w : World) (o : MAct × RErr) (e : Ending) (w' : World) : Prop :=
  ∃ AL nL cL, e = .returned (.tuple #[actVal o.1 AL nL cL, faultAgg o.2]) ∧ RdItems w' AL nL o.1.make.list ∧ (∀ ad, AL = some ad → w.heap.size ≤ ad.block) ∧ o.1.WF ∧ nL ≤ 32 ∧ Cln w w'
theorem zeroAct_wf : zeroAct.WF := ⟨z64, z64, zF, zeroRec_wf_⟩
/-- Behind a panic: the door. -/
theorem aread_door (w w1 : World) (f : RErr) (hf : f.1 ≠ 0) (tmps : Array Value) (a0 a1 a2 a3 a4 a5 a6 a7 a8 a9 a10 a11 a12 a13 b0 b1 : Value)
    (h2 : Blk w1 w.heap.size 33 #[a0, a1, a2, a3, a4, a5, a6, a7, a8, a9, a10, a11, a12, a13]) (h3 : Blk w1 (w.heap.size + 1) 41 #[b0, b1]) (hk : Cln w w1)
    (t2 : tmps.getD 2 undef = .pointer (some ⟨w.heap.size, 0, none⟩)) (t3 : tmps.getD 3 undef = .pointer (some ⟨w.heap.size + 1, 0, none⟩)) :
    Leaves Tryd.prog Tryd.f20 tmps (AReadPost w (zeroAct, f)) [{ target := .fn (.func 42) #[.pointer (some ⟨w.heap.size, 0, none⟩), .pointer (some ⟨w.heap.size + 1, 0, none⟩)], args := #[] }] (.panicking (faultChain f)) w1 := by
  refine leaves_cons (f := 42) (args := #[.pointer (some ⟨w.heap.size, 0, none⟩), .pointer (some ⟨w.heap.size + 1, 0, none⟩)]) (by simp) (by simp [go_sem]) ?_
  refine (acatch_val w.heap.size (w.heap.size + 1) f hf w1 _ _ _ _ _ _ _ _ _ _ _ _ _ _ _ _ h2 h3 (by omega)).mono ?_
  rintro e u' w2 ⟨rfl, rfl, hb2, hb3, hk2⟩
  refine ⟨.tuple #[actVal zeroAct none 0 0, faultAgg f], ?_, none, 0, 0, rfl, RdItems.none_ _, (fun ad e => by cases e), zeroAct_wf, Nat.zero_le _, ?_⟩
  · have s1 : (Tryd.prog.info? 33).map (·.size) = some 14 := by kernel_rfl
    have s2 : (Tryd.prog.info? 41).map (·.size) = some 2 := by kernel_rfl
    exact results_cc2 Tryd.results20 _ _ w.heap.size (w.heap.size + 1) _ _ _ _ (0, 0) (0, 0) _ _ t2 hb2 Tryd.underlying33 rfl s1 t3 hb3 Tryd.underlying41 rfl s2
  · exact ((Kept.of_below (S := fun i => i = w.heap.size ∨ i = w.heap.size + 1) hk).trans hk2).toBelow (Nat.le_refl _) (fun i hi h => by omega)

set_option maxHeartbeats 1000000 in
theorem aread_any (A : Option Addr) (n c : Nat) (bs : List UInt8) (w : World) (hK : KindsAt w) (hr : RdBytes w A n bs) (hc : n ≤ c) (hb : n ≤ 140737488355328) (hA : ∀ ad, A = some ad → ad.block < w.heap.size) :
    Calls Tryd.prog 20 #[.slice A n c] w (AReadPost w (readAct bs)) := by
  have hmf : ∀ (fn : Fn) (first cap : Array Value) (w : World), (Instr.makeFunc fn first cap).run Tryd.prog w = .ok (.func fn first cap) w := fun _ _ _ _ => rfl
  go_enter_defers Tryd.func20, Tryd.ntmps20
  go_wp2_with fail
  have hb2 := (Blk.new w 33 #[.int .i64 0, .string ⟨#[]⟩, .int .i64 0, .float .f64 0, .string ⟨#[]⟩, .int .i64 0, .int .i64 0, .int .i64 0, .int .i64 0, .float .f64 0, .int .i64 0, .string ⟨#[]⟩, .slice none 0 0, .bool false]).alloc (.cells #[.int .i64 0, .int .i64 0] 41)
  have hb3 := Blk.new (w.alloc (.cells #[.int .i64 0, .string ⟨#[]⟩, .int .i64 0, .float .f64 0, .string ⟨#[]⟩, .int .i64 0, .int .i64 0, .int .i64 0, .int .i64 0, .float .f64 0, .int .i64 0, .string ⟨#[]⟩, .slice none 0 0, .bool false] 33)) 41 #[.int .i64 0, .int .i64 0]
  have hcl0 : Cln w ((w.alloc (.cells #[.int .i64 0, .string ⟨#[]⟩, .int .i64 0, .float .f64 0, .string ⟨#[]⟩, .int .i64 0, .int .i64 0, .int .i64 0, .int .i64 0, .float .f64 0, .int .i64 0, .string ⟨#[]⟩, .slice none 0 0, .bool false] 33)).alloc (.cells #[.int .i64 0, .int .i64 0] 41)) := by (repeat (first | (with_reducible exact Below.refl _ _) | (with_reducible assumption) | (with_reducible refine Below.setCell ?_ (by first | omega | (simp; done) | (simp; omega)) _) | (with_reducible refine Below.alloc ?_ (by first | omega | (simp; done) | (simp; omega)) _) | (with_reducible refine Below.drew ?_) | (with_reducible refine below_drewN ?_ _)))
  simp only [World.size_alloc] at hb3
  refine (new_any A n c bs _ (hr.cln hcl0) hc hb (fun ad e => by have := hA ad e; simp; omega)).mono ?_
  rintro e w1 ⟨rfl, hR, hcl1⟩
  have hb2' := hb2.cln hcl1
  have hb3' := hb3.cln hcl1
  simp only [World.size_alloc] at hR
  have hcl2 := cln_trans hcl0 hcl1
  have hsz := hR.blk.lt
  clear hb2 hb3 hcl0 hcl1
  go_wp2_with fail
  refine (atake_any (w.heap.size + 1 + 1) A n c bs 0 w1 hR (fun ad e => by have := hA ad e; omega) (hK.cln hcl2)).mono ?_
  intro e w2 h
  rcases h.cases with ⟨r, a1, v, hres, rfl, hv, hR2, hk2⟩ | ⟨f, hres, rfl, hk2⟩
  case inr =>
    have ho : readAct bs = (zeroAct, f) := by unfold readAct; rw [hres]
    have ho' := Lib.hid ho
    have hf := rAct_nz hres
    clear h hres ho
    have hb2'' := hb2'.kept hk2 (show ¬ w.heap.size = w.heap.size + 1 + 1 by omega)
    have hb3'' := hb3'.kept hk2 (show ¬ w.heap.size + 1 = w.heap.size + 1 + 1 by omega)
    have hcl3 : Cln w w2 := ((Kept.of_below (S := fun i => i = w.heap.size + 1 + 1) hcl2).trans hk2).toBelow (Nat.le_refl _) (fun i hi h => by omega)
    go_wp2_with fail
    rw [ho'.out]
    exact aread_door w w2 f hf _ _ _ _ _ _ _ _ _ _ _ _ _ _ _ _ _ hb2'' hb3'' hcl3 rfl rfl
  obtain ⟨AL, nL, cL, rfl, hL, hge, hwf, hn32⟩ := hv
  have hwf' := Lib.hid hwf
  have hL' := Lib.hid hL
  have hge' := Lib.hid hge
  have hres' := Lib.hid hres
  clear h hres hwf hL hge
  unfold actVal
  have hb2'' := hb2'.kept hk2 (show ¬ w.heap.size = w.heap.size + 1 + 1 by omega)
  have hb3'' := hb3'.kept hk2 (show ¬ w.heap.size + 1 = w.heap.size + 1 + 1 by omega)
  have hcl3 : Cln w w2 := ((Kept.of_below (S := fun i => i = w.heap.size + 1 + 1) hcl2).trans hk2).toBelow (Nat.le_refl _) (fun i hi h => by omega)
  have hlt2 := hb2''.lt
  have hc2 := hb2''.cell
  have hf2 := hb2''.frozen
  have hsz1 : w1.heap.size ≤ w2.heap.size := hk2.size
  have fk := fill14_kept w2 w.heap.size (.int .i64 r.kind) (.string (str r.key)) (.int .i64 r.n) (.float .f64 r.x) (.string (str r.s)) (.int .i64 r.make.kind) (.int .i64 r.make.num) (.int .i64 r.make.low) (.int .i64 r.make.high) (.float .f64 r.make.real) (.int .i64 r.make.cap) (.string (str r.make.text)) (.slice AL nL cL) (.bool r.must)
  have hb4 := Blk.store14 hb2'' (v0 := .int .i64 r.kind) (v1 := .string (str r.key)) (v2 := .int .i64 r.n) (v3 := .float .f64 r.x) (v4 := .string (str r.s)) (v5 := .int .i64 r.make.kind) (v6 := .int .i64 r.make.num) (v7 := .int .i64 r.make.low) (v8 := .int .i64 r.make.high) (v9 := .float .f64 r.make.real) (v10 := .int .i64 r.make.cap) (v11 := .string (str r.make.text)) (v12 := .slice AL nL cL) (v13 := .bool r.must)
  have hb5 := hb3''.kept fk (show ¬ w.heap.size + 1 = w.heap.size by omega)
  have hR4 := hR2.kept fk (show ¬ w.heap.size + 1 + 1 = w.heap.size by omega) (fun ad e => by have := hA ad e; omega)
  have hL4 := hL'.out.kept fk (fun ad e _ => by have := hge'.out ad e; omega)
  have hcl4 : Cln w (fill14 w2 w.heap.size (.int .i64 r.kind) (.string (str r.key)) (.int .i64 r.n) (.float .f64 r.x) (.string (str r.s)) (.int .i64 r.make.kind) (.int .i64 r.make.num) (.int .i64 r.make.low) (.int .i64 r.make.high) (.float .f64 r.make.real) (.int .i64 r.make.cap) (.string (str r.make.text)) (.slice AL nL cL) (.bool r.must)) := ((Kept.of_below (S := fun i => i = w.heap.size) hcl3).trans fk).toBelow (Nat.le_refl _) (fun i hi h => by omega)
  have fk' := Lib.hid fk
  clear hb2'' hb3'' hcl3 fk hk2 hR2
  go_wp2_with fail
  refine (end_any (w.heap.size + 1 + 1) A n c bs a1 _ hR4).mono ?_
  intro e w3 h
  rcases h.cases with ⟨u, a2, v, hres2, rfl, hv, hR5, hk5⟩ | ⟨f, hres2, rfl, hk5⟩
  case inr =>
    have ho : readAct bs = (zeroAct, f) := by unfold readAct; rw [hres'.out]; simp only [hres2]
    have ho' := Lib.hid ho
    have hf := rEnd_nz hres2
    clear h hres2 ho hc2 hf2
    have hb6 := hb4.kept hk5 (show ¬ w.heap.size = w.heap.size + 1 + 1 by omega)
    have hb7 := hb5.kept hk5 (show ¬ w.heap.size + 1 = w.heap.size + 1 + 1 by omega)
    have hcl5 : Cln w w3 := ((Kept.of_below (S := fun i => i = w.heap.size + 1 + 1) hcl4).trans hk5).toBelow (Nat.le_refl _) (fun i hi h => by omega)
    go_wp2_with fail
    rw [ho'.out]
    exact aread_door w w3 f hf _ _ _ _ _ _ _ _ _ _ _ _ _ _ _ _ _ hb6 hb7 hcl5 rfl rfl
  have hv' : v = .tuple #[] := hv
  subst hv'
  have ho : readAct bs = (r, (0, 0)) := by unfold readAct; rw [hres'.out]; simp only [hres2]
  have ho' := Lib.hid ho
  have hb6 := hb4.kept hk5 (show ¬ w.heap.size = w.heap.size + 1 + 1 by omega)
  have hb7 := hb5.kept hk5 (show ¬ w.heap.size + 1 = w.heap.size + 1 + 1 by omega)
  have hcl5 : Cln w w3 := ((Kept.of_below (S := fun i => i = w.heap.size + 1 + 1) hcl4).trans hk5).toBelow (Nat.le_refl _) (fun i hi h => by omega)
  have hL5 := hL4.kept hk5 (fun ad e _ => by have := hge'.out ad e; have := hsz; omega)
  clear h hv hres2 ho hc2 hf2 hR5 hR4 hb4 hb5 hL4 hcl4 hk5 hlt2
  have hc6 := hb6.cell
  have hf6 := hb6.frozen
  have hl6 := hb6.lt
  have hc7 := hb7.cell
  have hf7 := hb7.frozen
  have hl7 := hb7.lt
  have hL5' := Lib.hid hL5
  clear hL5
  go_wp2_with fail
  rw [ho'.out]
  have fk := fill14_kept w3 w.heap.size (.int .i64 r.kind) (.string (str r.key)) (.int .i64 r.n) (.float .f64 r.x) (.string (str r.s)) (.int .i64 r.make.kind) (.int .i64 r.make.num) (.int .i64 r.make.low) (.int .i64 r.make.high) (.float .f64 r.make.real) (.int .i64 r.make.cap) (.string (str r.make.text)) (.slice AL nL cL) (.bool r.must)
  have hb8 := Blk.store14 hb6 (v0 := .int .i64 r.kind) (v1 := .string (str r.key)) (v2 := .int .i64 r.n) (v3 := .float .f64 r.x) (v4 := .string (str r.s)) (v5 := .int .i64 r.make.kind) (v6 := .int .i64 r.make.num) (v7 := .int .i64 r.make.low) (v8 := .int .i64 r.make.high) (v9 := .float .f64 r.make.real) (v10 := .int .i64 r.make.cap) (v11 := .string (str r.make.text)) (v12 := .slice AL nL cL) (v13 := .bool r.must)
  have hb9 := (hb8.far (p := ⟨w.heap.size + 1, 0, none⟩) (by simp) (.int .i64 0)).far (p := ⟨w.heap.size + 1, 1, none⟩) (by simp) (.int .i64 0)
  have hb10 := (hb7.kept fk (show ¬ w.heap.size + 1 = w.heap.size by omega)).store2 (v0 := .int .i64 0) (v1 := .int .i64 0)
  have k1 : Kept (fun i => i = w.heap.size ∨ i = w.heap.size + 1) w _ := ((((Kept.of_below hcl5).trans (fk.mono (fun i _ h => .inl h))).setCell (p := ⟨w.heap.size + 1, 0, none⟩) (fun _ => .inr rfl) (.int .i64 0)).setCell (p := ⟨w.heap.size + 1, 1, none⟩) (fun _ => .inr rfl) (.int .i64 0))
  have hL9 := ((hL5'.out.kept fk (fun ad e _ => by have := hge'.out ad e; omega)).kept (keptSet _ (w.heap.size + 1) 0 (.int .i64 0)) (fun ad e _ => by have := hge'.out ad e; omega)).kept (keptSet _ (w.heap.size + 1) 1 (.int .i64 0)) (fun ad e _ => by have := hge'.out ad e; omega)
  unfold fill14 at k1 hL9 hb10
  clear hc6 hf6 hc7 hf7 hb8 hb6 hb7 fk fk'
  refine leaves_cons (f := 42) (args := #[.pointer (some ⟨w.heap.size, 0, none⟩), .pointer (some ⟨w.heap.size + 1, 0, none⟩)]) (by simp) (by simp [go_sem]) ?_
  refine (acatch_idle w.heap.size (w.heap.size + 1) _).mono ?_
  rintro e u' w4 ⟨rfl, rfl, hq⟩
  refine ⟨.tuple #[actVal r AL nL cL, faultAgg (0, 0)], ?_, AL, nL, cL, rfl, hL9.cln hq, (fun ad e => by have := hge'.out ad e; omega), hwf'.out, hn32, ?_⟩
  · have s1 : (Tryd.prog.info? 33).map (·.size) = some 14 := by kernel_rfl
    have s2 : (Tryd.prog.info? 41).map (·.size) = some 2 := by kernel_rfl
    exact results_cc2 Tryd.results20 _ _ w.heap.size (w.heap.size + 1) _ _ _ _ (0, 0) (0, 0) _ _ rfl (hb9.cln hq) Tryd.underlying33 rfl s1 rfl (hb10.cln hq) Tryd.underlying41 rfl s2
  · exact (k1.below_ hq).toBelow (Nat.le_refl _) (fun i hi h => by omega)
end Go.Proofs.YtocllhghbmbjpaaDoor
