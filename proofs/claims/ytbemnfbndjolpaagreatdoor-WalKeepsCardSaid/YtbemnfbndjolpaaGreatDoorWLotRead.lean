/- The walk of lot.Read. (Printed by wip/tools/gen_lotread.py.) -/
import Derived.Test.YtbemnfbndjolpaaGreatDoorOwns
import Derived.Test.YtbemnfbndjolpaaGreatDoorWLot1
import Derived.Test.YtbemnfbndjolpaaGreatDoorWRead
import Derived.Test.YtbemnfbndjolpaaGreatDoorRows2
import Derived.Recover
import Derived.RegionTactic
import Derived.ChangeAlike
import Derived.Deep.RegionLaw
import Derived.RegionDies
set_option linter.unusedSimpArgs false
set_option linter.unusedVariables false
set_option maxRecDepth 20000
namespace Go.Proofs.YtbemnfbndjolpaaGreatDoor
open Go.RowKit Moi
attribute [local go_sem] toList_str str_size less_ltB store_float
theorem lcatch_idle (g2 g3 : Nat) (w : World) :
  CallsD Tryz.prog 53 #[.pointer (some ⟨g2, 0, none⟩), .pointer (some ⟨g3, 0, none⟩)] .returning w fun e u' w' => e = .returned (.tuple #[]) ∧ u' = .returning ∧ Cln w w' := by
 refine callsD_of_wpS Tryz.func53 rfl fun c₀ cs hu => ?_
 apply wpS_seq
 apply wpS_region
 simp [wpOpsS, go_sem, recoverD, hu, Tryz.ntmps53, Exit.thenS]
 refine (caught_nil w).mono ?_
 rintro e w1 ⟨rfl, hq⟩
 simp [faultAgg, go_sem]
 refine wpS_of_wp ?_
 go_wp2_with fail
 refine ⟨rfl, .returning, ?_, .tuple #[], results_none rfl _ _ _, rfl, rfl, ?_⟩
 ·cases c₀; simp_all
 ·exact cln_trans hq ((Below.refl _ _).alloc (Nat.le_refl _) _)
set_option maxHeartbeats 2000000 in
theorem lcatch_val (g2 g3 : Nat) (f : RErr) (hf : f.1 ≠ 0) (w : World) (a0 a1 b0 b1 : Value) (h2 : Blk w g2 38 #[a0, a1]) (h3 : Blk w g3 89 #[b0, b1]) (hne : g2 ≠ g3) :
  CallsD Tryz.prog 53 #[.pointer (some ⟨g2, 0, none⟩), .pointer (some ⟨g3, 0, none⟩)] (.panicking (faultChain f)) w fun e u' w' => e = .returned (.tuple #[]) ∧ u' = .panicking [{ v := faultVal f, recovered := true }] ∧
   Blk w' g2 38 #[.int .i64 0, .slice none 0 0] ∧ Blk w' g3 89 #[.int .i64 (f.1 : Nat), .int .i64 (f.2 : Nat)] ∧ Kept (fun i => i = g2 ∨ i = g3) w w' := by
 unfold faultChain
 refine callsD_of_wpS Tryz.func53 rfl fun c₀ cs hu => ?_
 apply wpS_seq
 apply wpS_region
 simp [wpOpsS, go_sem, recoverD, hu, Tryz.ntmps53, Exit.thenS]
 refine (caught_val f w).mono ?_
 rintro e w1 ⟨rfl, hq⟩
 simp [faultAgg, go_sem]
 refine wpS_of_wp ?_
 have h2' := (h2.cln hq).alloc (.cells #[.int .i64 (f.1 : Nat), .int .i64 (f.2 : Nat)] 89)
 have h3' := (h3.cln hq).alloc (.cells #[.int .i64 (f.1 : Nat), .int .i64 (f.2 : Nat)] 89)
 have h4' := Blk.new w1 89 #[.int .i64 (f.1 : Nat), .int .i64 (f.2 : Nat)]
 have hK : Cln w (w1.alloc (.cells #[.int .i64 (f.1 : Nat), .int .i64 (f.2 : Nat)] 89)) := cln_trans hq ((Below.refl _ _).alloc (Nat.le_refl _) _)
 have hg4 : w.heap.size ≤ w1.heap.size := hq.size
 have hl2 := h2.lt
 have hl3 := h3.lt
 refine (show Code.wp _ _ _ { tmps := #[.pointer (some ⟨g2, 0, none⟩), .pointer (some ⟨g3, 0, none⟩), .pointer (some ⟨w1.heap.size, 0, none⟩), faultVal f, faultAgg f, undef, undef, undef, undef, undef], defers := [] } _ from ?_)
 generalize w1.alloc (.cells #[.int .i64 (f.1 : Nat), .int .i64 (f.2 : Nat)] 89) = W at h2' h3' h4' hK ⊢
 have hz3 : (((f.1 : Nat) : Int) != 0) = true := by simp; omega
 have hz : (((f.1 : Nat) : Int) == 0) = false := by rw [beq_eq_false_iff_ne]; omega
 generalize w1.heap.size = g4 at h4' hg4 ⊢
 clear hq h2 h3
 have n24 : ¬ g4 = g2 := by omega
 have n34 : ¬ g4 = g3 := by omega
 have n42 : ¬ g2 = g4 := by omega
 have n43 : ¬ g3 = g4 := by omega
 have n32 : ¬ g3 = g2 := fun e => hne e.symm
 have n23 : ¬ g2 = g3 := hne
 have hlt2 := h2'.lt
 have hlt3 := h3'.lt
 have hlt4 := h4'.lt
 have hf2 := h2'.frozen
 have hf3 := h3'.frozen
 have hc2 := h2'.cell
 have hc3 := h3'.cell
 have hc4 := h4'.cell
 have hu' := Lib.hid hu
 have hK' := Lib.hid hK
 clear hu hf hK
 go_wp2_with fail
 go_region
 refine ⟨rfl, _, rfl, .tuple #[], results_none rfl _ _ _, rfl, rfl, ?_, ?_, ?_⟩
 ·refine blk_drew ?_
  have hx := Blk.store2 h2' (v0 := .int .i64 0) (v1 := .slice none 0 0)
  exact (hx.far (p := ⟨g3, 0, none⟩) n23 (.int .i64 (f.1 : Nat))).far (p := ⟨g3, 1, none⟩) n23 (.int .i64 (f.2 : Nat))
 ·refine blk_drew ?_
  have hy := (h3'.far (p := ⟨g2, 0, none⟩) n32 (.int .i64 0)).far (p := ⟨g2, 1, none⟩) n32 (.slice none 0 0)
  exact hy.store2 (v0 := .int .i64 (f.1 : Nat)) (v1 := .int .i64 (f.2 : Nat))
 ·refine Kept.drew ?_
  iterate 2 refine Kept.setCell (S := fun i => i = g2 ∨ i = g3) ?_ (fun _ => .inr rfl) _
  iterate 2 refine Kept.setCell (S := fun i => i = g2 ∨ i = g3) ?_ (fun _ => .inl rfl) _
  exact Kept.of_below hK'.out
def LReadPost (w : World) (o : MLot × RErr) (e : Ending) (w' : World) : Prop :=
 ∃ A n c, e = .returned (.tuple #[.agg #[.int .i64 o.1.num, .slice A n c], faultAgg o.2]) ∧ n ≤ 32 ∧ n ≤ c ∧ OnlyBy (fun k => w.heap.size ≤ k ∧ k < w'.heap.size) w' (fun W => RdDeals W A n o.1.deals) ∧ Cln w w'
theorem RdDeals.none_ (w : World) : RdDeals w none 0 [] := ⟨rfl, fun h => absurd h (by omega)⟩
theorem lread_door (w w1 : World) (f : RErr) (hf : f.1 ≠ 0) (tmps : Array Value) (a0 a1 b0 b1 : Value)
  (h2 : Blk w1 w.heap.size 38 #[a0, a1]) (h3 : Blk w1 (w.heap.size + 1) 89 #[b0, b1]) (hk : Cln w w1)
  (t2 : tmps.getD 2 undef = .pointer (some ⟨w.heap.size, 0, none⟩)) (t3 : tmps.getD 3 undef = .pointer (some ⟨w.heap.size + 1, 0, none⟩)) :
  Leaves Tryz.prog Tryz.f38 tmps (LReadPost w (zeroLot, f)) [{ target := .fn (.func 53) #[.pointer (some ⟨w.heap.size, 0, none⟩), .pointer (some ⟨w.heap.size + 1, 0, none⟩)], args := #[] }] (.panicking (faultChain f)) w1 := by
 refine leaves_cons (f := 53) (args := #[.pointer (some ⟨w.heap.size, 0, none⟩), .pointer (some ⟨w.heap.size + 1, 0, none⟩)]) (by simp) (by simp [go_sem]) ?_
 refine (lcatch_val w.heap.size (w.heap.size + 1) f hf w1 _ _ _ _ h2 h3 (by omega)).mono ?_
 rintro e u' w2 ⟨rfl, rfl, hb2, hb3, hk2⟩
 refine ⟨.tuple #[.agg #[.int .i64 0, .slice none 0 0], faultAgg f], ?_, none, 0, 0, rfl, Nat.zero_le _, Nat.le_refl _, (fun W _ => RdDeals.none_ W), ?_⟩
 ·have s1 : (Tryz.prog.info? 38).map (·.size) = some 2 := by kernel_rfl
  have s2 : (Tryz.prog.info? 89).map (·.size) = some 2 := by kernel_rfl
  exact results_cc2 Tryz.results38 _ _ w.heap.size (w.heap.size + 1) _ _ _ _ (0, 0) (0, 0) _ _ t2 hb2 Tryz.underlying38 rfl s1 t3 hb3 Tryz.underlying89 rfl s2
 ·exact ((Kept.of_below (S := fun i => i = w.heap.size ∨ i = w.heap.size + 1) hk).trans hk2).toBelow (Nat.le_refl _) (fun i hi h => by omega)
theorem rDealsGo_step {b : List UInt8} {m i : Nat} (h : i < m) (acc : List (List MAct)) (a : Nat) :
  rDealsGo b (m - i) acc a = (match rDeal b a with | .error e => .error e | .ok (x, a) => rDealsGo b (m - (i + 1)) (acc ++ [x]) a) := by
 rw [show m - i = (m - (i + 1)) + 1 from by omega]; rfl
def rLotEnd (k : Nat) (r : RRes (List (List MAct))) : RRes MLot := match r with
 | .error e => .error e
 | .ok (l, a) => lDone ⟨k, l⟩ a
def rdEnd (bs : List UInt8) (r : RRes MLot) : MLot × RErr := match r with
 | .error e => (zeroLot, e)
 | .ok (r, a) => match rEnd bs a with
  | .error e => (zeroLot, e)
  | .ok _ => (r, (0, 0))
theorem mod_of {l : List (List MAct)} (h : ∀ d ∈ l, (checkDeal d).1 = 0) : Mod l :=
 ⟨fun d hd => by have := (deal_ok (h d hd)).2.1; omega, fun d hd a ha => by have := act_list ((deal_ok (h d hd)).2.2.1 a ha); omega⟩
theorem leaves_congr {P : Program} {fn : Func} {t1 t2 : Array Value} {R : Ending → World → Prop} (h : results fn t1 = results fn t2) : ∀ (ds : List Deferred) (u : FrameMode) (w : World), Leaves P fn t1 R ds u w → Leaves P fn t2 R ds u w
 | [], u, w, hl => by
  cases u with
  | returning => obtain ⟨v, h1, h2⟩ := hl; exact ⟨v, h ▸ h1, h2⟩
  | panicking c => exact hl
  | run => exact hl
 | d :: ds, u, w, hl => by
  obtain ⟨h1, fv, cap, f, args, h2, h3, h4⟩ := hl
  refine ⟨h1, fv, cap, f, args, h2, h3, h4.mono fun e u' w' hh => ?_⟩
  cases e with
  | returned v => exact leaves_congr h ds _ _ hh
  | panicked c => exact leaves_congr h ds _ _ hh
  | outgrown => exact hh
theorem getD_put (a : Act) {d i : Nat} (h : d ≠ i) (v : Value) : (a.put (some d) v).tmps.getD i undef = a.tmps.getD i undef := by
 simp only [Act.put, Array.getD_eq_getD_getElem?]
 rw [Array.getElem?_setIfInBounds_ne h]
theorem lread_results (a : Act) {d : Nat} (h2 : d ≠ 2) (h3 : d ≠ 3) (v : Value) : results Tryz.f38 (a.put (some d) v).tmps = results Tryz.f38 a.tmps := by
 have e2 : (a.put (some d) v).tmps[2]?.getD undef = a.tmps[2]?.getD undef := by simpa using getD_put a h2 v
 have e3 : (a.put (some d) v).tmps[3]?.getD undef = a.tmps[3]?.getD undef := by simpa using getD_put a h3 v
 unfold results
 rw [Tryz.results38]
 simp [e2, e3]
set_option maxHeartbeats 4000000 in
theorem lread_any (A : Option Addr) (n c : Nat) (bs : List UInt8) (w : World) (hK : KindsAt w) (hr : RdBytes w A n bs) (hc : n ≤ c) (hb : n ≤ 140737488355328) (hA : ∀ ad, A = some ad → ad.block < w.heap.size) :
  Calls Tryz.prog 38 #[.slice A n c] w (LReadPost w (readLot bs)) := by
 have hmf : ∀ (fn : Fn) (first cap : Array Value) (w : World), (Instr.makeFunc fn first cap).run Tryz.prog w = .ok (.func fn first cap) w := fun _ _ _ _ => rfl
 have hS0 : Hid (readLot bs = rdEnd bs (rLot bs 0)) := rfl
 go_enter_defers Tryz.func38, Tryz.ntmps38
 go_wp2_with fail
 have hb2 := (Blk.new w 38 #[.int .i64 0, .slice none 0 0]).alloc (.cells #[.int .i64 0, .int .i64 0] 89)
 have hb3 := Blk.new (w.alloc (.cells #[.int .i64 0, .slice none 0 0] 38)) 89 #[.int .i64 0, .int .i64 0]
 have hcl0 : Cln w ((w.alloc (.cells #[.int .i64 0, .slice none 0 0] 38)).alloc (.cells #[.int .i64 0, .int .i64 0] 89)) := by (repeat with_reducible first | exact cR _ | assumption | refine cA ?_ _ | refine cD ?_ | refine cN ?_ _ | refine cS ?_ (by first | omega | (simp <;> omega)) _)
 simp only [World.size_alloc] at hb3
 refine (new_any A n c bs _ (hr.cln hcl0) hc hb (fun ad e => by have := hA ad e; simp; omega)).mono ?_
 rintro e w1 ⟨rfl, hR, hcl1⟩
 have hb2 := hb2.cln hcl1
 have hb3 := hb3.cln hcl1
 simp only [World.size_alloc] at hR
 have hK1 : Kept (fun k => k = w.heap.size + 1 + 1) w w1 := Kept.of_below (cln_trans hcl0 hcl1)
 have hkl := hK.lt
 have hA' := Lib.hid hA
 clear hcl0 hcl1 hA
 go_wp2_with fail
 refine (upto_any (w.heap.size + 1 + 1) A n c bs 0 1099511627776 (by omega) w1 hR).mono ?_
 intro e w2 h
 rcases h.cases with ⟨k, a1, v, hres, rfl, hv, hR2, hk2⟩ | ⟨f, hres, rfl, hk2⟩
 case inr =>
  have ho : Hid (readLot bs = (zeroLot, f)) := by unfold Hid; rw [hS0.out]; unfold rLot; rw [hres]; rfl
  have hf := Lib.hid (rUpto_nz hres)
  clear h hres
  have hb2 := hb2.kept hk2 (show ¬ w.heap.size = w.heap.size + 1 + 1 by omega)
  have hb3 := hb3.kept hk2 (show ¬ w.heap.size + 1 = w.heap.size + 1 + 1 by omega)
  have hcl3 : Cln w w2 := (hK1.trans hk2).toBelow (Nat.le_refl _) (fun i hi h => by omega)
  go_wp2_with fail
  rw [ho.out]
  exact lread_door w w2 f hf.out _ _ _ _ _ hb2 hb3 hcl3 rfl rfl
 have hv' : v = .int .i64 (k : Nat) := hv
 subst hv'
 have hkm := rUpto_le hres
 have hS1 : Hid (readLot bs = rdEnd bs (if k = 0 then .error (1, a1) else lBody k bs a1)) := by unfold Hid; rw [hS0.out]; unfold rLot; rw [hres]
 have hK2 := hK1.trans hk2
 have hb2 := hb2.kept hk2 (show ¬ w.heap.size = w.heap.size + 1 + 1 by omega)
 have hb3 := hb3.kept hk2 (show ¬ w.heap.size + 1 = w.heap.size + 1 + 1 by omega)
 have c2 := hb2.cell
 have f2 := hb2.frozen
 have l2 := hb2.lt
 have hs2 : w.heap.size + 1 + 1 < w2.heap.size := hR2.blk.lt
 have hb2' : Blk _ w.heap.size 38 #[.int .i64 (k : Nat), .slice none 0 0] := hb2.set_ 0 (.int .i64 (k : Nat))
 have hb3' := hb3.far (p := ⟨w.heap.size, 0, none⟩) (by simp) (.int .i64 (k : Nat))
 have hR3 := hR2.other (q := ⟨w.heap.size, 0, none⟩) (by simp; omega) (fun ad e => by have := hA'.out ad e; simp; omega) (.int .i64 (k : Nat))
 have hK3 := hK2.setCell (p := ⟨w.heap.size, 0, none⟩) (fun h => by simp at h) (.int .i64 (k : Nat))
 have hR4 := hR3
 replace hb2' := Lib.hid hb2'; replace hb3' := Lib.hid hb3'; replace hR3 := Lib.hid hR3; replace hK3 := Lib.hid hK3
 clear h hv hres hk2 hR2 hK2 hK1 hb2 hb3 hR
 by_cases h0 : k = 0
 ·have ho : Hid (readLot bs = (zeroLot, (1, a1))) := by unfold Hid; rw [hS1.out, if_pos h0]; rfl
  subst h0
  go_wp2_with fail
  refine (Fail_any (w.heap.size + 1 + 1) A n c bs a1 1 _ hR4).mono ?_
  rintro e w5 ⟨rfl, rfl⟩
  have hcl3 : Cln w _ := hK3.out.toBelow (Nat.le_refl _) (fun i hi h => by omega)
  have hf : Hid ((1, a1).1 ≠ 0) := by unfold Hid; simp
  go_wp2_with fail
  rw [ho.out]
  exact lread_door w _ (1, a1) hf.out _ _ _ _ _ hb2'.out hb3'.out hcl3 rfl rfl
 have t0 : ((k : Int) == 0) = false := by rw [beq_eq_false_iff_ne]; omega
 have hS2 : Hid (readLot bs = rdEnd bs (lBody k bs a1)) := by unfold Hid; rw [hS1.out, if_neg h0]
 clear hS1
 go_wp2_with fail
 refine (upto_any (w.heap.size + 1 + 1) A n c bs a1 32 (by omega) _ hR4).mono ?_
 clear hR4
 intro e w3 h
 rcases h.cases with ⟨m, a2, v, hres, rfl, hv, hR5, hk5⟩ | ⟨f, hres, rfl, hk5⟩
 case inr =>
  have ho : Hid (readLot bs = (zeroLot, f)) := by unfold Hid; rw [hS2.out]; unfold lBody; rw [hres]; rfl
  have hf := Lib.hid (rUpto_nz hres)
  clear h hres
  have hb2 := hb2'.out.kept hk5 (show ¬ w.heap.size = w.heap.size + 1 + 1 by omega)
  have hb3 := hb3'.out.kept hk5 (show ¬ w.heap.size + 1 = w.heap.size + 1 + 1 by omega)
  have hcl3 : Cln w w3 := (hK3.out.trans hk5).toBelow (Nat.le_refl _) (fun i hi h => by omega)
  go_wp2_with fail
  rw [ho.out]
  exact lread_door w w3 f hf.out _ _ _ _ _ hb2 hb3 hcl3 rfl rfl
 have hv' : v = .int .i64 (m : Nat) := hv
 subst hv'
 have hm := rUpto_le hres
 have hS3 : Hid (readLot bs = rdEnd bs (rLotEnd k (rDealsGo bs (m - 0) (([] : List DQ).map (·.d)) a2))) := by
  unfold Hid; rw [hS2.out]; unfold lBody rLotEnd; rw [hres]; rfl
 have hb2 := Lib.hid (hb2'.out.kept hk5 (show ¬ w.heap.size = w.heap.size + 1 + 1 by omega))
 have hb3 := Lib.hid (hb3'.out.kept hk5 (show ¬ w.heap.size + 1 = w.heap.size + 1 + 1 by omega))
 have hK5 := Lib.hid (hK3.out.trans hk5)
 have hR5' := Lib.hid hR5
 have hs5 : w.heap.size + 1 + 1 < w3.heap.size := hR5.blk.lt
 replace hs5 := Lib.hid hs5
 clear h hv hres hk5 hR5 hb2' hb3' hK3 hR3 hS2 c2 f2 l2
 go_wp2_with fail
 go_loopw [20] (fun v wr => ∃ (i : Nat) (acc : List DQ) (A' : Option Addr) (c' ar : Nat), i ≤ m ∧ v = .int .i64 (i : Nat) ∧ Hid (OwnDeals wr (w.heap.size + 3) (.slice A' i c') i acc) ∧ Hid (∀ q ∈ acc, (checkDeal q.d).1 = 0) ∧ Hid (Blk wr w.heap.size 38 #[.int .i64 (k : Nat), .slice A' i c']) ∧ Hid (Blk wr (w.heap.size + 1) 89 #[.int .i64 0, .int .i64 0]) ∧ Hid (IsR wr (w.heap.size + 1 + 1) A n c bs ar) ∧ Hid (Kept (· = w.heap.size + 1 + 1) w wr) ∧ Hid (w.heap.size + 1 + 1 < wr.heap.size) ∧ Hid (readLot bs = rdEnd bs (rLotEnd k (rDealsGo bs (m - i) (acc.map (·.d)) ar)))) (fun v _ => (m - intOf v).toNat)
 case atStart => exact ⟨0, [], none, 0, a2, Nat.zero_le _, rfl, OwnQ.nil _ _ _ _ _ _, (fun _ h => by cases h), hb2, hb3, hR5', hK5, hs5, hS3⟩
 case round =>
  clear hb2 hb3 hR5' hK5 hs5 hS3
  obtain ⟨i, acc, A', c', ar, hi, rfl, hO, hok, hb2, hb3, hR, hKr, hsz, hH⟩ := hrel
  have hgc := hb2.out.cell
  have hgl := hb2.out.lt
  have hgf := hb2.out.frozen
  by_cases hlt : i < m
  ·have t3 : decide ((i : Int) < (m : Int)) = true := decide_eq_true (by omega)
   have hkr : KindsAt wr.drew := hK.kept (hKr.out.drew) (show ¬ 1 = w.heap.size + 1 + 1 by omega)
   have hstep : Hid (readLot bs = rdEnd bs (rLotEnd k (match rDeal bs ar with | .error e => .error e | .ok (x, a) => rDealsGo bs (m - (i + 1)) (acc.map (·.d) ++ [x]) a))) := by
    unfold Hid; rw [hH.out, rDealsGo_step hlt]
   have cT := dtake_any (w.heap.size + 1 + 1) A n c bs ar wr.drew hR.out.drew (fun ad e => by have h1 := hA'.out ad e; have h2 := hsz.out; show ad.block < wr.heap.size; omega) hkr
   obtain ⟨i0, hi0, hz0, hz1, hz2⟩ := info_parts Tryz.info67
   clear hH hkr
   cases hres : rDeal bs ar with
   | error f =>
    have hres' := Lib.hid hres
    have hf := Lib.hid (rDeal_nz hres)
    have ho : Hid (readLot bs = (zeroLot, f)) := by unfold Hid; rw [hstep.out, hres]; rfl
    go_wp2_with fail
    refine wp_region_any (by kernel_rfl) ?_
    change wpAny _ _ _ _ _ _ _ (World.drew _)
    refine wpAny_take (i := 0) (v := .pointer (some ⟨w.heap.size, 1, none⟩)) rfl (by kernel_rfl) (by kernel_rfl) (by kernel_rfl) (fun _ _ _ h => leaves_congr (lread_results _ (by decide) (by decide) _) _ _ _ h) (Or.inl ⟨by rfl, by intro w; go_simp⟩) ?_
    refine wpAny_take (i := 2) (v := .pointer (some ⟨w.heap.size + 1 + 1, 0, none⟩)) rfl (by kernel_rfl) (by kernel_rfl) (by kernel_rfl) (fun _ _ _ h => leaves_congr (lread_results _ (by decide) (by decide) _) _ _ _ h) (Or.inl ⟨by rfl, by intro w; go_simp⟩) ?_
    refine wpAny_ready (rs := [1, 3]) (by kernel_rfl) (by simp) (AllReady.cons rfl (fun KZ hKZ => ?_) (AllReady.cons rfl (fun KZ hKZ => ?_) AllReady.nil))
    ·go_simp
     refine hKZ _ _ ?_
     clear hKZ KZ
     refine wpAny_ready (rs := [3]) (by kernel_rfl) (by simp) (AllReady.cons rfl (fun KZ hKZ => ?_) AllReady.nil)
     go_simp
     go_at_call 58
     refine cT.mono ?_
     intro e w6 h
     rw [hres'.out] at h
     obtain ⟨rfl, hk⟩ := h
     have hx2 := hb2.out.drew.kept hk (show ¬ w.heap.size = w.heap.size + 1 + 1 by omega)
     have hx3 := hb3.out.drew.kept hk (show ¬ w.heap.size + 1 = w.heap.size + 1 + 1 by omega)
     have hcl3 : Cln w w6 := ((hKr.out.drew).trans hk).toBelow (Nat.le_refl _) (fun i hi h => by omega)
     go_wp2_with fail
     rw [ho.out]
     exact lread_door w w6 f hf.out _ _ _ _ _ hx2 hx3 hcl3 rfl rfl
    ·go_simp
     go_at_call 58
     refine cT.mono ?_
     intro e w6 h
     rw [hres'.out] at h
     obtain ⟨rfl, hk⟩ := h
     have hx2 := hb2.out.drew.kept hk (show ¬ w.heap.size = w.heap.size + 1 + 1 by omega)
     have hx3 := hb3.out.drew.kept hk (show ¬ w.heap.size + 1 = w.heap.size + 1 + 1 by omega)
     have hcl3 : Cln w w6 := ((hKr.out.drew).trans hk).toBelow (Nat.le_refl _) (fun i hi h => by omega)
     go_wp2_with fail
     rw [ho.out]
     exact lread_door w w6 f hf.out _ _ _ _ _ hx2 hx3 hcl3 rfl rfl
   | ok y =>
    obtain ⟨x, ar2⟩ := y
    have hxk := Lib.hid (rDeal_at hres).2.1
    have hfin : Hid (readLot bs = rdEnd bs (rLotEnd k (rDealsGo bs (m - (i + 1)) (acc.map (·.d) ++ [x]) ar2))) := by unfold Hid; rw [hstep.out, hres]
    have cT2 : Calls Tryz.prog 58 #[.pointer (some ⟨w.heap.size + 1 + 1, 0, none⟩)] wr.drew fun e w6 => ∃ (Ax : Option Addr) (nx cx : Nat), e = .returned (.agg #[.slice Ax nx cx]) ∧ Hid (OwnDeals w6 (w.heap.size + 3) (.slice A' i c') i acc) ∧ Hid (OnlyBy (fun k => wr.heap.size ≤ k ∧ k < w6.heap.size) w6 (DQ.rd ⟨x, Ax, nx, cx⟩)) ∧ Blk w6 w.heap.size 38 #[.int .i64 (k : Nat), .slice A' i c'] ∧ Hid (Blk w6 (w.heap.size + 1) 89 #[.int .i64 0, .int .i64 0]) ∧ Hid (IsR w6 (w.heap.size + 1 + 1) A n c bs ar2) ∧ Hid (Kept (· = w.heap.size + 1 + 1) w w6) ∧ Hid (w.heap.size + 1 + 1 < w6.heap.size) := by
     refine cT.mono ?_
     intro e w6 h
     rw [hres] at h
     obtain ⟨v, rfl, ⟨Ax, nx, cx, rfl, h1, h2⟩, hR6, hK6⟩ := h
     have hs6 := hK6.size
     exact ⟨Ax, nx, cx, rfl, (OwnQ.cln hO.out (Below.drew (Below.refl _ _))).kept hK6 (fun k hk _ e => by omega), h2, (hb2.out.drew).kept hK6 (show ¬ w.heap.size = w.heap.size + 1 + 1 by omega), (hb3.out.drew).kept hK6 (show ¬ w.heap.size + 1 = w.heap.size + 1 + 1 by omega), hR6, (hKr.out.drew).trans hK6, Nat.lt_of_lt_of_le hsz.out hs6⟩
    have hob : Hid (∀ g, (Value.slice A' i c').ownBlock = some g → g < wr.heap.size) := fun g hg => (own_ge hO.out.own g hg).2
    have hbw : Hid (w.heap.size + 3 ≤ wr.heap.size) := by have := hsz.out; unfold Hid; omega
    clear cT hres hstep hO hb2 hb3 hR hKr
    go_wp2_with fail
    refine Code.wp_mono (Q := Exit.then ?KK (fun _ _ _ => False)) ?hmono ?hmain
    case hmono =>
     intro e a w h
     cases e
     case normal => exact h
     all_goals exact h.elim
    go_region_law (first
     |(go_simp; go_at_call 58; with_reducible refine cT2.mono ?_; rintro e w6 ⟨Ax, nx, cx, rfl, hO6, hq6, hg6, hb6, hR6, hK6, hsz6⟩; have hgc6 := hg6.cell; have hgl6 := hg6.lt; have hgf6 := hg6.frozen)
     |(refine step_pushAt rfl _ _ 36 rfl (w.heap.size + 3) 67 i0 (.agg #[.slice none 0 0]) 1 24 Tryz.underlying36 hi0 hz0 hz1 hz2 rfl (by decide) (by decide) (.slice A' i c') i (acc.flatMap DQ.vals) [.slice Ax nx cx] rfl (by simp [Value.oneCell']) rfl rfl hO6.out.own (by omega) (by have := hsz6.out; omega) ?_; intro v' w7 hown7 hgr7 hv7; obtain ⟨A2, c2, rfl, _, _⟩ := own_form hown7; have hk7 : Kept (fun k => w.heap.size + 3 ≤ k) w6 w7 := ((Kept.refl _ w6).alloc _).grown hgr7 (fun k hk _ => (own_ge hO6.out.own k hk).1); have hg7 := hg6.kept hk7 (show ¬ w.heap.size + 3 ≤ w.heap.size by omega); have hgc7 := hg7.cell; have hgl7 := hg7.lt; have hgf7 := hg7.frozen))
    all_goals
     have hO7 : Hid (OwnDeals w7 (w.heap.size + 3) (.slice A2 (i + 1) c2) (i + 1) (acc ++ [⟨x, Ax, nx, cx⟩])) :=
      OwnQ.push (P := DQ.rd) (b1 := wr.heap.size) (q := (⟨x, Ax, nx, cx⟩ : DQ)) hO6.out (by rw [← dqVals_snoc]; exact hown7) hgr7 hv7 hbw.out hob.out hq6.out
     have hb7 := Lib.hid (hb6.out.kept hk7 (show ¬ w.heap.size + 3 ≤ w.heap.size + 1 by omega))
     have hR7 := Lib.hid (hR6.out.kept hk7 (show ¬ w.heap.size + 3 ≤ w.heap.size + 1 + 1 by omega) (fun ad e => by have := hA'.out ad e; omega))
     have hK7 : Hid (Kept (· = w.heap.size + 1 + 1) w w7) := hK6.out.then_ hk7 (fun k hk h => absurd h (by omega))
     have hs7 : Hid (w.heap.size + 1 + 1 < w7.heap.size) := Nat.lt_of_lt_of_le hsz6.out hk7.size
     clear hO6 hq6 hg6 hb6 hR6 hK6 hsz6 hgc6 hgl6 hgf6 hown7 hgr7 hv7 hk7
     go_wp2_with fail
     go_roundw
     case rel =>
      refine ⟨i + 1, acc ++ [⟨x, Ax, nx, cx⟩], A2, c2, ar2, hlt, by go_num, ?_, ?_, ?_, ?_, ?_, ?_, ?_, ?_⟩
      ·exact OwnQ.kept hO7.out (keptSet w7 w.heap.size 1 _) (fun k hk _ e => by have e : k = w.heap.size := e; omega)
      ·intro q hq
       rcases List.mem_append.1 hq with hq | hq
       ·exact hok.out q hq
       ·obtain rfl : q = ⟨x, Ax, nx, cx⟩ := by simpa using hq
        show (checkDeal x).1 = 0
        rw [hxk.out]
      ·exact hg7.set_ 1 (.slice A2 (i + 1) c2)
      ·exact hb7.out.far (p := ⟨w.heap.size, 1, none⟩) (by simp) _
      ·exact hR7.out.other (q := ⟨w.heap.size, 1, none⟩) (by simp; omega) (fun ad e => by have := hA'.out ad e; simp; omega) _
      ·exact hK7.out.setCell (p := ⟨w.heap.size, 1, none⟩) (fun h => by simp at h) _
      ·unfold Hid; simpa using hs7.out
      ·unfold Hid; rw [hfin.out, List.map_append]; rfl
     case measure => simp [intOf]; omega
  ·obtain rfl : i = m := by omega
   have t3 : decide ((i : Int) < (i : Int)) = false := decide_eq_false (by omega)
   have hS4 : Hid (readLot bs = rdEnd bs (lDone ⟨k, acc.map (·.d)⟩ ar)) := by unfold Hid; rw [hH.out, Nat.sub_self]; rfl
   have hrd := OwnDeals.rd hO.out
   have hcap := own_cap hO.out.own
   have hmo := Lib.hid (mod_of (l := acc.map (·.d)) (fun d hd => by obtain ⟨q, hq, rfl⟩ := List.mem_map.1 hd; exact hok.out q hq))
   have hkr : KindsAt wr := hK.kept hKr.out (show ¬ 1 = w.heap.size + 1 + 1 by omega)
   clear hH hok
   go_wp2_with fail
   refine (lcheck_any ⟨k, acc.map (·.d)⟩ A' i c' hmo.out wr hkr hrd).mono ?_; rintro e w4 ⟨rfl, hq⟩
   have hO4 := Lib.hid (OwnQ.cln hO.out hq)
   have hb24 := hb2.out.cln hq
   have hb34 := Lib.hid (hb3.out.cln hq)
   have hR4 := Lib.hid (hR.out.cln hq)
   have hK4 := Lib.hid (hKr.out.below_ hq)
   have hs4 : w.heap.size + 1 + 1 < w4.heap.size := by have h1 := hq.size; have h2 := hsz.out; omega
   clear hO hb2 hb3 hR hKr hrd hkr hq hgc hgl hgf
   generalize hck : (checkLot ⟨k, acc.map (·.d)⟩).1 = ck
   generalize (checkLot ⟨k, acc.map (·.d)⟩).2 = ck2
   by_cases hz : ck = 0
   case neg =>
    have t5 : (((ck : Nat) : Int) != 0) = true := by rw [bne_iff_ne]; omega
    have ho : Hid (readLot bs = (zeroLot, (ck, ar))) := by unfold Hid; rw [hS4.out]; unfold lDone; rw [hck, if_neg hz]; rfl
    have hf : Hid ((ck, ar).1 ≠ 0) := hz
    go_wp2_with fail
    refine (Fail_any (w.heap.size + 1 + 1) A n c bs ar ck _ hR4.out).mono ?_
    rintro e w5 ⟨rfl, rfl⟩
    have hcl3 : Cln w w4 := hK4.out.toBelow (Nat.le_refl _) (fun i hi h => by omega)
    go_wp2_with fail
    rw [ho.out]
    exact lread_door w w4 (ck, ar) hf.out _ _ _ _ _ hb24 hb34.out hcl3 rfl rfl
   have t5 : (((ck : Nat) : Int) != 0) = false := by rw [hz]; rfl
   have hS5 : Hid (readLot bs = rdEnd bs (.ok (⟨k, acc.map (·.d)⟩, ar))) := by unfold Hid; rw [hS4.out]; unfold lDone; rw [hck, if_pos hz]
   replace hck := Lib.hid hck
   clear hS4
   replace hz := Lib.hid hz
   go_wp2_with fail
   refine (end_any (w.heap.size + 1 + 1) A n c bs ar w4 hR4.out).mono ?_
   intro e w5 h
   rcases h.cases with ⟨u, a2, v, hres2, rfl, hv, hR5, hk5⟩ | ⟨f, hres2, rfl, hk5⟩
   case inr =>
    have ho : Hid (readLot bs = (zeroLot, f)) := by unfold Hid; rw [hS5.out]; unfold rdEnd; simp only [hres2]
    have hf := Lib.hid (rEnd_nz hres2)
    clear h hres2
    have hx2 := hb24.kept hk5 (show ¬ w.heap.size = w.heap.size + 1 + 1 by omega)
    have hx3 := hb34.out.kept hk5 (show ¬ w.heap.size + 1 = w.heap.size + 1 + 1 by omega)
    have hcl3 : Cln w w5 := (hK4.out.trans hk5).toBelow (Nat.le_refl _) (fun i hi h => by omega)
    go_wp2_with fail
    rw [ho.out]
    exact lread_door w w5 f hf.out _ _ _ _ _ hx2 hx3 hcl3 rfl rfl
   have hv' : v = .tuple #[] := hv
   subst hv'
   have ho : Hid (readLot bs = (⟨k, acc.map (·.d)⟩, (0, 0))) := by unfold Hid; rw [hS5.out]; unfold rdEnd; simp only [hres2]
   have hx2 := hb24.kept hk5 (show ¬ w.heap.size = w.heap.size + 1 + 1 by omega)
   have hx3 := hb34.out.kept hk5 (show ¬ w.heap.size + 1 = w.heap.size + 1 + 1 by omega)
   have hO5 := Lib.hid (OwnQ.kept hO4.out hk5 (fun k hk _ e => by omega))
   have hK5 := Lib.hid (hK4.out.trans hk5)
   clear h hv hres2 hk5 hR5 hb24 hb34 hO4 hR4 hK4 hS5
   have c6 := hx2.cell; have f6 := hx2.frozen; have l6 := hx2.lt
   have c7 := hx3.cell; have f7 := hx3.frozen; have l7 := hx3.lt
   go_wp2_with fail
   rw [ho.out]
   have hb8 := hx2.store2 (v0 := .int .i64 (k : Nat)) (v1 := .slice A' i c')
   have hb9 := (hb8.far (p := ⟨w.heap.size + 1, 0, none⟩) (by simp) (.int .i64 0)).far (p := ⟨w.heap.size + 1, 1, none⟩) (by simp) (.int .i64 0)
   have hb10 := ((hx3.far (p := ⟨w.heap.size, 0, none⟩) (by simp) (.int .i64 (k : Nat))).far (p := ⟨w.heap.size, 1, none⟩) (by simp) (.slice A' i c')).store2 (v0 := .int .i64 0) (v1 := .int .i64 0)
   have k1 := ((((Kept.mono (S2 := fun i => i = w.heap.size ∨ i = w.heap.size + 1) hK5.out (fun i h e => by omega)).setCell (p := ⟨w.heap.size, 0, none⟩) (fun _ => .inl rfl) (.int .i64 (k : Nat))).setCell (p := ⟨w.heap.size, 1, none⟩) (fun _ => .inl rfl) (.slice A' i c')).setCell (p := ⟨w.heap.size + 1, 0, none⟩) (fun _ => .inr rfl) (.int .i64 0)).setCell (p := ⟨w.heap.size + 1, 1, none⟩) (fun _ => .inr rfl) (.int .i64 0)
   have hk9 := ((((Kept.refl (fun i => i = w.heap.size ∨ i = w.heap.size + 1) w5).setCell (p := ⟨w.heap.size, 0, none⟩) (fun _ => .inl rfl) (.int .i64 (k : Nat))).setCell (p := ⟨w.heap.size, 1, none⟩) (fun _ => .inl rfl) (.slice A' i c')).setCell (p := ⟨w.heap.size + 1, 0, none⟩) (fun _ => .inr rfl) (.int .i64 0)).setCell (p := ⟨w.heap.size + 1, 1, none⟩) (fun _ => .inr rfl) (.int .i64 0)
   have hO9 := OwnQ.kept hO5.out hk9 (fun k hk _ e => by omega)
   clear c6 f6 c7 f7 hb8 hx2 hx3 hk9 hO5
   refine leaves_cons (f := 53) (args := #[.pointer (some ⟨w.heap.size, 0, none⟩), .pointer (some ⟨w.heap.size + 1, 0, none⟩)]) (by simp) (by simp [go_sem]) ?_
   refine (lcatch_idle w.heap.size (w.heap.size + 1) _).mono ?_
   rintro e u' w6 ⟨rfl, rfl, hq⟩
   refine ⟨.tuple #[.agg #[.int .i64 (k : Nat), .slice A' i c'], faultAgg (0, 0)], ?_, A', i, c', rfl, hm, hcap, (OwnDeals.only (OwnQ.cln hO9 hq)).mono (fun k h => ⟨by omega, h.2⟩), ?_⟩
   ·have s1 : (Tryz.prog.info? 38).map (·.size) = some 2 := by kernel_rfl
    have s2 : (Tryz.prog.info? 89).map (·.size) = some 2 := by kernel_rfl
    exact results_cc2 Tryz.results38 _ _ w.heap.size (w.heap.size + 1) _ _ _ _ (0, 0) (0, 0) _ _ rfl (hb9.cln hq) Tryz.underlying38 rfl s1 rfl (hb10.cln hq) Tryz.underlying89 rfl s2
   ·exact (k1.below_ hq).toBelow (Nat.le_refl _) (fun i hi h => by omega)
end Go.Proofs.YtbemnfbndjolpaaGreatDoor
