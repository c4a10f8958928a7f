/- The walk of the document's Read of lots. (Printed by wip/tools/gen_rlread.py.) -/
import Derived.Test.YtoeoodiifpoomaaGreatDoorWDNext
import Derived.Test.YtoeoodiifpoomaaGreatDoorWLotRead
import Derived.Test.YtoeoodiifpoomaaGreatDoorWLot3
import Derived.StillTailTactics
import Derived.BigRegion
import Derived.Deep.RegionLaw
set_option linter.unusedSimpArgs false
set_option linter.unusedVariables false
set_option maxRecDepth 20000
namespace Go.Proofs.YtoeoodiifpoomaaGreatDoor
open Go.RowKit Moi
attribute [local go_sem] toList_str str_size less_ltB store_float
theorem size_lot : (Tryz.prog.info? 24).map (·.size) = some 2 := by kernel_rfl
def lGo (bs : List UInt8) (k : Nat) (acc : List (List MAct)) (a er : Nat) : RRes (List (List MAct)) := if er = 0 then rDealsGo bs k acc a else .error (er, a)
theorem dnext_st (p : Nat) (A : Option Addr) (n c : Nat) (bs : List UInt8) (a k : Nat) (acc : List (List MAct)) (w : World) (hE : IsE w p A n c bs a 0) (hA : ∀ ad, A = some ad → ad.block < w.heap.size) :
  Calls Tryz.prog 63 #[.pointer (some ⟨p, 0, none⟩)] w fun e w' => ∃ (x : List MAct) (Ax : Option Addr) (nx cx a2 er2 : Nat), e = .returned (.agg #[.slice Ax nx cx]) ∧ OnlyBy (fun k => w.heap.size ≤ k ∧ k < w'.heap.size) w' (DQ.rd ⟨x, Ax, nx, cx⟩) ∧
   IsE w' p A n c bs a2 er2 ∧ Kept (· = p) w w' ∧ rDealsGo bs (k + 1) acc a = lGo bs k (acc ++ [x]) a2 er2 ∧ (er2 = 0 → (checkDeal x).1 = 0) := by
 refine (dnext_any p A n c bs a w hE hA).mono ?_
 intro e w' hP
 cases h : rDeal bs a with
 | error er =>
  obtain ⟨cd, a1⟩ := er
  rw [h] at hP
  obtain ⟨rfl, hE1, hk1⟩ := hP
  exact ⟨[], none, 0, 0, a1, cd, rfl, fun W _ => (⟨rfl, fun h => absurd h (by omega)⟩ : RdActs W none 0 []), hE1, hk1, by unfold rDealsGo lGo; rw [h, if_neg (rDeal_nz h)], fun h0 => absurd h0 (rDeal_nz h)⟩
 | ok y =>
  obtain ⟨x, a1⟩ := y
  rw [h] at hP
  obtain ⟨v, rfl, ⟨Ax, nx, cx, rfl, hn, hL⟩, hE1, hk1⟩ := hP
  exact ⟨x, Ax, nx, cx, a1, 0, rfl, hL, hE1, hk1, by rw [rDealsGo, h]; rfl, fun _ => by rw [(rDeal_at h).2.1]⟩
def RLReadPost (w : World) (o : MLot × RErr) (e : Ending) (w' : World) : Prop :=
 ∃ A n c, e = .returned (.tuple #[.agg #[.int .i64 o.1.num, .slice A n c], .int .i64 (o.2.1 : Nat), .int .i64 (o.2.2 : Nat)]) ∧ n ≤ 32 ∧ n ≤ c ∧ RdDeals w' A n o.1.deals ∧ Cln w w'
set_option maxHeartbeats 8000000 in
theorem rlread_any (A : Option Addr) (n c : Nat) (bs : List UInt8) (w : World) (hK : KindsAt w) (hr : RdBytes w A n bs) (hc : n ≤ c) (hb : n ≤ 140737488355328) (hA : ∀ ad, A = some ad → ad.block < w.heap.size) :
  Calls Tryz.prog 22 #[.slice A n c] w (RLReadPost w (readLot bs)) := by
 have hlen : Hid (bs.length = n) := hr.len
 have hcl0 : Cln w (((w.alloc (.cells #[.int .i64 0, .slice none 0 0] 24)).alloc (.cells #[.slice A n c, .int .i64 0, .int .i64 0] 101)).alloc (.cells #[.int .i64 0, .slice none 0 0] 24)) := by (repeat with_reducible first | exact cR _ | assumption | refine cA ?_ _ | refine cD ?_ | refine cN ?_ _ | refine cS ?_ (by first | omega | (simp <;> omega)) _)
 have hE0 : IsE (((w.alloc (.cells #[.int .i64 0, .slice none 0 0] 24)).alloc (.cells #[.slice A n c, .int .i64 0, .int .i64 0] 101)).alloc (.cells #[.int .i64 0, .slice none 0 0] 24)) (w.heap.size + 1) A n c bs 0 0 := by
  refine ⟨?_, hr.cln hcl0, Nat.zero_le _, hc, hb, fun ad e => by have := hA ad e; omega⟩
  have := (Blk.new (w.alloc (.cells #[.int .i64 0, .slice none 0 0] 24)) 101 #[.slice A n c, .int .i64 0, .int .i64 0]).alloc (.cells #[.int .i64 0, .slice none 0 0] 24)
  rw [World.size_alloc] at this
  exact this
 have hb2 := ((Blk.new w 24 #[.int .i64 0, .slice none 0 0]).alloc (.cells #[.slice A n c, .int .i64 0, .int .i64 0] 101)).alloc (.cells #[.int .i64 0, .slice none 0 0] 24)
 have hb3 := Blk.new ((w.alloc (.cells #[.int .i64 0, .slice none 0 0] 24)).alloc (.cells #[.slice A n c, .int .i64 0, .int .i64 0] 101)) 24 #[.int .i64 0, .slice none 0 0]
 simp only [World.size_alloc] at hb3
 have hA' := Lib.hid hA
 have hkl := hK.lt
 replace hK := Lib.hid hK
 rcases h1 : nxt (rUpto 1099511627776 bs) 0 0 0 with ⟨k, a1, e1⟩
 have hkm : k ≤ 1099511627776 := nxt_all (fun x : Nat => x ≤ 1099511627776) (by decide) (fun x a' h => rUpto_le h) h1
 have hI : Hid (readLot bs = rdEnd bs (if e1 = 0 then (if k = 0 then .error (1, a1) else lBody k bs a1) else .error (e1, a1))) := by
  unfold Hid
  rw [← eStep (r := rUpto 1099511627776 bs) (d := 0) (cont := fun k a => if k = 0 then .error (1, a) else lBody k bs a) (fun a e h => rUpto_nz h) h1, if_pos rfl]
  unfold readLot rdEnd rLot
  cases rUpto 1099511627776 bs 0 with
  | error e => rfl
  | ok y => obtain ⟨y, b⟩ := y; rfl
 have hnz : k ≠ 0 → e1 = 0 := fun h => nxt_hit h1 h
 replace h1 := Lib.hid h1
 replace hnz := Lib.hid hnz
 clear hA hr
 go_enter Tryz.func22, Tryz.ntmps22
 go_wp2_with fail
 refine (upto_st (w.heap.size + 1) A n c bs 0 0 _ hE0 1099511627776 (by decide) h1.out).mono ?_
 rintro e w1 ⟨rfl, hE, hk1⟩
 replace hb2 := Lib.hid (hb2.kept hk1 (show ¬ w.heap.size = w.heap.size + 1 by omega))
 have hb3 := hb3.kept hk1 (show ¬ w.heap.size + 1 + 1 = w.heap.size + 1 by omega)
 have hKp := Lib.hid ((Kept.of_below (S := (· = w.heap.size + 1)) hcl0).trans hk1)
 have c3 := hb3.cell; have f3 := hb3.frozen; have l3 := hb3.lt
 have hb3' := Lib.hid (hb3.set_ 0 (.int .i64 (k : Nat)))
 replace hE := Lib.hid (hE.other (q := ⟨w.heap.size + 1 + 1, 0, none⟩) (by simp) (fun ad e => by have := hA'.out ad e; simp; omega) (.int .i64 (k : Nat)))
 replace hb2 := Lib.hid (hb2.out.far (p := ⟨w.heap.size + 1 + 1, 0, none⟩) (by simp; omega) (.int .i64 (k : Nat)))
 replace hKp := Lib.hid (hKp.out.setCell (p := ⟨w.heap.size + 1 + 1, 0, none⟩) (fun h => by simp at h; omega) (.int .i64 (k : Nat)))
 have hs1 : Hid (w.heap.size + 1 + 1 < w1.heap.size) := l3
 clear hE0 hcl0 hk1 h1
 by_cases h0 : k = 0
 ·subst h0
  have c30 := hb3'.out.cell 0
  clear hb3
  go_wp2_with fail
  refine (fail_st (w.heap.size + 1) A n c bs a1 e1 1 _ hE.out).mono ?_
  generalize hf9 : (if e1 = 0 then 1 else e1) = er
  have hJ : Hid (readLot bs = (zeroLot, (er, a1))) := by
   unfold Hid; rw [hI.out, ← hf9]
   by_cases hz : e1 = 0
   ·simp [hz, rdEnd]
   ·simp [hz, rdEnd]
  have hz : er ≠ 0 := by rw [← hf9]; split <;> omega
  clear hf9 hI hE hnz
  rintro e w2 ⟨rfl, hE, hk2⟩
  have hcl : Hid (Cln w w2) := (hKp.out.trans hk2).toBelow (Nat.le_refl _) (fun i hi h => by omega)
  replace hb2 := Lib.hid (hb2.out.kept hk2 (show ¬ w.heap.size = w.heap.size + 1 by omega))
  replace hE := Lib.hid hE
  clear c3 f3 l3 c30 hb3' hk2 hKp
  go_wp2_with fail
  refine (upto_old (w.heap.size + 1) A n c bs a1 er hz 32 _ hE.out).mono ?_
  rintro e w3 ⟨rfl, hq⟩
  replace hcl := Lib.hid (cln_trans hcl.out hq)
  replace hb2 := Lib.hid (hb2.out.cln hq)
  replace hE := Lib.hid (hE.out.cln hq)
  clear hq
  have t3 : (((er : Nat) : Int) == 0) = false := by rw [beq_eq_false_iff_ne]; omega
  have c2 := hE.out.blk.cell 2; have lE := hE.out.blk.lt
  obtain ⟨ar, har⟩ : ∃ ar, ar = a1 := ⟨_, rfl⟩
  subst har
  go_wp2_with fail
  go_loopw [8] (fun v wr => v = .int .i64 0 ∧ wr = w3) (fun _ _ => 0)
  case atStart => exact ⟨rfl, rfl⟩
  case round =>
   obtain ⟨rfl, rfl⟩ := hrel
   go_wp2_with fail
   clear c2 lE
   refine (end_old (w.heap.size + 1) A n c bs ar er hz _ hE.out).mono ?_
   rintro e w8 ⟨rfl, hq⟩
   replace hE := Lib.hid (hE.out.cln hq)
   replace hb2 := Lib.hid (hb2.out.cln hq)
   replace hcl := Lib.hid (cln_trans hcl.out hq)
   clear hq
   
   have c1 := hE.out.blk.cell 1; have c2 := hE.out.blk.cell 2; have lE := hE.out.blk.lt
   have k0 := hb2.out.cell 0; have k1 := hb2.out.cell 1; have f0 := hb2.out.frozen; have l0 := hb2.out.lt
   have t2 : (((er : Nat) : Int) != 0) = true := by rw [bne_iff_ne]; omega
   have hne : ¬ w.heap.size = w.heap.size + 1 := by omega
   have hb9 := Lib.hid (Blk.store2 hb2.out (v0 := .int .i64 0) (v1 := .slice none 0 0))
   clear hb2 hE
   go_wp2_with fail
   go_region
   go_wp2_with fail
   refine bodyPost_ret (results_ctt Tryz.results22 _ _ w.heap.size 24 #[.int .i64 0, .slice none 0 0] (0, 0) _ rfl ?_ Tryz.underlying24 rfl size_lot) rfl ?_
   ·exact blk_drew hb9.out
   ·rw [hJ.out]
    have hcl3 := hcl.out
    exact ⟨none, 0, 0, rfl, Nat.zero_le _, Nat.le_refl _, RdDeals.none_ _, by (repeat with_reducible first | exact cR _ | assumption | refine cA ?_ _ | refine cD ?_ | refine cN ?_ _ | refine cS ?_ (by first | omega | (simp <;> omega)) _)⟩
 have he1 := hnz.out h0
 subst he1
 have t1 : ((k : Int) == 0) = false := by rw [beq_eq_false_iff_ne]; omega
 have c30 := hb3'.out.cell 0
 rcases h2 : nxt (rUpto 32 bs) 0 a1 0 with ⟨m, a2, e2⟩
 have hm : m ≤ 32 := nxt_all (fun x : Nat => x ≤ 32) (by decide) (fun x a' h => rUpto_le h) h2
 have hI2 : Hid (readLot bs = rdEnd bs (rLotEnd k (lGo bs (m - 0) (([] : List DQ).map (·.d)) a2 e2))) := by
  unfold Hid
  rw [hI.out, if_pos rfl, if_neg h0]
  unfold lBody lGo rLotEnd
  cases hu : rUpto 32 bs a1 with
  | error y => obtain ⟨cd, b⟩ := y; rw [nxt_err hu, Prod.mk.injEq, Prod.mk.injEq] at h2; obtain ⟨rfl, rfl, rfl⟩ := h2; rw [if_neg (rUpto_nz hu)]
  | ok y => obtain ⟨y, b⟩ := y; rw [nxt_ok hu, Prod.mk.injEq, Prod.mk.injEq] at h2; obtain ⟨rfl, rfl, rfl⟩ := h2; rw [if_pos rfl]; rfl
 replace h2 := Lib.hid h2
 clear hI hnz hb3
 go_wp2_with fail
 refine (upto_st (w.heap.size + 1) A n c bs a1 0 _ hE.out 32 (by decide) h2.out).mono ?_
 rintro e w3 ⟨rfl, hE3, hk3⟩
 replace hb2 := Lib.hid (hb2.out.kept hk3 (show ¬ w.heap.size = w.heap.size + 1 by omega))
 have hg := Lib.hid (hb3'.out.kept hk3 (show ¬ w.heap.size + 1 + 1 = w.heap.size + 1 by omega))
 replace hKp := Lib.hid (hKp.out.trans hk3)
 replace hE := Lib.hid hE3
 replace hs1 : Hid (w.heap.size + 1 + 1 < w3.heap.size) := hg.out.lt
 clear hE3 hk3 c3 f3 l3 c30 hb3' h2
 go_wp2_with fail
 go_loopw [8] (fun v wr => ∃ (i : Nat) (acc : List DQ) (A' : Option Addr) (c' ar er : Nat), i ≤ m ∧ v = .int .i64 (i : Nat) ∧ Hid (OwnDeals wr (w.heap.size + 3) (.slice A' i c') i acc) ∧ Hid (er = 0 → ∀ q ∈ acc, (checkDeal q.d).1 = 0) ∧ Hid (Blk wr w.heap.size 24 #[.int .i64 0, .slice none 0 0]) ∧ Hid (Blk wr (w.heap.size + 1 + 1) 24 #[.int .i64 (k : Nat), .slice A' i c']) ∧ Hid (IsE wr (w.heap.size + 1) A n c bs ar er) ∧ Hid (Kept (· = w.heap.size + 1) w wr) ∧ Hid (w.heap.size + 1 + 1 < wr.heap.size) ∧ Hid (readLot bs = rdEnd bs (rLotEnd k (lGo bs (m - i) (acc.map (·.d)) ar er)))) (fun v _ => (m - intOf v).toNat)
 case atStart => exact ⟨0, [], none, 0, a2, e2, Nat.zero_le _, rfl, OwnQ.nil _ _ _ _ _ _, (fun _ _ h => by cases h), hb2, hg, hE, hKp, hs1, hI2⟩
 case round =>
  clear hb2 hg hE hKp hs1 hI2
  obtain ⟨i, acc, A', c', ar, er, hi, rfl, hO, hok, hb2, hg, hE, hKp, hsz, hH⟩ := hrel
  by_cases hz : er = 0
  case neg =>
   have hJ : Hid (readLot bs = (zeroLot, (er, ar))) := by unfold Hid; rw [hH.out]; unfold lGo; rw [if_neg hz]; rfl
   have hcl : Hid (Cln w wr) := hKp.out.toBelow (Nat.le_refl _) (fun i hi h => by omega)
   clear hH hO hg hok hKp
   by_cases hlt : i < m
   ·have t5 : decide ((i : Int) < (m : Int)) = true := decide_eq_true (by omega)
    have t3 : (((er : Nat) : Int) == 0) = false := by rw [beq_eq_false_iff_ne]; omega
    have c2 := hE.out.blk.cell 2; have lE := hE.out.blk.lt
    
    go_wp2_with fail
    clear c2 lE
    refine (end_old (w.heap.size + 1) A n c bs ar er hz _ hE.out).mono ?_
    rintro e w8 ⟨rfl, hq⟩
    replace hE := Lib.hid (hE.out.cln hq)
    replace hb2 := Lib.hid (hb2.out.cln hq)
    replace hcl := Lib.hid (cln_trans hcl.out hq)
    clear hq
    
    have c1 := hE.out.blk.cell 1; have c2 := hE.out.blk.cell 2; have lE := hE.out.blk.lt
    have k0 := hb2.out.cell 0; have k1 := hb2.out.cell 1; have f0 := hb2.out.frozen; have l0 := hb2.out.lt
    have t2 : (((er : Nat) : Int) != 0) = true := by rw [bne_iff_ne]; omega
    have hne : ¬ w.heap.size = w.heap.size + 1 := by omega
    have hb9 := Lib.hid (Blk.store2 hb2.out (v0 := .int .i64 0) (v1 := .slice none 0 0))
    clear hb2 hE
    go_wp2_with fail
    go_region
    go_wp2_with fail
    refine bodyPost_ret (results_ctt Tryz.results22 _ _ w.heap.size 24 #[.int .i64 0, .slice none 0 0] (0, 0) _ rfl ?_ Tryz.underlying24 rfl size_lot) rfl ?_
    ·exact blk_drew hb9.out
    ·rw [hJ.out]
     have hcl3 := hcl.out
     exact ⟨none, 0, 0, rfl, Nat.zero_le _, Nat.le_refl _, RdDeals.none_ _, by (repeat with_reducible first | exact cR _ | assumption | refine cA ?_ _ | refine cD ?_ | refine cN ?_ _ | refine cS ?_ (by first | omega | (simp <;> omega)) _)⟩
   ·have t5 : decide ((i : Int) < (m : Int)) = false := decide_eq_false (by omega)
    have t3 : (((er : Nat) : Int) == 0) = false := by rw [beq_eq_false_iff_ne]; omega
    have c2 := hE.out.blk.cell 2; have lE := hE.out.blk.lt
    
    go_wp2_with fail
    clear c2 lE
    refine (end_old (w.heap.size + 1) A n c bs ar er hz _ hE.out).mono ?_
    rintro e w8 ⟨rfl, hq⟩
    replace hE := Lib.hid (hE.out.cln hq)
    replace hb2 := Lib.hid (hb2.out.cln hq)
    replace hcl := Lib.hid (cln_trans hcl.out hq)
    clear hq
    
    have c1 := hE.out.blk.cell 1; have c2 := hE.out.blk.cell 2; have lE := hE.out.blk.lt
    have k0 := hb2.out.cell 0; have k1 := hb2.out.cell 1; have f0 := hb2.out.frozen; have l0 := hb2.out.lt
    have t2 : (((er : Nat) : Int) != 0) = true := by rw [bne_iff_ne]; omega
    have hne : ¬ w.heap.size = w.heap.size + 1 := by omega
    have hb9 := Lib.hid (Blk.store2 hb2.out (v0 := .int .i64 0) (v1 := .slice none 0 0))
    clear hb2 hE
    go_wp2_with fail
    go_region
    go_wp2_with fail
    refine bodyPost_ret (results_ctt Tryz.results22 _ _ w.heap.size 24 #[.int .i64 0, .slice none 0 0] (0, 0) _ rfl ?_ Tryz.underlying24 rfl size_lot) rfl ?_
    ·exact blk_drew hb9.out
    ·rw [hJ.out]
     have hcl3 := hcl.out
     exact ⟨none, 0, 0, rfl, Nat.zero_le _, Nat.le_refl _, RdDeals.none_ _, by (repeat with_reducible first | exact cR _ | assumption | refine cA ?_ _ | refine cD ?_ | refine cN ?_ _ | refine cS ?_ (by first | omega | (simp <;> omega)) _)⟩
  subst hz
  replace hok := Lib.hid (hok.out rfl)
  have c2 := hE.out.blk.cell 2; have lE := hE.out.blk.lt
  have hgc := hg.out.cell
  have hgl := hg.out.lt
  have hgf := hg.out.frozen
  by_cases hlt : i < m
  ·have t3 : decide ((i : Int) < (m : Int)) = true := decide_eq_true (by omega)
   have cT := dnext_st (w.heap.size + 1) A n c bs ar (m - (i + 1)) (acc.map (·.d)) wr.drew (hE.out.cln (Below.drew (Below.refl _ _))) (fun ad e => by have h1 := hA'.out ad e; have h2 := hsz.out; show ad.block < wr.heap.size; omega)
   obtain ⟨i0, hi0, hz0, hz1, hz2⟩ := info_parts Tryz.info48
   have cT2 : Calls Tryz.prog 63 #[.pointer (some ⟨w.heap.size + 1, 0, none⟩)] wr.drew fun e w6 => ∃ (x : List MAct) (Ax : Option Addr) (nx cx a2 er2 : Nat), e = .returned (.agg #[.slice Ax nx cx]) ∧ Hid (OwnDeals w6 (w.heap.size + 3) (.slice A' i c') i acc) ∧ Hid (OnlyBy (fun k => wr.heap.size ≤ k ∧ k < w6.heap.size) w6 (DQ.rd ⟨x, Ax, nx, cx⟩)) ∧ Blk w6 (w.heap.size + 1 + 1) 24 #[.int .i64 (k : Nat), .slice A' i c'] ∧ Hid (Blk w6 w.heap.size 24 #[.int .i64 0, .slice none 0 0]) ∧ Hid (IsE w6 (w.heap.size + 1) A n c bs a2 er2) ∧ Hid (Kept (· = w.heap.size + 1) w w6) ∧ Hid (w.heap.size + 1 + 1 < w6.heap.size) ∧ Hid (readLot bs = rdEnd bs (rLotEnd k (lGo bs (m - (i + 1)) (acc.map (·.d) ++ [x]) a2 er2))) ∧ Hid (er2 = 0 → (checkDeal x).1 = 0) := by
    refine cT.mono ?_
    rintro e w6 ⟨x, Ax, nx, cx, a2, er2, rfl, hQ, hE6, hK6, hst, hck⟩
    have hs6 := hK6.size
    exact ⟨x, Ax, nx, cx, a2, er2, rfl, (OwnQ.cln hO.out (Below.drew (Below.refl _ _))).kept hK6 (fun k hk _ e => by omega), hQ, (hg.out.drew).kept hK6 (show ¬ w.heap.size + 1 + 1 = w.heap.size + 1 by omega), (hb2.out.drew).kept hK6 (show ¬ w.heap.size = w.heap.size + 1 by omega), hE6, (hKp.out.drew).trans hK6, Nat.lt_of_lt_of_le hsz.out hs6,
     by unfold Hid; rw [hH.out, ← hst]; unfold lGo; rw [if_pos rfl, show m - i = m - (i + 1) + 1 from by omega], hck⟩
   have hob : Hid (∀ g, (Value.slice A' i c').ownBlock = some g → g < wr.heap.size) := fun g hg => (own_ge hO.out.own g hg).2
   have hbw : Hid (w.heap.size + 3 ≤ wr.heap.size) := by have := hsz.out; unfold Hid; omega
   clear cT hH hO hg hb2 hE hKp
   go_wp2_with fail
   go_region_law (first
    |(go_simp; go_at_call 63; with_reducible refine cT2.mono ?_; rintro e w6 ⟨x, Ax, nx, cx, a2, er2, rfl, hO6, hq6, hg6, hb6, hE6, hK6, hsz6, hH6, hck6⟩; have hgc6 := hg6.cell; have hgl6 := hg6.lt; have hgf6 := hg6.frozen)
    |(refine step_pushAt rfl _ _ 22 rfl (w.heap.size + 3) 48 i0 (.agg #[.slice none 0 0]) 1 24 Tryz.underlying22 hi0 hz0 hz1 hz2 rfl (by decide) (by decide) (.slice A' i c') i (acc.flatMap DQ.vals) [.slice Ax nx cx] rfl (by simp [Value.oneCell']) rfl rfl hO6.out.own (by omega) (by have := hsz6.out; omega) ?_; intro v' w7 hown7 hgr7 hv7; obtain ⟨A2, c2', rfl, _, _⟩ := own_form hown7; have hk7 : Kept (fun k => w.heap.size + 3 ≤ k) w6 w7 := ((Kept.refl _ w6).alloc _).grown hgr7 (fun k hk _ => (own_ge hO6.out.own k hk).1); have hg7 := hg6.kept hk7 (show ¬ w.heap.size + 3 ≤ w.heap.size + 1 + 1 by omega); have hgc7 := hg7.cell; have hgl7 := hg7.lt; have hgf7 := hg7.frozen))
   all_goals
    have hO7 : Hid (OwnDeals w7 (w.heap.size + 3) (.slice A2 (i + 1) c2') (i + 1) (acc ++ [⟨x, Ax, nx, cx⟩])) :=
     OwnQ.push (P := DQ.rd) (b1 := wr.heap.size) (q := (⟨x, Ax, nx, cx⟩ : DQ)) hO6.out (by rw [← dqVals_snoc]; exact hown7) hgr7 hv7 hbw.out hob.out hq6.out
    have hb7 := Lib.hid (hb6.out.kept hk7 (show ¬ w.heap.size + 3 ≤ w.heap.size by omega))
    have hE7 := Lib.hid (hE6.out.kept hk7 (show ¬ w.heap.size + 3 ≤ w.heap.size + 1 by omega) (fun ad e => by have := hA'.out ad e; omega))
    have hK7 : Hid (Kept (· = w.heap.size + 1) w w7) := hK6.out.then_ hk7 (fun k hk h => absurd h (by omega))
    have hs7 : Hid (w.heap.size + 1 + 1 < w7.heap.size) := Nat.lt_of_lt_of_le hsz6.out hk7.size
    clear hO6 hq6 hg6 hb6 hE6 hK6 hsz6 hgc6 hgl6 hgf6 hown7 hgr7 hv7 hk7
    go_wp2_with fail
    go_roundw
    case rel =>
     refine ⟨i + 1, acc ++ [⟨x, Ax, nx, cx⟩], A2, c2', a2, er2, hlt, by go_num, ?_, ?_, ?_, ?_, ?_, ?_, ?_, ?_⟩
     ·exact OwnQ.kept hO7.out (keptSet w7 (w.heap.size + 1 + 1) 1 _) (fun k hk _ e => by have e : k = w.heap.size + 1 + 1 := e; omega)
     ·intro h9 q hq
      rcases List.mem_append.1 hq with hq | hq
      ·exact hok.out q hq
      ·obtain rfl : q = ⟨x, Ax, nx, cx⟩ := by simpa using hq
       exact hck6.out h9
     ·exact hb7.out.far (p := ⟨w.heap.size + 1 + 1, 1, none⟩) (by simp; omega) _
     ·exact hg7.set_ 1 (.slice A2 (i + 1) c2')
     ·exact hE7.out.other (q := ⟨w.heap.size + 1 + 1, 1, none⟩) (by simp) (fun ad e => by have := hA'.out ad e; simp; omega) _
     ·exact hK7.out.setCell (p := ⟨w.heap.size + 1 + 1, 1, none⟩) (fun h => by simp at h; omega) _
     ·unfold Hid; simpa using hs7.out
     ·unfold Hid; rw [hH6.out, List.map_append]; rfl
    case measure => simp [intOf]; omega
  ·obtain rfl : i = m := by omega
   have t3 : decide ((i : Int) < (i : Int)) = false := decide_eq_false (by omega)
   have hS4 : Hid (readLot bs = rdEnd bs (lDone ⟨k, acc.map (·.d)⟩ ar)) := by unfold Hid; rw [hH.out, Nat.sub_self]; rfl
   have hrd := OwnDeals.rd hO.out
   have hcap := own_cap hO.out.own
   have hmo := Lib.hid (mod_of (l := acc.map (·.d)) (fun d hd => by obtain ⟨q, hq, rfl⟩ := List.mem_map.1 hd; exact hok.out q hq))
   have hkr : KindsAt wr := hK.out.kept hKp.out (show ¬ 0 = w.heap.size + 1 by omega)
   clear hH hok
   go_wp2_with fail
   refine (rlcheck_any ⟨k, acc.map (·.d)⟩ A' i c' hmo.out wr hkr hrd).mono ?_; rintro e w4 ⟨rfl, hq⟩
   have hO4 := Lib.hid (OwnQ.cln hO.out hq)
   replace hb2 := Lib.hid (hb2.out.cln hq)
   replace hg := Lib.hid (hg.out.cln hq)
   replace hE := Lib.hid (hE.out.cln hq)
   replace hKp := Lib.hid (hKp.out.below_ hq)
   have hs4 : w.heap.size + 1 + 1 < w4.heap.size := by have h1 := hq.size; have h2 := hsz.out; omega
   clear hO hrd hkr hq hgc hgl hgf c2 lE hsz
   generalize hck : (checkLot ⟨k, acc.map (·.d)⟩).1 = ck
   generalize (checkLot ⟨k, acc.map (·.d)⟩).2 = ck2
   replace hck := Lib.hid hck
   go_wp2_with fail
   refine (fail_new (w.heap.size + 1) A n c bs ar ck _ hE.out).mono ?_
   rintro e w5 ⟨rfl, hE5, hk5⟩
   replace hb2 := Lib.hid (hb2.out.kept hk5 (show ¬ w.heap.size = w.heap.size + 1 by omega))
   replace hg := Lib.hid (hg.out.kept hk5 (show ¬ w.heap.size + 1 + 1 = w.heap.size + 1 by omega))
   replace hO4 := Lib.hid (OwnQ.kept hO4.out hk5 (fun k hk _ e => by omega))
   replace hKp := Lib.hid (hKp.out.trans hk5)
   replace hE := Lib.hid hE5
   have hs5 : w.heap.size + 1 + 1 < w5.heap.size := hg.out.lt
   clear hE5 hk5 hs4
   have hcl : Hid (Cln w w5) := hKp.out.toBelow (Nat.le_refl _) (fun i hi h => by omega)
   go_wp2_with fail
   by_cases hz : ck = 0
   case neg =>
    have hJ : Hid (readLot bs = (zeroLot, (ck, ar))) := by unfold Hid; rw [hS4.out]; unfold lDone; rw [hck.out, if_neg hz]; rfl
    obtain ⟨er, her⟩ : ∃ er, er = ck := ⟨_, rfl⟩
    subst her
    clear hS4 hck hO4 hg hKp
    refine (end_old (w.heap.size + 1) A n c bs ar er hz _ hE.out).mono ?_
    rintro e w8 ⟨rfl, hq⟩
    replace hE := Lib.hid (hE.out.cln hq)
    replace hb2 := Lib.hid (hb2.out.cln hq)
    replace hcl := Lib.hid (cln_trans hcl.out hq)
    clear hq
    
    have c1 := hE.out.blk.cell 1; have c2 := hE.out.blk.cell 2; have lE := hE.out.blk.lt
    have k0 := hb2.out.cell 0; have k1 := hb2.out.cell 1; have f0 := hb2.out.frozen; have l0 := hb2.out.lt
    have t2 : (((er : Nat) : Int) != 0) = true := by rw [bne_iff_ne]; omega
    have hne : ¬ w.heap.size = w.heap.size + 1 := by omega
    have hb9 := Lib.hid (Blk.store2 hb2.out (v0 := .int .i64 0) (v1 := .slice none 0 0))
    clear hb2 hE
    go_wp2_with fail
    go_region
    go_wp2_with fail
    refine bodyPost_ret (results_ctt Tryz.results22 _ _ w.heap.size 24 #[.int .i64 0, .slice none 0 0] (0, 0) _ rfl ?_ Tryz.underlying24 rfl size_lot) rfl ?_
    ·exact blk_drew hb9.out
    ·rw [hJ.out]
     have hcl3 := hcl.out
     exact ⟨none, 0, 0, rfl, Nat.zero_le _, Nat.le_refl _, RdDeals.none_ _, by (repeat with_reducible first | exact cR _ | assumption | refine cA ?_ _ | refine cD ?_ | refine cN ?_ _ | refine cS ?_ (by first | omega | (simp <;> omega)) _)⟩
   subst hz
   have hS5 : Hid (readLot bs = rdEnd bs (.ok (⟨k, acc.map (·.d)⟩, ar))) := by unfold Hid; rw [hS4.out]; unfold lDone; rw [hck.out, if_pos rfl]
   clear hS4
   by_cases hlt2 : ar < n
   case pos =>
    have hJ : Hid (readLot bs = (zeroLot, (3, ar))) := by unfold Hid; rw [hS5.out]; simp only [rdEnd, rEnd]; rw [if_pos (by rw [hlen.out]; omega)]
    refine (end_left (w.heap.size + 1) A n c bs ar hlt2 _ hE.out).mono ?_
    rintro e w6 ⟨rfl, hE6, hq⟩
    replace hb2 := Lib.hid (hb2.out.kept hq (show ¬ w.heap.size = w.heap.size + 1 by omega))
    replace hcl : Hid (Cln w w6) := (hKp.out.trans hq).toBelow (Nat.le_refl _) (fun i hi h => by omega)
    replace hE := Lib.hid hE6
    obtain ⟨er, her⟩ : ∃ er : Nat, er = 3 := ⟨_, rfl⟩
    rw [← her] at hE hJ
    have hz : er ≠ 0 := by omega
    clear her
    clear hO4 hg hKp hq hE6
    have c1 := hE.out.blk.cell 1; have c2 := hE.out.blk.cell 2; have lE := hE.out.blk.lt
    have k0 := hb2.out.cell 0; have k1 := hb2.out.cell 1; have f0 := hb2.out.frozen; have l0 := hb2.out.lt
    have t2 : (((er : Nat) : Int) != 0) = true := by rw [bne_iff_ne]; omega
    have hne : ¬ w.heap.size = w.heap.size + 1 := by omega
    have hb9 := Lib.hid (Blk.store2 hb2.out (v0 := .int .i64 0) (v1 := .slice none 0 0))
    clear hb2 hE
    go_wp2_with fail
    go_region
    go_wp2_with fail
    refine bodyPost_ret (results_ctt Tryz.results22 _ _ w.heap.size 24 #[.int .i64 0, .slice none 0 0] (0, 0) _ rfl ?_ Tryz.underlying24 rfl size_lot) rfl ?_
    ·exact blk_drew hb9.out
    ·rw [hJ.out]
     have hcl3 := hcl.out
     exact ⟨none, 0, 0, rfl, Nat.zero_le _, Nat.le_refl _, RdDeals.none_ _, by (repeat with_reducible first | exact cR _ | assumption | refine cA ?_ _ | refine cD ?_ | refine cN ?_ _ | refine cS ?_ (by first | omega | (simp <;> omega)) _)⟩
   have hJ : Hid (readLot bs = (⟨k, acc.map (·.d)⟩, (0, 0))) := by unfold Hid; rw [hS5.out]; simp only [rdEnd, rEnd]; rw [if_neg (by rw [hlen.out]; omega)]
   obtain rfl : ar = n := by have := hE.out.le; omega
   refine (end_full (w.heap.size + 1) A ar c bs 0 _ hE.out).mono ?_
   rintro e w6 ⟨rfl, hq⟩
   replace hb2 := Lib.hid (hb2.out.cln hq)
   replace hg := Lib.hid (hg.out.cln hq)
   replace hO4 := Lib.hid (OwnQ.cln hO4.out hq)
   replace hcl := Lib.hid (cln_trans hcl.out hq)
   replace hE := Lib.hid (hE.out.cln hq)
   clear hq hKp
   have c2 := hE.out.blk.cell 2; have lE := hE.out.blk.lt
   have k0 := hg.out.cell 0; have k1 := hg.out.cell 1; have l3 := hg.out.lt
   have q0 := hb2.out.cell; have f0 := hb2.out.frozen; have l0 := hb2.out.lt
   have hb9 := Lib.hid (Blk.store2 hb2.out (v0 := .int .i64 (k : Nat)) (v1 := .slice A' i c'))
   clear hb2 hE
   go_wp2_with fail
   refine bodyPost_ret (results_ctt Tryz.results22 _ _ w.heap.size 24 #[.int .i64 (k : Nat), .slice A' i c'] (0, 0) _ rfl ?_ Tryz.underlying24 rfl size_lot) rfl ?_
   ·exact hb9.out
   ·rw [hJ.out]
    have hcl3 := hcl.out
    have hk9 := ((Kept.refl (fun i => i = w.heap.size) w6).setCell (p := ⟨w.heap.size, 0, none⟩) (fun _ => rfl) (.int .i64 (k : Nat))).setCell (p := ⟨w.heap.size, 1, none⟩) (fun _ => rfl) (.slice A' i c')
    exact ⟨A', i, c', rfl, hm, hcap, OwnDeals.rd (OwnQ.kept hO4.out hk9 (fun k hk _ e => by omega)), by (repeat with_reducible first | exact cR _ | assumption | refine cA ?_ _ | refine cD ?_ | refine cN ?_ _ | refine cS ?_ (by first | omega | (simp <;> omega)) _)⟩
end Go.Proofs.YtoeoodiifpoomaaGreatDoor
