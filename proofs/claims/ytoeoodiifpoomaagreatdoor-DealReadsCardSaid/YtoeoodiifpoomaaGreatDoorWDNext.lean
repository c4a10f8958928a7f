/- The walk of the document's Next of deals. (Printed by wip/tools/gen_dnext.py.) -/
import Derived.Test.YtoeoodiifpoomaaGreatDoorRows2
import Derived.Test.YtoeoodiifpoomaaGreatDoorOwns
import Derived.Test.YtoeoodiifpoomaaGreatDoorANexts
import Derived.Deep.RegionLaw
set_option linter.unusedSimpArgs false
set_option linter.unusedVariables false
set_option maxRecDepth 20000
namespace Go.Proofs.YtoeoodiifpoomaaGreatDoor
open Go.RowKit Moi
attribute [local go_sem] toList_str str_size less_ltB store_float
theorem size_deal : (Tryz.prog.info? 48).map (·.size) = some 1 := by kernel_rfl
def dGo (bs : List UInt8) (k : Nat) (acc : List MAct) (a er : Nat) : RRes (List MAct) := if er = 0 then rActsGo bs k acc a else .error (er, a)
def DNextPost (w : World) (p : Nat) (A : Option Addr) (n c : Nat) (bs : List UInt8) (res : RRes (List MAct)) (e : Ending) (w' : World) : Prop :=
 match res with
 | .ok (l, a) => ∃ v, e = .returned v ∧ encDeal w.heap.size l v w' ∧ IsE w' p A n c bs a 0 ∧ Kept (· = p) w w'
 | .error (cd, a) => e = .returned (.agg #[.slice none 0 0]) ∧ IsE w' p A n c bs a cd ∧ Kept (· = p) w w'
theorem nxt_hit {α : Type} {f : Nat → RRes α} {d x : α} {a a' er : Nat} (h : nxt f d a 0 = (x, a', er)) (hx : x ≠ d) : er = 0 := by
 cases hf : f a with
 | error y => obtain ⟨cd, b⟩ := y; rw [nxt_err hf, Prod.mk.injEq] at h; exact absurd h.1.symm hx
 | ok y => obtain ⟨y, b⟩ := y; rw [nxt_ok hf, Prod.mk.injEq, Prod.mk.injEq] at h; exact h.2.2.symm
theorem fail_st (p : Nat) (A : Option Addr) (n c : Nat) (bs : List UInt8) (a er cd : Nat) (w : World) (hE : IsE w p A n c bs a er) :
  Calls Tryz.prog 62 #[.pointer (some ⟨p, 0, none⟩), .int .i64 (cd : Nat)] w fun e w' => e = .returned (.tuple #[]) ∧ IsE w' p A n c bs a (if er = 0 then cd else er) ∧ Kept (· = p) w w' := by
 by_cases hz : er = 0
 ·subst hz; exact fail_new p A n c bs a cd w hE
 ·refine (fail_old p A n c bs a er hz (cd : Nat) w hE).mono ?_
  rintro e w' ⟨rfl, rfl⟩
  rw [if_neg hz]
  exact ⟨rfl, hE, Kept.refl _ _⟩
theorem anext_st (p : Nat) (A : Option Addr) (n c : Nat) (bs : List UInt8) (a k : Nat) (acc : List MAct) (w : World) (hE : IsE w p A n c bs a 0) (hA : ∀ ad, A = some ad → ad.block < w.heap.size) :
  Calls Tryz.prog 97 #[.pointer (some ⟨p, 0, none⟩)] w fun e w' => ∃ (x : MAct) (Ax : Option Addr) (nx cx a2 er2 : Nat), e = .returned (.agg #[.int .i64 x.kind, .string (str x.key), .int .i64 x.n, .float .f64 x.x, .string (str x.s), .int .i64 x.make.kind, .int .i64 x.make.num, .int .i64 x.make.low, .int .i64 x.make.high, .float .f64 x.make.real, .int .i64 x.make.cap, .string (str x.make.text), .slice Ax nx cx, .bool x.must]) ∧ x.WF ∧ OnlyBy (fun k => w.heap.size ≤ k ∧ k < w'.heap.size) w' (fun W => RdItems W Ax nx x.make.list) ∧
   IsE w' p A n c bs a2 er2 ∧ Kept (· = p) w w' ∧ rActsGo bs (k + 1) acc a = dGo bs k (acc ++ [x]) a2 er2 := by
 refine (anext_any p A n c bs a w hE hA).mono ?_
 intro e w' hP
 cases h : rAct bs a with
 | error er =>
  obtain ⟨cd, a1⟩ := er
  rw [h] at hP
  obtain ⟨rfl, hE1, hk1⟩ := hP
  exact ⟨zeroAct, none, 0, 0, a1, cd, rfl, zeroAct_wf, fun W _ => RdItems.none_ _, hE1, hk1, by unfold rActsGo dGo; rw [h, if_neg (rAct_nz h)]⟩
 | ok y =>
  obtain ⟨x, a1⟩ := y
  rw [h] at hP
  obtain ⟨Ax, nx, cx, rfl, hL, hn, hge, hE1, hk1⟩ := hP
  exact ⟨x, Ax, nx, cx, a1, 0, rfl, rAct_wf h, hL.only hge, hE1, hk1, by rw [rActsGo, h]; rfl⟩
set_option maxHeartbeats 4000000 in
theorem dnext_any (p : Nat) (A : Option Addr) (n c : Nat) (bs : List UInt8) (a : Nat) (w : World) (hE : IsE w p A n c bs a 0) (hA : ∀ ad, A = some ad → ad.block < w.heap.size) :
  Calls Tryz.prog 63 #[.pointer (some ⟨p, 0, none⟩)] w (DNextPost w p A n c bs (rDeal bs a)) := by
 have hpl := hE.blk.lt
 have hA' := Lib.hid hA
 have hcl0 : Cln w ((w.alloc (.cells #[.slice none 0 0] 48)).alloc (.cells #[.slice none 0 0] 48)) := by (repeat with_reducible first | exact cR _ | assumption | refine cA ?_ _ | refine cD ?_ | refine cN ?_ _ | refine cS ?_ (by first | omega | (simp <;> omega)) _)
 have hb2 := (Blk.new w 48 #[.slice none 0 0]).alloc (.cells #[.slice none 0 0] 48)
 have hb3 := Blk.new (w.alloc (.cells #[.slice none 0 0] 48)) 48 #[.slice none 0 0]
 rw [World.size_alloc] at hb3
 rcases h1 : nxt (rUpto 12 bs) 0 a 0 with ⟨m, a1, e1⟩
 have hm : m ≤ 12 := nxt_all (fun x : Nat => x ≤ 12) (by decide) (fun x a' h => rUpto_le h) h1
 have hI : rDeal bs a = if e1 = 0 then (if m = 0 then .error (1, a1) else rActsGo bs m [] a1) else .error (e1, a1) := by
  rw [← eStep (r := rUpto 12 bs) (d := 0) (cont := fun k a => if k = 0 then .error (1, a) else rActsGo bs k [] a) (fun a e h => rUpto_nz h) h1, if_pos rfl]
  unfold rDeal
  cases rUpto 12 bs a with
  | error e => rfl
  | ok y => obtain ⟨y, b⟩ := y; rfl
 have hnz : m ≠ 0 → e1 = 0 := fun h => nxt_hit h1 h
 replace h1 := Lib.hid h1
 replace hI := Lib.hid hI
 go_enter Tryz.func63, Tryz.ntmps63
 go_wp2_with fail
 refine (upto_st p A n c bs a 0 _ (hE.cln hcl0) 12 (by decide) h1.out).mono ?_
 rintro e w1 ⟨rfl, hE1, hk1⟩
 have hK := (Kept.of_below (S := (· = p)) hcl0).trans hk1
 have hb := hb2.kept hk1 (show ¬ w.heap.size = p by omega)
 have hg := hb3.kept hk1 (show ¬ w.heap.size + 1 = p by omega)
 have hs1 : w.heap.size + 1 < w1.heap.size := hg.lt
 clear hcl0 hb2 hb3 hk1 h1 hE hA
 by_cases h0 : m = 0
 ·subst h0
  replace hK := Lib.hid hK
  replace hb := Lib.hid hb
  replace hg := Lib.hid hg
  go_wp2_with fail
  refine (fail_st p A n c bs a1 e1 1 _ hE1).mono ?_
  generalize hf9 : (if e1 = 0 then 1 else e1) = er
  have hJ : Hid (rDeal bs a = .error (er, a1)) := by
   unfold Hid; rw [hI.out, ← hf9]
   by_cases hz : e1 = 0
   ·simp [hz]
   ·simp [hz]
  have hz : er ≠ 0 := by rw [← hf9]; split <;> omega
  clear hf9 hI hE1
  rintro e w2 ⟨rfl, hE, hk2⟩
  replace hK := Lib.hid (hK.out.trans hk2)
  replace hb := Lib.hid (hb.out.kept hk2 (show ¬ w.heap.size = p by omega))
  have t3 : (((er : Nat) : Int) == 0) = false := by rw [beq_eq_false_iff_ne]; omega
  have t4 : (((er : Nat) : Int) != 0) = true := by rw [bne_iff_ne]; omega
  have c2 := hE.blk.cell 2; have lE := hE.blk.lt
  have hbl := hb.out.lt; have hbf := hb.out.frozen 0; have hbc := hb.out.cell 0
  replace hE := Lib.hid hE
  clear hg hk2
  go_wp2_with fail
  go_loopw [5] (fun v wr => v = .int .i64 0 ∧ wr = w2) (fun _ _ => 0)
  case atStart => exact ⟨rfl, rfl⟩
  case round =>
   obtain ⟨rfl, rfl⟩ := hrel
   go_wp2_with fail
   refine bodyPost_ret (v := .agg #[.slice none 0 0]) ?_ rfl ?_
   ·refine results_cell_row Tryz.results63 _ _ w.heap.size 48 #[.slice none 0 0] (0, 0) _ ?_ ?_ Tryz.underlying48 ?_ ?_
    ·rfl
    ·exact hb.out.set_ 0 (.slice none 0 0)
    ·rfl
    ·exact size_deal
   ·rw [hJ.out]
    exact ⟨rfl, hE.out.kept (keptSet _ w.heap.size 0 _) (by omega) (fun ad e h2 => by have := hA'.out ad e; omega), hK.out.setCell (p := ⟨w.heap.size, 0, none⟩) (fun h => by simp at h) _⟩
 have he1 := hnz h0
 subst he1
 have t1 : ((m : Int) == 0) = false := by rw [beq_eq_false_iff_ne]; omega
 have hH : Hid (rDeal bs a = dGo bs (m - 0) (([] : List AQ).map (·.a)) a1 0) := by unfold Hid; rw [hI.out, if_pos rfl, if_neg h0]; rfl
 replace hK := Lib.hid hK
 replace hb := Lib.hid hb
 replace hg := Lib.hid hg
 replace hE1 := Lib.hid hE1
 replace hs1 := Lib.hid hs1
 clear hI hnz
 go_wp2_with fail
 go_loopw [5] (fun v wr => ∃ (i : Nat) (acc : List AQ) (A' : Option Addr) (c' ar er : Nat), i ≤ m ∧ v = .int .i64 (i : Nat) ∧ Hid (OwnActs wr (w.heap.size + 2) (.slice A' i c') i acc) ∧ Hid (Blk wr (w.heap.size + 1) 48 #[.slice A' i c']) ∧ Hid (Blk wr w.heap.size 48 #[.slice none 0 0]) ∧ Hid (IsE wr p A n c bs ar er) ∧ Hid (Kept (· = p) w wr) ∧ Hid (w.heap.size + 1 < wr.heap.size) ∧ Hid (rDeal bs a = dGo bs (m - i) (acc.map (·.a)) ar er)) (fun v _ => (m - intOf v).toNat)
 case atStart => exact ⟨0, [], none, 0, a1, 0, Nat.zero_le _, rfl, OwnActs.nil _ _, hg, hb, hE1, hK, hs1, hH⟩
 case round =>
  clear hg hb hE1 hK hs1 hH
  obtain ⟨i, acc, A', c', ar, er, hi, rfl, hO, hg, hb, hE, hK, hsz, hH⟩ := hrel
  by_cases hz : er = 0
  case neg =>
   have hJ : Hid (rDeal bs a = .error (er, ar)) := by unfold Hid; rw [hH.out]; unfold dGo; rw [if_neg hz]
   have t3 : (((er : Nat) : Int) == 0) = false := by rw [beq_eq_false_iff_ne]; omega
   have t4 : (((er : Nat) : Int) != 0) = true := by rw [bne_iff_ne]; omega
   have c2 := hE.out.blk.cell 2; have lE := hE.out.blk.lt
   have hbl := hb.out.lt; have hbf := hb.out.frozen 0; have hbc := hb.out.cell 0
   clear hH hO hg
   by_cases hlt : i < m
   ·have t5 : decide ((i : Int) < (m : Int)) = true := decide_eq_true (by omega)
    go_wp2_with fail
    refine bodyPost_ret (v := .agg #[.slice none 0 0]) ?_ rfl ?_
    ·refine results_cell_row Tryz.results63 _ _ w.heap.size 48 #[.slice none 0 0] (0, 0) _ ?_ ?_ Tryz.underlying48 ?_ ?_
     ·rfl
     ·exact hb.out.set_ 0 (.slice none 0 0)
     ·rfl
     ·exact size_deal
    ·rw [hJ.out]
     exact ⟨rfl, hE.out.kept (keptSet _ w.heap.size 0 _) (by omega) (fun ad e h2 => by have := hA'.out ad e; omega), hK.out.setCell (p := ⟨w.heap.size, 0, none⟩) (fun h => by simp at h) _⟩
   ·have t5 : decide ((i : Int) < (m : Int)) = false := decide_eq_false (by omega)
    go_wp2_with fail
    refine bodyPost_ret (v := .agg #[.slice none 0 0]) ?_ rfl ?_
    ·refine results_cell_row Tryz.results63 _ _ w.heap.size 48 #[.slice none 0 0] (0, 0) _ ?_ ?_ Tryz.underlying48 ?_ ?_
     ·rfl
     ·exact hb.out.set_ 0 (.slice none 0 0)
     ·rfl
     ·exact size_deal
    ·rw [hJ.out]
     exact ⟨rfl, hE.out.kept (keptSet _ w.heap.size 0 _) (by omega) (fun ad e h2 => by have := hA'.out ad e; omega), hK.out.setCell (p := ⟨w.heap.size, 0, none⟩) (fun h => by simp at h) _⟩
  subst hz
  have c2 := hE.out.blk.cell 2; have lE := hE.out.blk.lt
  have hgc := hg.out.cell 0
  have hgl := hg.out.lt
  have hgf := hg.out.frozen 0
  by_cases hlt : i < m
  ·have t3 : decide ((i : Int) < (m : Int)) = true := decide_eq_true (by omega)
   have cT := anext_st p A n c bs ar (m - (i + 1)) (acc.map (·.a)) wr.drew (hE.out.cln (Below.drew (Below.refl _ _))) (fun ad e => by have h1 := hA'.out ad e; have h2 := hsz.out; show ad.block < wr.heap.size; omega)
   obtain ⟨i0, hi0, hz0, hz1, hz2⟩ := info_parts Tryz.info90
   have cT2 : Calls Tryz.prog 97 #[.pointer (some ⟨p, 0, none⟩)] wr.drew fun e w6 => ∃ (x : MAct) (Ax : Option Addr) (nx cx a2 er2 : Nat), e = .returned (.agg #[.int .i64 x.kind, .string (str x.key), .int .i64 x.n, .float .f64 x.x, .string (str x.s), .int .i64 x.make.kind, .int .i64 x.make.num, .int .i64 x.make.low, .int .i64 x.make.high, .float .f64 x.make.real, .int .i64 x.make.cap, .string (str x.make.text), .slice Ax nx cx, .bool x.must]) ∧ Hid (OwnActs w6 (w.heap.size + 2) (.slice A' i c') i acc) ∧ Hid (x.WF ∧ OnlyBy (fun k => wr.heap.size ≤ k ∧ k < w6.heap.size) w6 fun w' => RdItems w' Ax nx x.make.list) ∧ Blk w6 (w.heap.size + 1) 48 #[.slice A' i c'] ∧ Hid (Blk w6 w.heap.size 48 #[.slice none 0 0]) ∧ Hid (IsE w6 p A n c bs a2 er2) ∧ Hid (Kept (· = p) w w6) ∧ Hid (w.heap.size + 1 < w6.heap.size) ∧ Hid (rDeal bs a = dGo bs (m - (i + 1)) (acc.map (·.a) ++ [x]) a2 er2) := by
    refine cT.mono ?_
    rintro e w6 ⟨x, Ax, nx, cx, a2, er2, rfl, hwf, hQ, hE6, hK6, hst⟩
    have hs6 := hK6.size
    exact ⟨x, Ax, nx, cx, a2, er2, rfl, (hO.out.cln (Below.drew (Below.refl _ _))).kept hK6 (fun k hk _ e => by omega), ⟨hwf, hQ⟩, (hg.out.drew).kept hK6 (by show ¬ w.heap.size + 1 = p; omega), (hb.out.drew).kept hK6 (by show ¬ w.heap.size = p; omega), hE6, (hK.out.drew).trans hK6, Nat.lt_of_lt_of_le hsz.out hs6,
     by unfold Hid; rw [hH.out, ← hst]; unfold dGo; rw [if_pos rfl, show m - i = m - (i + 1) + 1 from by omega]⟩
   have hob : Hid (∀ g, (Value.slice A' i c').ownBlock = some g → g < wr.heap.size) := fun g hg => (own_ge hO.out.own g hg).2
   clear cT hH hO hg hb hE hK
   go_wp2_with fail
   go_region_law (first
    |(go_simp; go_at_call 97; with_reducible refine cT2.mono ?_; rintro e w6 ⟨x, Ax, nx, cx, a2, er2, rfl, hO6, hq6, hg6, hb6, hE6, hK6, hsz6, hH6⟩; have hgc6 := hg6.cell 0; have hgl6 := hg6.lt; have hgf6 := hg6.frozen 0)
    |(refine step_pushAt rfl _ _ 46 rfl (w.heap.size + 2) 90 i0 (.agg #[.int .i64 0, .string ⟨#[]⟩, .int .i64 0, .float .f64 0, .string ⟨#[]⟩, .int .i64 0, .int .i64 0, .int .i64 0, .int .i64 0, .float .f64 0, .int .i64 0, .string ⟨#[]⟩, .slice none 0 0, .bool false]) 14 152 Tryz.underlying46 hi0 hz0 hz1 hz2 rfl (by decide) (by decide) (.slice A' i c') i (aqVals acc) [.int .i64 x.kind, .string (str x.key), .int .i64 x.n, .float .f64 x.x, .string (str x.s), .int .i64 x.make.kind, .int .i64 x.make.num, .int .i64 x.make.low, .int .i64 x.make.high, .float .f64 x.make.real, .int .i64 x.make.cap, .string (str x.make.text), .slice Ax nx cx, .bool x.must] rfl (by simp [Value.oneCell']) rfl rfl hO6.out.own (by omega) hsz6.out ?_; intro v' w7 hown7 hgr7 hv7; obtain ⟨A2, c2', rfl, _, _⟩ := own_form hown7; have hk7 : Kept (fun k => w.heap.size + 2 ≤ k) w6 w7 := ((Kept.refl _ w6).alloc _).grown hgr7 (fun k hk _ => (own_ge hO6.out.own k hk).1); have hg7 := hg6.kept hk7 (show ¬ w.heap.size + 2 ≤ w.heap.size + 1 by omega); have hgc7 := hg7.cell 0; have hgl7 := hg7.lt; have hgf7 := hg7.frozen 0))
   all_goals
    have hO7 : Hid (OwnActs w7 (w.heap.size + 2) (.slice A2 (i + 1) c2') (i + 1) (acc ++ [⟨x, Ax, nx, cx⟩])) :=
     OwnActs.push (b1 := wr.heap.size) (q := ⟨x, Ax, nx, cx⟩) hO6.out (by rw [← aqVals_snoc]; exact hown7) hgr7 hv7 (by have := hsz.out; omega) hob.out hq6.out.1 hq6.out.2
    have hb7 := Lib.hid (hb6.out.kept hk7 (show ¬ w.heap.size + 2 ≤ w.heap.size by omega))
    have hE7 := Lib.hid (hE6.out.kept hk7 (show ¬ w.heap.size + 2 ≤ p by omega) (fun ad e => by have := hA'.out ad e; omega))
    have hK7 : Hid (Kept (· = p) w w7) := hK6.out.then_ hk7 (fun k hk h => absurd h (by omega))
    have hs7 : Hid (w.heap.size + 1 < w7.heap.size) := Nat.lt_of_lt_of_le hsz6.out hk7.size
    clear hO6 hq6 hg6 hb6 hE6 hK6 hsz6 hgc6 hgl6 hgf6 hown7 hgr7 hv7 hk7
    go_wp2_with fail
    go_roundw
    case rel =>
     refine ⟨i + 1, acc ++ [⟨x, Ax, nx, cx⟩], A2, c2', a2, er2, hlt, by go_num, ?_, ?_, ?_, ?_, ?_, ?_, ?_⟩
     ·exact hO7.out.kept (keptSet w7 (w.heap.size + 1) 0 _) (fun k hk _ e => by have e : k = w.heap.size + 1 := e; omega)
     ·exact hg7.set_ 0 (.slice A2 (i + 1) c2')
     ·exact hb7.out.far (p := ⟨w.heap.size + 1, 0, none⟩) (by simp) _
     ·exact hE7.out.other (q := ⟨w.heap.size + 1, 0, none⟩) (by simp; omega) (fun ad e => by have := hA'.out ad e; simp; omega) _
     ·exact hK7.out.setCell (p := ⟨w.heap.size + 1, 0, none⟩) (fun h => by simp at h; omega) _
     ·unfold Hid; simpa using hs7.out
     ·unfold Hid; rw [hH6.out, List.map_append]; rfl
    case measure => simp [intOf]; omega
  ·obtain rfl : i = m := by omega
   have t3 : decide ((i : Int) < (i : Int)) = false := decide_eq_false (by omega)
   have hJ : Hid (rDeal bs a = .ok (acc.map (·.a), ar)) := by unfold Hid; rw [hH.out, Nat.sub_self]; rfl
   have hbl := hb.out.lt
   have hbf := hb.out.frozen 0; have hbc := hb.out.cell 0
   clear hH
   go_wp2_with fail
   refine bodyPost_ret (v := .agg #[.slice A' i c']) ?_ rfl ?_
   ·refine results_cell_row Tryz.results63 _ _ w.heap.size 48 #[.slice A' i c'] (0, 0) _ ?_ ?_ Tryz.underlying48 ?_ ?_
    ·rfl
    ·exact hb.out.set_ 0 (.slice A' i c')
    ·rfl
    ·exact size_deal
   ·rw [hJ.out]
    have hset := keptSet wr w.heap.size 0 (.slice A' i c')
    have hO9 := hO.out.kept hset (fun k hk _ e => by have e : k = w.heap.size := e; omega)
    exact ⟨_, rfl, ⟨A', i, c', rfl, by omega, hO9.only.mono fun k hk => ⟨by omega, hk.2⟩⟩, hE.out.kept hset (by omega) (fun ad e h2 => by have := hA'.out ad e; omega), hK.out.setCell (p := ⟨w.heap.size, 0, none⟩) (fun h => by simp at h) _⟩
end Go.Proofs.YtoeoodiifpoomaaGreatDoor
