/- The statement DealSameCardSaid. (Printed by wip/tools/gen_pact.py.) -/
import Derived.Test.YtoeoodiifpoomaaGreatDoorLDealSame
import Derived.Test.YtoeoodiifpoomaaGreatDoorOpens
import Derived.Test.YtoeoodiifpoomaaGreatDoorTie
import Derived.Test.YtoeoodiifpoomaaGreatDoorCards
import Derived.SevenTiedAt
set_option linter.unusedSimpArgs false
set_option linter.unusedVariables false
namespace Go.Proofs.YtoeoodiifpoomaaGreatDoor
open Go.ChangeShapes Go.WideShapes Go.ChangeAt Go.RowKit Go.Joins Moi

set_option maxRecDepth 100000 in
theorem dealSame_lifted (os : Os) (started : os.Started) (H : Type) (enc : TypeId × Value → H) :
  ReturnsInHanded {} Tryz.checked os 12 .any (fun w args => (Rows.dealSameSpec.pre enc Tryz.prog Tryz.f12 [] false w args ∧ laidMetH Tryz.prog [("moiety/act.kinds", Rows.laid_moiety_act_kinds)] w) ∧ sizedMet enc Tryz.prog Tryz.f12 (OpenSpec.ofChange Rows.dealSameSpec) false w args)
   (Rows.dealSameSpec.post enc Tryz.prog Tryz.f12 false true false false) := by
 refine returnsInHanded_of_change_and (C := Tryz.checked) (X := fun w _ => laidMetH Tryz.prog [("moiety/act.kinds", Rows.laid_moiety_act_kinds)] w) (fun _ _ _ hh h => h.of_heap hh) own started (by kernel_rfl) Tryz.func12
  (ChangeSpec.witness_shaped (enc := enc) (C := Tryz.checked) (os := os) (X := fun w _ => laidMetH Tryz.prog [("moiety/act.kinds", Rows.laid_moiety_act_kinds)] w) false (World.doorLaid Tryz.prog 400 os) #[.agg #[.slice none 0 0], .agg #[.slice none 0 0], .agg #[.int .i64 0, .int .i64 0, .slice none 0 0, .int .i64 0, .int .i64 0, .slice none 0 0]] 8 rfl (World.shaped_of_RefB (by kernel_rfl) (by kernel_rfl)) (by kernel_rfl) (by kernel_rfl) (by kernel_rfl) (door_met os _)) ?_
 intro W base args ds gs before hval0 hW _ hsz hL _
 have hval : ∀ (j : Nat) t v, Tryz.f12.params[j]? = some t → args[j]? = some v → Value.okWide Tryz.prog W .any base t v := hval0
 have hW' := hW
 have hlt0 : ∀ x ∈ before, x.block < W.heap.size := fun x hx => hW.lt x hx
 obtain ⟨p, q, hA0, hV, rfl, hfz, hnd⟩ := hW
 have hA : DataW.TrodAll enc Tryz.prog W 0 (fun _ => true) true Tryz.f12.params.toList args.toList ds p := hA0
 rw [Tryz.params12] at hA hval
 obtain ⟨v0, vs0, d0, ds0, p0, q0, hargs, rfl, rfl, h0, r0⟩ := trodAll_cons hA
 obtain ⟨v1, vs1, d1, ds1, p1, q1, rfl, rfl, rfl, h1, r1⟩ := trodAll_cons r0
 obtain ⟨v2, vs2, d2, ds2, p2, q2, rfl, rfl, rfl, h2, r2⟩ := trodAll_cons r1
 obtain ⟨rfl, rfl, rfl⟩ := trodAll_nil r2
 obtain rfl : args = #[v0, v1, v2] := by cases args; simp_all
 obtain ⟨rfl, rfl⟩ := trodVars_none hV
 obtain ⟨a, A, n, c, rfl, hr0, hc0, hz0⟩ := deal_open (hval 0 48 v0 rfl rfl) h0
 obtain ⟨b, B, k, d, rfl, hr1, hc1, hz1⟩ := deal_open (hval 1 48 v1 rfl rfl) h1
 have hlight : Light 77 d2 := fun u hu => by
  have h := List.all_eq_true.1 hsz u (mem_wEach (j := 2) (t := 77) (d := d2) (by rw [Tryz.params12]; rfl) rfl hu)
  simpa using h
 obtain ⟨x, y, C, E, m, e0, q, g0, rfl, hr2, hr3, hm2, hm3⟩ := results_open (hval 2 77 v2 rfl rfl) h2 hlight
 clear hA0 hval0
 simp only [List.append_nil] at hW' hlt0
 refine (lDealSame a b x y A B C E n c k d m e0 q g0 W (kinds_of_laid hL) hr0 hr1 hr2 hr3 hm2 hm3).mono fun e W' ⟨he, hg⟩ => ?_
 subst he
 exact ⟨_, rfl, post_of_below (pa := _) (pv := []) hW' (fun _ _ _ => trodAll_cons_mk (shut_bool Tryz.underlying4 _) trodAll_mk0)
  (fun sp hsp => trodAll_cons_mk (arg_stays (by kernel_rfl) (of_decide_eq_true (by kernel_rfl)) h0 hg (fun x hx => hlt0 x (by first | (simp [hx]; done) | (simp at hx; done) | simpa using hx)) sp (fun x hx => hsp x (by first | (simp [hx]; done) | (simp at hx; done) | simpa using hx))) (trodAll_cons_mk (arg_stays (by kernel_rfl) (of_decide_eq_true (by kernel_rfl)) h1 hg (fun x hx => hlt0 x (by first | (simp [hx]; done) | (simp at hx; done) | simpa using hx)) sp (fun x hx => hsp x (by first | (simp [hx]; done) | (simp at hx; done) | simpa using hx))) (trodAll_cons_mk (arg_stays (by kernel_rfl) (of_decide_eq_true (by kernel_rfl)) h2 hg (fun x hx => hlt0 x (by first | (simp [hx]; done) | (simp at hx; done) | simpa using hx)) sp (fun x hx => hsp x (by first | (simp [hx]; done) | (simp at hx; done) | simpa using hx))) (trodAll_mk0))))
  (fun _ _ => rfl) (by simp) hg (ok_one (by kernel_rfl) rfl (okWide_bool_mk Tryz.underlying4 _))⟩

theorem dealSame_holds : Rows.DealSameSaid :=
 OpenClaim.holds_of_wide 12 Tryz.f12 rfl rfl rfl rfl rfl rfl rfl ⟨rfl, rfl, rfl, rfl, rfl⟩ rfl rfl rfl rfl rfl (by kernel_rfl) Tryz.func12 (by kernel_rfl)
  (of_decide_eq_true (by kernel_rfl)) (by unfold Func.isWrapper; first | (rw [if_pos (by decide +kernel)]; kernel_rfl) | (rw [if_neg (by decide +kernel)]; exact ⟨rfl, rfl⟩))
  (fun os started H enc _ => dealSame_lifted os started H enc)
theorem dealSame_proved : Rows.DealSameCardSaid :=
 Claim7.holds_tied_plain_at .later [] [.data] true (true, "f77660d119e8ee15bdcbbda10f2d19d4ee7620f914ce51fc9814e25e0b328b1d") true
  dealSame_holds (fun _ h => by cases h) (by kernel_rfl) (fun _ h => by cases h) dealSame_row_tie rfl ⟨rfl, rfl⟩ (by kernel_rfl) rfl
  (fun f fn hf hfn => by
   obtain rfl : f = 12 := Option.some.inj ((show Tryz.prog.funcNamed "moiety/moietylaw08.DealSame" = some 12 by kernel_rfl).symm.trans hf) |>.symm
   obtain rfl : fn = Tryz.f12 := (Option.some.inj (Tryz.func12.symm.trans hfn)).symm
   exact ⟨by kernel_rfl, fun j t ht => by
    rw [Tryz.params12] at ht
    have h3 : t = 48 ∨ t = 48 ∨ t = 77 := by
     rcases j with _ | _ | _ | j
     all_goals simp at ht
     all_goals first | (subst ht; simp; done) | (cases ht; done) | omega
    rcases h3 with rfl | rfl | rfl
    ·exact (show Tryz.prog.wantsStandIn 48 = false by kernel_rfl)
    ·exact (show Tryz.prog.wantsStandIn 48 = false by kernel_rfl)
    ·exact (show Tryz.prog.wantsStandIn 77 = false by kernel_rfl)⟩)
  (by kernel_rfl)
end Go.Proofs.YtoeoodiifpoomaaGreatDoor
