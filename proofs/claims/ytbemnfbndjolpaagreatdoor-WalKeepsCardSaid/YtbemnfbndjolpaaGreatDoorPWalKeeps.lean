/- The statement WalKeepsCardSaid. (Printed by wip/tools/gen_pact.py.) -/
import Derived.Test.YtbemnfbndjolpaaGreatDoorLWalKeeps
import Derived.Test.YtbemnfbndjolpaaGreatDoorOpenDealss
import Derived.Test.YtbemnfbndjolpaaGreatDoorOpens
import Derived.Test.YtbemnfbndjolpaaGreatDoorTie
import Derived.Test.YtbemnfbndjolpaaGreatDoorCards
import Derived.SevenTiedAt
set_option linter.unusedSimpArgs false
set_option linter.unusedVariables false
namespace Go.Proofs.YtbemnfbndjolpaaGreatDoor
open Go.ChangeShapes Go.WideShapes Go.ChangeAt Go.RowKit Go.Joins Moi

set_option maxRecDepth 100000 in
theorem walKeeps_lifted (os : Os) (started : os.Started) (H : Type) (enc : TypeId × Value → H) :
  ReturnsInHanded {} Tryz.checked os 5 .any (fun w args => (Rows.walKeepsSpec.pre enc Tryz.prog Tryz.f5 [] false w args ∧ laidMetH Tryz.prog [("moiety/act.kinds", Rows.laid_moiety_act_kinds)] w) ∧ sizedMet enc Tryz.prog Tryz.f5 (OpenSpec.ofChange Rows.walKeepsSpec) false w args)
   (Rows.walKeepsSpec.post enc Tryz.prog Tryz.f5 false true false false) := by
 refine returnsInHanded_of_change_and (C := Tryz.checked) (X := fun w _ => laidMetH Tryz.prog [("moiety/act.kinds", Rows.laid_moiety_act_kinds)] w) (fun _ _ _ hh h => h.of_heap hh) own started (by kernel_rfl) Tryz.func5
  (ChangeSpec.witness_shaped (enc := enc) (C := Tryz.checked) (os := os) (X := fun w _ => laidMetH Tryz.prog [("moiety/act.kinds", Rows.laid_moiety_act_kinds)] w) false (World.doorLaid Tryz.prog 400 os) #[.int .i64 0, .int .i64 0, .slice none 0 0] 8 rfl (World.shaped_of_RefB (by kernel_rfl) (by kernel_rfl)) (by kernel_rfl) (by kernel_rfl) (by kernel_rfl) (door_met os _)) ?_
 intro W base args ds gs before hval0 hW _ _ hL _
 have hval : ∀ (j : Nat) t v, Tryz.f5.params[j]? = some t → args[j]? = some v → Value.okWide Tryz.prog W .any base t v := hval0
 have hW' := hW
 have hlt0 : ∀ x ∈ before, x.block < W.heap.size := fun x hx => hW.lt x hx
 obtain ⟨p, q, hA0, hV, rfl, hfz, hnd⟩ := hW
 have hA : DataW.TrodAll enc Tryz.prog W 0 (fun _ => true) true Tryz.f5.params.toList args.toList ds p := hA0
 rw [Tryz.params5] at hA hval
 obtain ⟨v0, vs0, d0, ds0, p0, q0, hargs, rfl, rfl, h0, r0⟩ := trodAll_cons hA
 obtain ⟨v1, vs1, d1, ds1, p1, q1, rfl, rfl, rfl, h1, r1⟩ := trodAll_cons r0
 obtain ⟨v2, vs2, d2, ds2, p2, q2, rfl, rfl, rfl, h2, r2⟩ := trodAll_cons r1
 obtain ⟨rfl, rfl, rfl⟩ := trodAll_nil r2
 obtain rfl : args = #[v0, v1, v2] := by cases args; simp_all
 obtain ⟨rfl, rfl⟩ := trodVars_none hV
 obtain ⟨f0, rfl, rfl, rfl, wf⟩ := open_int Tryz.underlying3 (hval 0 3 v0 rfl rfl) h0
 obtain ⟨k0, rfl, rfl, rfl, wk⟩ := open_int Tryz.underlying3 (hval 1 3 v1 rfl rfl) h1
 obtain ⟨A, n, c, l, rfl, hr⟩ := dealss_open (hval 2 54 v2 rfl rfl) h2
 clear hA0 hval0
 simp only [List.append_nil] at hW' hlt0
 refine (lWalKeeps f0 k0 l A n c W (kinds_of_laid hL) hr).mono fun e W' ⟨he, hg⟩ => ?_
 subst he
 exact ⟨_, rfl, post_of_below (pa := _) (pv := []) hW' (fun _ _ _ => trodAll_cons_mk (shut_bool Tryz.underlying4 _) trodAll_mk0)
  (fun sp hsp => trodAll_cons_mk (arg_stays (by kernel_rfl) (of_decide_eq_true (by kernel_rfl)) h0 hg (fun x hx => hlt0 x (by first | (simp [hx]; done) | (simp at hx; done) | simpa using hx)) sp (fun x hx => hsp x (by first | (simp [hx]; done) | (simp at hx; done) | simpa using hx))) (trodAll_cons_mk (arg_stays (by kernel_rfl) (of_decide_eq_true (by kernel_rfl)) h1 hg (fun x hx => hlt0 x (by first | (simp [hx]; done) | (simp at hx; done) | simpa using hx)) sp (fun x hx => hsp x (by first | (simp [hx]; done) | (simp at hx; done) | simpa using hx))) (trodAll_cons_mk (arg_stays (by kernel_rfl) (of_decide_eq_true (by kernel_rfl)) h2 hg (fun x hx => hlt0 x (by first | (simp [hx]; done) | (simp at hx; done) | simpa using hx)) sp (fun x hx => hsp x (by first | (simp [hx]; done) | (simp at hx; done) | simpa using hx))) (trodAll_mk0))))
  (fun _ _ => rfl) (by simp) hg (ok_one (by kernel_rfl) rfl (okWide_bool_mk Tryz.underlying4 _))⟩

theorem walKeeps_holds : Rows.WalKeepsSaid :=
 OpenClaim.holds_of_wide 5 Tryz.f5 rfl rfl rfl rfl rfl rfl rfl ⟨rfl, rfl, rfl, rfl, rfl⟩ rfl rfl rfl rfl rfl (by kernel_rfl) Tryz.func5 (by kernel_rfl)
  (of_decide_eq_true (by kernel_rfl)) (by unfold Func.isWrapper; first | (rw [if_pos (by decide +kernel)]; kernel_rfl) | (rw [if_neg (by decide +kernel)]; exact ⟨rfl, rfl⟩))
  (fun os started H enc _ => walKeeps_lifted os started H enc)
theorem walKeeps_proved : Rows.WalKeepsCardSaid :=
 Claim7.holds_tied_plain_at .later [] [.data] true (true, "af28f255b248a3fd498c39d211b0ad5c844257d3bab8cd4ceeeb461cc8160b4a") true
  walKeeps_holds (fun _ h => by cases h) (by kernel_rfl) (fun _ h => by cases h) walKeeps_row_tie rfl ⟨rfl, rfl⟩ (by kernel_rfl) rfl
  (fun f fn hf hfn => by
   obtain rfl : f = 5 := Option.some.inj ((show Tryz.prog.funcNamed "moiety/moietylaw20.WalKeeps" = some 5 by kernel_rfl).symm.trans hf) |>.symm
   obtain rfl : fn = Tryz.f5 := (Option.some.inj (Tryz.func5.symm.trans hfn)).symm
   exact ⟨by kernel_rfl, fun j t ht => by
    rw [Tryz.params5] at ht
    have h3 : t = 3 ∨ t = 3 ∨ t = 54 := by
     rcases j with _ | _ | _ | j
     all_goals simp at ht
     all_goals first | (subst ht; simp; done) | (cases ht; done) | omega
    rcases h3 with rfl | rfl | rfl
    ·exact (show Tryz.prog.wantsStandIn 3 = false by kernel_rfl)
    ·exact (show Tryz.prog.wantsStandIn 3 = false by kernel_rfl)
    ·exact (show Tryz.prog.wantsStandIn 54 = false by kernel_rfl)⟩)
  (by kernel_rfl)
end Go.Proofs.YtbemnfbndjolpaaGreatDoor
