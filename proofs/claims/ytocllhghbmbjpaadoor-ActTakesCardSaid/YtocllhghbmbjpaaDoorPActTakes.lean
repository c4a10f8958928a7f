/- The statement ActTakesCardSaid. (Printed by wip/tools/gen_pact.py.) -/
import Derived.Test.YtocllhghbmbjpaaDoorLActTakes
import Derived.Test.YtocllhghbmbjpaaDoorOpenActs
import Derived.Test.YtocllhghbmbjpaaDoorKindsLaid
import Derived.Test.YtocllhghbmbjpaaDoorArgStays
import Derived.Test.YtocllhghbmbjpaaDoorTie
import Derived.Test.YtocllhghbmbjpaaDoorCards
import Derived.SevenTiedAt
set_option linter.unusedSimpArgs false
set_option linter.unusedVariables false
namespace Go.Proofs.YtocllhghbmbjpaaDoor
open Go.ChangeShapes Go.WideShapes Go.ChangeAt Go.RowKit Go.Joins Moi

set_option maxRecDepth 100000 in
theorem actTakes_lifted (os : Os) (started : os.Started) (H : Type) (enc : TypeId × Value → H) :
    ReturnsInHanded {} Tryd.checked os 8 .any (fun w args => (Rows.actTakesSpec.pre enc Tryd.prog Tryd.f8 [] false w args ∧ laidMetH Tryd.prog [("moiety/act.kinds", Rows.laid_moiety_act_kinds)] w) ∧ sizedMet enc Tryd.prog Tryd.f8 (OpenSpec.ofChange Rows.actTakesSpec) false w args)
      (Rows.actTakesSpec.post enc Tryd.prog Tryd.f8 false true false false) := by
  refine returnsInHanded_of_change_and (C := Tryd.checked) (X := fun w _ => laidMetH Tryd.prog [("moiety/act.kinds", Rows.laid_moiety_act_kinds)] w) (fun _ _ _ hh h => h.of_heap hh) own started (by kernel_rfl) Tryd.func8
    (ChangeSpec.witness_shaped (enc := enc) (C := Tryd.checked) (os := os) (X := fun w _ => laidMetH Tryd.prog [("moiety/act.kinds", Rows.laid_moiety_act_kinds)] w) false (World.doorLaid Tryd.prog 400 os) #[.slice none 0 0] 8 rfl (World.shaped_of_RefB (by kernel_rfl) (by kernel_rfl)) (by kernel_rfl) (by kernel_rfl) (by kernel_rfl) (door_met os _)) ?_
  intro W base args ds gs before hval0 hW _ _ hL _
  have hval : ∀ (j : Nat) t v, Tryd.f8.params[j]? = some t → args[j]? = some v → Value.okWide Tryd.prog W .any base t v := hval0
  have hW' := hW
  have hlt0 : ∀ x ∈ before, x.block < W.heap.size := fun x hx => hW.lt x hx
  obtain ⟨p, q, hA0, hV, rfl, hfz, hnd⟩ := hW
  have hA : DataW.TrodAll enc Tryd.prog W 0 (fun _ => true) true Tryd.f8.params.toList args.toList ds p := hA0
  rw [Tryd.params8] at hA hval
  obtain ⟨v0, vs0, d0, ds0, p0, q0, hargs, rfl, rfl, h0, r0⟩ := trodAll_cons hA
  obtain ⟨rfl, rfl, rfl⟩ := trodAll_nil r0
  obtain rfl : args = #[v0] := by cases args; simp_all
  obtain ⟨rfl, rfl⟩ := trodVars_none hV
  obtain ⟨A, n, c, l, rfl, hit⟩ := acts_open (hval 0 48 v0 rfl rfl) h0
  clear hA0 hval0
  simp only [List.append_nil] at hW' hlt0
  refine (lActTakes l A n c W (kinds_of_laid hL) hit).mono fun e W' ⟨he, hg⟩ => ?_
  subst he
  exact ⟨_, rfl, post_of_below (pa := _) (pv := []) hW' (fun _ _ _ => trodAll_cons_mk (shut_bool Tryd.underlying4 _) trodAll_mk0)
    (fun sp hsp => trodAll_cons_mk (arg_stays (by kernel_rfl) (of_decide_eq_true (by kernel_rfl)) h0 hg (fun x hx => hlt0 x (by simp [hx])) sp (fun x hx => hsp x (by simp [hx]))) (trodAll_mk0))
    (fun _ _ => rfl) (by simp) hg (ok_one (by kernel_rfl) rfl (okWide_bool_mk Tryd.underlying4 _))⟩

theorem actTakes_holds : Rows.ActTakesSaid :=
  OpenClaim.holds_of_wide 8 Tryd.f8 rfl rfl rfl rfl rfl rfl rfl ⟨rfl, rfl, rfl, rfl, rfl⟩ rfl rfl rfl rfl rfl (by kernel_rfl) Tryd.func8 (by kernel_rfl)
    (of_decide_eq_true (by kernel_rfl)) (by unfold Func.isWrapper; first | (rw [if_pos (by decide +kernel)]; kernel_rfl) | (rw [if_neg (by decide +kernel)]; exact ⟨rfl, rfl⟩))
    (fun os started H enc _ => actTakes_lifted os started H enc)
theorem actTakes_proved : Rows.ActTakesCardSaid :=
  Claim7.holds_tied_plain_at .later [] [.data] true (true, "c5193aa83c998907b6bc680e895416c98baca4cad3a285619995394f3c183b22") true
    actTakes_holds (fun _ h => by cases h) (by kernel_rfl) (fun _ h => by cases h) actTakes_row_tie rfl ⟨rfl, rfl⟩ (by kernel_rfl) rfl
    (fun f fn hf hfn => by
      obtain rfl : f = 8 := Option.some.inj ((show Tryd.prog.funcNamed "moiety/moietylaw04.ActTakes" = some 8 by kernel_rfl).symm.trans hf) |>.symm
      obtain rfl : fn = Tryd.f8 := (Option.some.inj (Tryd.func8.symm.trans hfn)).symm
      exact ⟨by kernel_rfl, fun j t ht => by
        rw [Tryd.params8] at ht
        have h3 : t = 48 := by
          rcases j with _ | j
          all_goals simp at ht
          all_goals first | (subst ht; simp; done) | (cases ht; done) | omega
        rcases h3 with rfl
        · exact (show Tryd.prog.wantsStandIn 48 = false by kernel_rfl)⟩)
    (by kernel_rfl)
end Go.Proofs.YtocllhghbmbjpaaDoor
