/- The statement WalFullCardSaid. (Printed by wip/tools/gen_pact.py.) -/
import Derived.Test.YtbemnfbndjolpaaGreatDoorLWalFull
import Derived.Test.YtbemnfbndjolpaaGreatDoorOpens
import Derived.Test.YtbemnfbndjolpaaGreatDoorTie
import Derived.Test.YtbemnfbndjolpaaGreatDoorCards
import Derived.SevenTiedAt
set_option linter.unusedSimpArgs false
set_option linter.unusedVariables false
namespace Go.Proofs.YtbemnfbndjolpaaGreatDoor
open Go.ChangeShapes Go.WideShapes Go.ChangeAt Go.RowKit Go.Joins Moi

set_option maxRecDepth 100000 in
theorem walFull_lifted (os : Os) (started : os.Started) (H : Type) (enc : TypeId × Value → H) :
  ReturnsInHanded {} Tryz.checked os 4 .any (fun w args => (Rows.walFullSpec.pre enc Tryz.prog Tryz.f4 [] false w args ∧ laidMetH Tryz.prog [("moiety/act.kinds", Rows.laid_moiety_act_kinds)] w) ∧ sizedMet enc Tryz.prog Tryz.f4 (OpenSpec.ofChange Rows.walFullSpec) false w args)
   (Rows.walFullSpec.post enc Tryz.prog Tryz.f4 false true false false) := by
 refine returnsInHanded_of_change_and (C := Tryz.checked) (X := fun w _ => laidMetH Tryz.prog [("moiety/act.kinds", Rows.laid_moiety_act_kinds)] w) (fun _ _ _ hh h => h.of_heap hh) own started (by kernel_rfl) Tryz.func4
  (ChangeSpec.witness_shaped (enc := enc) (C := Tryz.checked) (os := os) (X := fun w _ => laidMetH Tryz.prog [("moiety/act.kinds", Rows.laid_moiety_act_kinds)] w) false (World.doorLaid Tryz.prog 400 os) #[.slice none 0 0, .int .u8 0] 8 rfl (World.shaped_of_RefB (by kernel_rfl) (by kernel_rfl)) (by kernel_rfl) (by kernel_rfl) (by kernel_rfl) (door_met os _)) ?_
 intro W base args ds gs before hval0 hW _ _ hL _
 have hval : ∀ (j : Nat) t v, Tryz.f4.params[j]? = some t → args[j]? = some v → Value.okWide Tryz.prog W .any base t v := hval0
 have hW' := hW
 have hlt0 : ∀ x ∈ before, x.block < W.heap.size := fun x hx => hW.lt x hx
 obtain ⟨p, q, hA0, hV, rfl, hfz, hnd⟩ := hW
 have hA : DataW.TrodAll enc Tryz.prog W 0 (fun _ => true) true Tryz.f4.params.toList args.toList ds p := hA0
 rw [Tryz.params4] at hA hval
 obtain ⟨v0, vs0, d0, ds0, p0, q0, hargs, rfl, rfl, h0, r0⟩ := trodAll_cons hA
 obtain ⟨v1, vs1, d1, ds1, p1, q1, rfl, rfl, rfl, h1, r1⟩ := trodAll_cons r0
 obtain ⟨rfl, rfl, rfl⟩ := trodAll_nil r1
 obtain rfl : args = #[v0, v1] := by cases args; simp_all
 obtain ⟨rfl, rfl⟩ := trodVars_none hV
 obtain ⟨A, n, c, l, rfl, hr, hnc, hz⟩ := deals_open (hval 0 36 v0 rfl rfl) h0
 obtain ⟨cr, rfl, rfl, rfl, wc⟩ := open_int Tryz.underlying5 (hval 1 5 v1 rfl rfl) h1
 obtain ⟨k, rfl, hk⟩ : ∃ k : Nat, cr = (k : Int) ∧ k < 256 := by
  have : 0 ≤ cr ∧ cr ≤ 255 := by simp [Lit.wf, IntKind.min, IntKind.max, IntKind.bits, IntKind.signed] at wc; omega
  exact ⟨cr.toNat, by omega, by omega⟩
 clear hA0 hval0
 simp only [List.append_nil] at hW' hlt0
 refine (lWalFull l A n c k hk W (kinds_of_laid hL) hr).mono fun e W' ⟨he, hg⟩ => ?_
 subst he
 exact ⟨_, rfl, post_of_below (pa := _) (pv := []) hW' (fun _ _ _ => trodAll_cons_mk (shut_bool Tryz.underlying4 _) trodAll_mk0)
  (fun sp hsp => trodAll_cons_mk (arg_stays (by kernel_rfl) (of_decide_eq_true (by kernel_rfl)) h0 hg (fun x hx => hlt0 x (by first | (simp [hx]; done) | (simp at hx; done) | simpa using hx)) sp (fun x hx => hsp x (by first | (simp [hx]; done) | (simp at hx; done) | simpa using hx))) (trodAll_cons_mk (arg_stays (by kernel_rfl) (of_decide_eq_true (by kernel_rfl)) h1 hg (fun x hx => hlt0 x (by first | (simp [hx]; done) | (simp at hx; done) | simpa using hx)) sp (fun x hx => hsp x (by first | (simp [hx]; done) | (simp at hx; done) | simpa using hx))) (trodAll_mk0)))
  (fun _ _ => rfl) (by simp) hg (ok_one (by kernel_rfl) rfl (okWide_bool_mk Tryz.underlying4 _))⟩

theorem walFull_holds : Rows.WalFullSaid :=
 OpenClaim.holds_of_wide 4 Tryz.f4 rfl rfl rfl rfl rfl rfl rfl ⟨rfl, rfl, rfl, rfl, rfl⟩ rfl rfl rfl rfl rfl (by kernel_rfl) Tryz.func4 (by kernel_rfl)
  (of_decide_eq_true (by kernel_rfl)) (by unfold Func.isWrapper; first | (rw [if_pos (by decide +kernel)]; kernel_rfl) | (rw [if_neg (by decide +kernel)]; exact ⟨rfl, rfl⟩))
  (fun os started H enc _ => walFull_lifted os started H enc)
theorem walFull_proved : Rows.WalFullCardSaid :=
 Claim7.holds_tied_plain_at .later [] [.data] true (true, "af28f255b248a3fd498c39d211b0ad5c844257d3bab8cd4ceeeb461cc8160b4a") true
  walFull_holds (fun _ h => by cases h) (by kernel_rfl) (fun _ h => by cases h) walFull_row_tie rfl ⟨rfl, rfl⟩ (by kernel_rfl) rfl
  (fun f fn hf hfn => by
   obtain rfl : f = 4 := Option.some.inj ((show Tryz.prog.funcNamed "moiety/moietylaw20.WalFull" = some 4 by kernel_rfl).symm.trans hf) |>.symm
   obtain rfl : fn = Tryz.f4 := (Option.some.inj (Tryz.func4.symm.trans hfn)).symm
   exact ⟨by kernel_rfl, fun j t ht => by
    rw [Tryz.params4] at ht
    have h3 : t = 36 ∨ t = 5 := by
     rcases j with _ | _ | j
     all_goals simp at ht
     all_goals first | (subst ht; simp; done) | (cases ht; done) | omega
    rcases h3 with rfl | rfl
    ·exact (show Tryz.prog.wantsStandIn 36 = false by kernel_rfl)
    ·exact (show Tryz.prog.wantsStandIn 5 = false by kernel_rfl)⟩)
  (by kernel_rfl)
end Go.Proofs.YtbemnfbndjolpaaGreatDoor
