/- The statement RecBetterSaid. -/
import Derived.Test.YtocllhghbmbjpaaLBetter
import Derived.Test.YtocllhghbmbjpaaRows
import Derived.WalkKit
import Derived.ProofKit
import Derived.OpenShut
import Derived.Lib.SmallJoins
import Derived.Below
import Derived.ChangeSame
set_option linter.unusedSimpArgs false
set_option linter.unusedVariables false
namespace Go.Proofs.Ytocllhghbmbjpaa
open Go.ChangeShapes Go.WideShapes Go.ChangeAt Go.RowKit Go.Joins Moi

section
variable {H : Type} {enc : TypeId × Value → H} {P : Program}
theorem post_of_below {f : Func} {s : ChangeSpec} {apart fresh handsOn again : Bool} {W W' : World} {args : Array Value} {v : Value} {ds gs : List (DataW H)} {before pa pv : List MemPlace}
    (hW : DataW.Whole enc P f.params.toList s.vars apart W args.toList ds gs before)
    (hres : ∀ (b : Nat) (sp : Nat → Bool) (hd : Bool), DataW.TrodAll enc P W' b sp hd f.resultTypes.toList (v.resultList f.resultTypes.size) (s.fn H (ds ++ gs)).results [])
    (hargs : ∀ sp : Nat → Bool, (∀ p ∈ before, sp p.block = true) → DataW.TrodAll enc P W' 0 sp true f.params.toList args.toList (s.fn H (ds ++ gs)).args pa)
    (hvars : ∀ sp : Nat → Bool, (∀ p ∈ before, sp p.block = true) → DataW.TrodVars enc P W' sp s.vars (s.fn H (ds ++ gs)).vars pv)
    (hps : before = pa ++ pv) (hb : Below W.heap.size W W')
    (hok : ∀ (j : Nat) (t : TypeId) (r : Value), f.resultTypes[j]? = some t → (v.resultList f.resultTypes.size)[j]? = some r → Value.okWide P W' .any 0 t r) :
    s.post enc P f apart fresh handsOn again W args v W' := by
  have hlt : ∀ p ∈ before, p.block < W.heap.size := fun p hp => hW.lt p hp
  have hold : ∀ p ∈ before, (fun b => decide (b < W.heap.size)) p.block = true := fun p hp => by simpa using hlt p hp
  refine ⟨ds, gs, before, [], pa, pv, hW, hres _ _ _, hargs _ hold, hvars _ hold, World.keptBut_mono (fun p hp => ⟨hp, ?_⟩) (hb.frame (· ∈ before)), fun _ => ?_⟩
  · rw [hps, List.mem_append] at hp
    exact Or.inr hp
  · obtain ⟨_, _, _, _, _, hz, hn⟩ := hW
    refine ⟨hok, _, _, ([] ++ pa) ++ pv, ⟨[] ++ pa, pv, trodAll_append (hargs _ (fun _ _ => rfl)) (hres _ _ _), hvars _ (fun _ _ => rfl), rfl, ?_, ?_⟩, ?_⟩
    · intro b off hp
      have hin : MemPlace.cell b off ∈ before := by rw [hps]; simpa using hp
      rw [hb.frozen (hlt _ hin)]
      exact hz b off hin
    · intro ha
      have := hn ha
      rw [hps] at this
      simpa using this
    · intro p hp _
      rw [hps]
      simpa using hp
theorem trod_float {w : World} {base : Nat} {spare : Nat → Bool} {held : Bool} {fuel : Nat} {t : TypeId} {cs : List Value} {x : DataW H × List MemPlace} {k : FloatKind} (ht : P.underlying t = some (.float k)) (h : DataW.trod enc P w base spare held fuel t cs = some x) :
    ∃ n, cs = [.float k n] ∧ x = (.lit (.float k n), []) ∧ (Lit.float k n).wf = true := by
  cases fuel with
  | zero => simp [DataW.trod] at h
  | succ n =>
    unfold DataW.trod at h
    rw [ht] at h
    split at h <;> simp_all
end
theorem own : ownKnob Try.prog.godebug = none := by kernel_rfl
theorem cells_item : Try.prog.cellsOf 45 = 2 := by kernel_rfl
/-- An item, by its bytes. -/
def itemOf (s : Nat) (nm : ByteArray) : MItem := ⟨s, nm.data.toList⟩
theorem item_val (s : Nat) (nm : ByteArray) : itemVal (itemOf s nm) = .agg #[.float .f64 s, .string nm] := rfl
theorem f64_lt {s : Nat} (h : (Lit.float .f64 s).wf = true) : s < 18446744073709551616 := by simpa [Lit.wf] using h

theorem item_shut {H : Type} (enc : TypeId × Value → H) {s : Nat} {nm : ByteArray} (hs : (Lit.float .f64 s).wf = true) (hn : nm.size ≤ maxLen) (W' : World) (sp : Nat → Bool) :
    DataW.Trod enc Try.prog W' 0 sp true 45 (.agg #[.float .f64 s, .string nm]) (.agg [.lit (.float .f64 s), .lit (.string nm.data.toList)]) [] :=
  shut_agg2 (y0 := (.lit (.float .f64 s), [])) (y1 := (.lit (.string nm.data.toList), [])) Try.underlying45 (by kernel_rfl) cells_item ⟨1, by simp [DataW.trod, Try.underlying22, hs]⟩ ⟨1, by simp [DataW.trod, Try.underlying9, hn]⟩

set_option maxRecDepth 100000 in
theorem recBetter_lifted (os : Os) (started : os.Started) (H : Type) (enc : TypeId × Value → H) :
    ReturnsInHanded {} Try.checked os 6 .any (Rows.recBetterSpec.pre6 enc Try.prog Try.f6 Rows.recBetterRow.domain false) (Rows.recBetterSpec.post enc Try.prog Try.f6 false true false false) := by
  refine returnsInHanded_of_change (C := Try.checked) own started (by kernel_rfl) Try.func6
    (ChangeSpec.witness6 (enc := enc) (C := Try.checked) false ⟨#[], #[.agg #[.float .f64 0, .string ⟨#[]⟩], .agg #[.float .f64 0, .string ⟨#[]⟩], .agg #[.float .f64 0, .string ⟨#[]⟩]], []⟩ 8 (by kernel_rfl) (by kernel_rfl) (by kernel_rfl) (by kernel_rfl)) ?_
  intro W base args ds gs before hval0 hW hcnd _
  have hval : ∀ (j : Nat) t v, Try.f6.params[j]? = some t → args[j]? = some v → Value.okWide Try.prog W .any base t v := hval0
  have hW' := hW
  obtain ⟨p, q, hA0, hV, rfl, hfz, hnd⟩ := hW
  have hA : DataW.TrodAll enc Try.prog W 0 (fun _ => true) true Try.f6.params.toList args.toList ds p := hA0
  rw [Try.params6] at hA hval
  obtain ⟨v0, vs0, d0, ds0, p0, q0, hargs, rfl, rfl, h0, r0⟩ := trodAll_cons hA
  obtain ⟨v1, vs1, d1, ds1, p1, q1, rfl, rfl, rfl, h1, r1⟩ := trodAll_cons r0
  obtain ⟨v2, vs2, d2, ds2, p2, q2, rfl, rfl, rfl, h2, r2⟩ := trodAll_cons r1
  obtain ⟨rfl, rfl, rfl⟩ := trodAll_nil r2
  obtain rfl : args = #[v0, v1, v2] := by cases args; simp_all
  obtain ⟨rfl, rfl⟩ := trodVars_none hV
  obtain ⟨a0, a1, x0, x1, m0, rfl, rfl, rfl, u0, u1⟩ := open_agg2 Try.underlying45 (by kernel_rfl) cells_item (hval 0 45 v0 rfl rfl) h0
  obtain ⟨b0, b1, y0, y1, m1, rfl, rfl, rfl, u2, u3⟩ := open_agg2 Try.underlying45 (by kernel_rfl) cells_item (hval 1 45 v1 rfl rfl) h1
  obtain ⟨c0, c1, z0, z1, m2, rfl, rfl, rfl, u4, u5⟩ := open_agg2 Try.underlying45 (by kernel_rfl) cells_item (hval 2 45 v2 rfl rfl) h2
  obtain ⟨s0, e0, rfl, w0⟩ := trod_float Try.underlying22 u0
  obtain ⟨t0, e1, rfl, k0⟩ := DataW.trod_string Try.underlying9 u1
  obtain ⟨s1, e2, rfl, w1⟩ := trod_float Try.underlying22 u2
  obtain ⟨t1, e3, rfl, k1⟩ := DataW.trod_string Try.underlying9 u3
  obtain ⟨s2, e4, rfl, w2⟩ := trod_float Try.underlying22 u4
  obtain ⟨t2, e5, rfl, k2⟩ := DataW.trod_string Try.underlying9 u5
  simp at e0 e1 e2 e3 e4 e5
  subst e0 e1 e2 e3 e4 e5
  clear hA0 hval0
  simp only [List.append_nil] at hW'
  refine (lBetter (itemOf s0 t0) (itemOf s1 t1) (itemOf s2 t2) (f64_lt w0) (f64_lt w1) (f64_lt w2) W).mono fun e W' ⟨he, hg⟩ => ?_
  subst he
  exact ⟨_, rfl, post_of_below (pa := []) (pv := []) hW' (fun _ _ _ => trodAll_cons_mk (shut_bool Try.underlying4 _) trodAll_mk0)
    (fun sp _ => trodAll_cons_mk (item_shut enc w0 k0 W' sp) (trodAll_cons_mk (item_shut enc w1 k1 W' sp) (trodAll_cons_mk (item_shut enc w2 k2 W' sp) trodAll_mk0)))
    (fun _ _ => rfl) rfl hg (ok_one (by kernel_rfl) rfl (okWide_bool_mk Try.underlying4 _))⟩

theorem recBetter_proved : Rows.RecBetterSaid :=
  OpenClaim.holds_of_wide 6 Try.f6 rfl rfl rfl rfl rfl rfl rfl ⟨rfl, rfl, rfl, rfl, rfl⟩ rfl rfl rfl rfl rfl (by kernel_rfl) Try.func6 (by kernel_rfl)
    (of_decide_eq_true (by kernel_rfl)) (by unfold Func.isWrapper; first | (rw [if_pos (by decide +kernel)]; kernel_rfl) | (rw [if_neg (by decide +kernel)]; exact ⟨rfl, rfl⟩))
    (fun os started H enc _ => recBetter_lifted os started H enc)
end Go.Proofs.Ytocllhghbmbjpaa
