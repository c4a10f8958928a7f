/- The document's Parts of acts, of all kinds. (Cut by hand from what gen_lactb.py prints.) -/
import Derived.Test.YtoeoodiifpoomaaGreatDoorWAct7
import Derived.Test.YtoeoodiifpoomaaGreatDoorWAct8
import Derived.Test.YtoeoodiifpoomaaGreatDoorWAct5
import Derived.Test.YtoeoodiifpoomaaGreatDoorRows2
import Derived.Test.YtoeoodiifpoomaaGreatDoorWRBytes
set_option linter.unusedSimpArgs false
set_option linter.unusedVariables false
set_option maxRecDepth 20000
namespace Go.Proofs.YtoeoodiifpoomaaGreatDoor
open Go.RowKit Moi
attribute [local go_sem] toList_str str_size less_ltB store_float
theorem actParts_wf {a : MAct} {k : Nat} (hk : a.kind = (k : Int)) (hck : checkAct a = 0) (hf : FullA a) : ∀ p ∈ actParts k a, p.WF := by
  obtain ⟨h1, h2, h3, h4, hb, h6, h7, h8⟩ := act_ok hck
  have hs := act_s hck
  have hm := hasF_109 k (by omega)
  intro p hp
  unfold actParts at hp
  rcases List.mem_append.1 hp with hp | hp
  · simp at hp
    rcases hp with rfl | rfl | rfl
    · show k < _; omega
    · trivial
    · show a.key.length ≤ _; omega
  rcases List.mem_append.1 hp with hp | hp
  · split at hp
    · simp at hp; subst hp; exact hf.wf.n
    · cases hp
  rcases List.mem_append.1 hp with hp | hp
  · split at hp
    · simp at hp; subst hp; exact fkey_lt _ hf.wf.x
    · cases hp
  rcases List.mem_append.1 hp with hp | hp
  · split at hp
    · simp at hp; subst hp; show a.s.length ≤ _; omega
    · cases hp
  · split at hp
    · rename_i h9
      rw [hm] at h9
      exact recParts_wf (h8 (by have := of_decide_eq_true h9; omega)) ⟨hf.wf.make, hf.sc⟩ p hp
    · cases hp
theorem actParts_len {a : MAct} {k : Nat} (hk : a.kind = (k : Int)) (hck : checkAct a = 0) : (actParts k a).length ≤ 2000 := by
  obtain ⟨h1, h2, h3, h4, hb, h6, h7, h8⟩ := act_ok hck
  have hm := hasF_109 k (by omega)
  have e : (if hasF k 109 then recParts a.make else []).length ≤ 1000 := by
    split
    · rename_i h9
      rw [hm] at h9
      exact recParts_len (h8 (by have := of_decide_eq_true h9; omega))
    · simp
  have e1 : (if hasF k 110 then [MPart.i a.n] else []).length ≤ 1 := by split <;> simp
  have e2 : (if hasF k 120 then [MPart.f (fkey a.x)] else []).length ≤ 1 := by split <;> simp
  have e3 : (if hasF k 115 then [MPart.s a.s] else []).length ≤ 1 := by split <;> simp
  unfold actParts
  simp only [List.length_append, List.length_cons, List.length_nil]
  omega
theorem aparts_any (a : MAct) (k : Nat) (hk : a.kind = (k : Int)) (hck : checkAct a = 0) (hf : a.WF) (A : Option Addr) (n c : Nat) (w : World) (hr : RdItems w A n a.make.list) :
    Calls Tryz.prog 116 #[.agg #[.int .i64 a.kind, .string (str a.key), .int .i64 a.n, .float .f64 a.x, .string (str a.s), .int .i64 a.make.kind, .int .i64 a.make.num, .int .i64 a.make.low, .int .i64 a.make.high, .float .f64 a.make.real, .int .i64 a.make.cap, .string (str a.make.text), .slice A n c, .bool a.must]] w (NewParts w (actParts k a)) := by
  obtain ⟨h1, h2, _, _, _, _, _, h8⟩ := act_ok hck
  rw [hk]
  have hk1 : 1 ≤ k ∧ k ≤ 21 := by omega
  rcases act_class k hk1 with ⟨hN, hX, hS, hM, he⟩ | ⟨hN, hX, hS, hM, he⟩ | ⟨hN, hX, hS, hM, he⟩ | ⟨hN, hX, hS, hM, he⟩ | ⟨hN, hX, hS, hM, he⟩ | ⟨hN, hX, hS, hM, he⟩
  · exact aparts_none a k hk1 hN hX hS hM he hf.x trivial hf.make A n c w hr
  · exact aparts_make a k hk1 hN hX hS hM he hf.x (h8 (by omega)) hf.make A n c w hr
  · exact aparts_text a k hk1 hN hX hS hM he hf.x trivial hf.make A n c w hr
  · exact aparts_num a k hk1 hN hX hS hM he hf.x trivial hf.make A n c w hr
  · exact aparts_real a k hk1 hN hX hS hM he hf.x trivial hf.make A n c w hr
  · exact aparts_offer a k hk1 hN hX hS hM he hf.x trivial hf.make A n c w hr
end Go.Proofs.YtoeoodiifpoomaaGreatDoor
