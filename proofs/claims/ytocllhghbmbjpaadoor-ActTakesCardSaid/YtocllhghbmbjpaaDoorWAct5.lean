/- The walk of act.Bytes. -/
import Derived.Test.YtocllhghbmbjpaaDoorWAct3
import Derived.Test.YtocllhghbmbjpaaDoorWAct4
import Derived.Test.YtocllhghbmbjpaaDoorWBytes
set_option linter.unusedSimpArgs false
set_option linter.unusedVariables false
set_option maxRecDepth 20000
namespace Go.Proofs.YtocllhghbmbjpaaDoor
open Go.RowKit Moi
attribute [local go_sem] toList_str str_size less_ltB store_float
theorem hasF_109 (k : Nat) (h : 1 ≤ k ∧ k ≤ 21) : hasF (k : Int) 109 = decide (k = 1) := by
  rcases act_class k h with ⟨_, _, _, h4, h5⟩ | ⟨_, _, _, h4, h5⟩ | ⟨_, _, _, h4, h5⟩ | ⟨_, _, _, h4, h5⟩ | ⟨_, _, _, h4, h5⟩ | ⟨_, _, _, h4, h5⟩ <;> rw [h4] <;> simp [h5]
theorem act_make {a : MAct} (h : checkAct a = 0) : (a.kind = 1 ∧ checkRec a.make = 0) ∨ (a.kind ≠ 1 ∧ sameRec a.make zeroRec = true) := by
  obtain ⟨h1, h2, _, _, hb, _, _, h8⟩ := act_ok h
  by_cases hk : a.kind = 1
  · exact .inl ⟨hk, h8 hk⟩
  · refine .inr ⟨hk, ?_⟩
    obtain ⟨k, e⟩ : ∃ k : Nat, a.kind = (k : Int) := ⟨a.kind.toNat, by omega⟩
    unfold bareA at hb
    rw [e, hasF_109 k (by omega), show decide (k = 1) = false from decide_eq_false (by omega)] at hb
    simp only [Bool.and_eq_true, Bool.false_or] at hb
    exact hb.2
theorem act_list {a : MAct} (h : checkAct a = 0) : a.make.list.length ≤ 32 := by
  rcases act_make h with ⟨_, h1⟩ | ⟨_, h1⟩
  · exact (check_list h1).1
  · unfold sameRec at h1
    simp only [Bool.and_eq_true] at h1
    have := h1.2
    cases hl : a.make.list with
    | nil => simp
    | cons x l => rw [hl] at this; cases this
theorem act_s {a : MAct} (h : checkAct a = 0) : a.s.length ≤ 64 := by
  obtain ⟨_, _, _, _, _, h6, _, _⟩ := act_ok h
  unfold mostOf at h6
  split at h6 <;> omega
theorem wAct_len {a : MAct} (h : checkAct a = 0) (hf : a.WF) : (wAct a).length ≤ 1400 := by
  obtain ⟨h1, h2, h3, h4, hb, h6, h7, h8⟩ := act_ok h
  have e1 := wU_len10 a.kind.toNat (by omega)
  have e2 := wS_len a.key (by omega)
  have e3 := wI_len a.n hf.n
  have e4 := wS_len a.s (by have := act_s h; omega)
  have e5 := act_s h
  have e6 : (if hasF a.kind 109 then wRec a.make else []).length ≤ 1200 := by
    split
    · rename_i hm
      obtain ⟨k, e⟩ : ∃ k : Nat, a.kind = (k : Int) := ⟨a.kind.toNat, by omega⟩
      rw [e, hasF_109 k (by omega)] at hm
      exact wRec_len (h8 (by have := of_decide_eq_true hm; omega)) hf.make
    · simp
  have e7 : (if hasF a.kind 110 then wI a.n else []).length ≤ 10 := by
    split
    · omega
    · exact Nat.zero_le _
  have e8 : (if hasF a.kind 120 then wF a.x else []).length ≤ 8 := by split <;> simp [wF_len]
  have e9 : (if hasF a.kind 115 then wS a.s else []).length ≤ 74 := by
    split
    · omega
    · exact Nat.zero_le _
  unfold wAct
  simp only [List.length_append, wFlag, List.length_singleton]
  omega
def actBytes (a : MAct) : List UInt8 := if checkAct a = 0 then wAct a else []
set_option maxHeartbeats 4000000 in
theorem bytes_act (a : MAct) (hf : a.WF) (A : Option Addr) (n c : Nat) (hn : n ≤ 140737488355328) (w : World) (hK : KindsAt w) (hr : RdItems w A n a.make.list) :
    Calls Tryd.prog 19 #[actVal a A n c] w (NewBytes w (actBytes a)) := by
  have hb0 := Lib.hid (Blk.new w 33 #[.int .i64 a.kind, .string (str a.key), .int .i64 a.n, .float .f64 a.x, .string (str a.s), .int .i64 a.make.kind, .int .i64 a.make.num, .int .i64 a.make.low, .int .i64 a.make.high, .float .f64 a.make.real, .int .i64 a.make.cap, .string (str a.make.text), .slice A n c, .bool a.must])
  have hcl0 : Cln w (w.alloc (.cells #[.int .i64 a.kind, .string (str a.key), .int .i64 a.n, .float .f64 a.x, .string (str a.s), .int .i64 a.make.kind, .int .i64 a.make.num, .int .i64 a.make.low, .int .i64 a.make.high, .float .f64 a.make.real, .int .i64 a.make.cap, .string (str a.make.text), .slice A n c, .bool a.must] 33)) := (Below.refl _ _).alloc (Nat.le_refl _) _
  by_cases hk : checkAct a = 0
  · have hlen := wAct_len hk hf
    have hln : n ≤ 32 := by have := act_list hk; rw [hr.len] at this; exact this
    rw [show actBytes a = wAct a from by unfold actBytes; rw [if_pos hk]]
    have t1 : (((checkAct a : Nat) : Int) != 0) = false := by rw [hk]; rfl
    replace hk := Lib.hid hk
    have cC := fun W h h2 => acheck_any a A n c hn hf W h h2
    unfold actVal at cC ⊢
    go_enter Tryd.func19, Tryd.ntmps19
    go_wp2_with fail
    refine (cC _ (hK.cln hcl0) (hr.cln hcl0)).mono ?_; rintro e w1 ⟨rfl, hq⟩
    have hb := hb0.out.cln hq
    have hc := hb.cell
    have hlt := hb.lt
    have hne : ¬ w.heap.size = w1.heap.size := by omega
    have hcl1 : Cln w w1 := cln_trans hcl0 hq
    have hr1 := Lib.hid (hr.cln hcl1)
    have hK1 := Lib.hid (hK.cln hcl1)
    clear hq hcl0 hb0 cC
    go_wp2_with fail
    have cW := (awrite_any w1.heap.size w1.heap.size [] a hk.out hf A n c (by omega) _ (hK1.out.cln ((Below.refl _ _).alloc (Nat.le_refl _) _)) (newWriter w1) (hr1.out.cln ((Below.refl _ _).alloc (Nat.le_refl _) _)) (fun h0 ad e => hr1.out.lo h0 ad e) (by simp; omega))
    unfold actVal at cW
    refine cW.mono ?_
    rintro e w2 ⟨rfl, hW, hKK⟩
    rw [List.nil_append] at hW
    have hb2 := WS_below hKK (Nat.le_refl _) (by simp)
    clear cW
    go_wp2_with fail
    refine (bytes_any _ _ _ _ hW (by omega)).mono ?_
    rintro e w3 ⟨A', c', m, hm, rfl, hown, hq3⟩
    have hle : w.heap.size ≤ w2.heap.size := by have := hKK.size; simp at this; omega
    have hcl2 : Cln w w2 := hcl1.trans ((Below.mono (Below.trans ((Below.refl w1.heap.size w1).alloc (Nat.le_refl _) _) hb2) (by omega)))
    go_wp2_with fail
    go_ret
    exact ⟨A', c', m, hm, rfl, own_base hown hle, cln_trans hcl2 hq3⟩
  · rw [show actBytes a = [] from by unfold actBytes; rw [if_neg hk]]
    have t1 : (((checkAct a : Nat) : Int) != 0) = true := by rw [bne_iff_ne]; omega
    clear hk
    have cC := fun W h h2 => acheck_any a A n c hn hf W h h2
    unfold actVal at cC ⊢
    go_enter Tryd.func19, Tryd.ntmps19
    go_wp2_with fail
    refine (cC _ (hK.cln hcl0) (hr.cln hcl0)).mono ?_; rintro e w1 ⟨rfl, hq⟩
    have hcl1 : Cln w w1 := cln_trans hcl0 hq
    go_wp2_with fail
    go_ret
    exact ⟨none, 0, 0, rfl, rfl, World.ownsRow_nil _ _ _ _, hcl1⟩
end Go.Proofs.YtocllhghbmbjpaaDoor
