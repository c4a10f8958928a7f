/- The law ActKinds. (Printed by wip/tools/gen_lactk.py.) -/
import Derived.Test.YtocllhghbmbjpaaDoorWActSp
import Derived.Test.YtocllhghbmbjpaaDoorWActR
set_option linter.unusedSimpArgs false
set_option linter.unusedVariables false
set_option maxRecDepth 20000
namespace Go.Proofs.YtocllhghbmbjpaaDoor
open Go.RowKit Moi
attribute [local go_sem] toList_str str_size less_ltB store_float
theorem words_cells (i : Nat) (hi : i < 22) : (#[.string ⟨#[]⟩, .string ⟨#[110, 101, 119]⟩, .string ⟨#[100, 114, 111, 112]⟩, .string ⟨#[105, 115]⟩, .string ⟨#[108, 111, 111, 107]⟩, .string ⟨#[112, 117, 116]⟩, .string ⟨#[115, 119, 97, 112]⟩, .string ⟨#[97, 100, 100]⟩, .string ⟨#[112, 108, 117, 115]⟩, .string ⟨#[114, 101, 97, 99, 104]⟩, .string ⟨#[105, 110]⟩, .string ⟨#[111, 117, 116]⟩, .string ⟨#[101, 110, 111, 117, 103, 104]⟩, .string ⟨#[114, 97, 105, 115, 101]⟩, .string ⟨#[108, 111, 119, 101, 114]⟩, .string ⟨#[115, 104, 105, 102, 116]⟩, .string ⟨#[115, 99, 97, 108, 101]⟩, .string ⟨#[102, 105, 120]⟩, .string ⟨#[106, 111, 105, 110]⟩, .string ⟨#[108, 101, 97, 118, 101]⟩, .string ⟨#[104, 97, 115]⟩, .string ⟨#[111, 102, 102, 101, 114]⟩] : Array Value)[i]? = some (.string (str (wordOf (i : Int)))) := by
  have h : i = 0 ∨ i = 1 ∨ i = 2 ∨ i = 3 ∨ i = 4 ∨ i = 5 ∨ i = 6 ∨ i = 7 ∨ i = 8 ∨ i = 9 ∨ i = 10 ∨ i = 11 ∨ i = 12 ∨ i = 13 ∨ i = 14 ∨ i = 15 ∨ i = 16 ∨ i = 17 ∨ i = 18 ∨ i = 19 ∨ i = 20 ∨ i = 21 := by omega
  rcases h with rfl | rfl | rfl | rfl | rfl | rfl | rfl | rfl | rfl | rfl | rfl | rfl | rfl | rfl | rfl | rfl | rfl | rfl | rfl | rfl | rfl | rfl <;> rfl
set_option maxHeartbeats 8000000 in
theorem lActKinds (k : Int) (c : UInt8) (w : World) (hK : KindsAt w) :
    Calls Tryd.prog 3 #[.int .i64 k, .int .u8 (c.toNat : Nat)] w fun e w' => e = .returned (.bool true) ∧ Cln w w' := by
  by_cases h0 : k < 0
  · have g1 : decide (0 ≤ k) = false := decide_eq_false (by omega)
    have hw : wordOf k = [] := (wordOf_nil k).2 (by omega)
    have tW : (wordOf k == []) = true := by rw [hw]; rfl
    have tN : (wordOf k == wordOf k) = true := beq_self_eq_true _
    have tO : (((onOf k : Nat) : Int) == ((onOf k : Nat) : Int)) = true := beq_self_eq_true _
    have tF : (hasF k c == hasF k c) = true := beq_self_eq_true _
    have r3 : (k == 3) = false := by rw [beq_eq_false_iff_ne]; omega
    have r4 : (k == 4) = false := by rw [beq_eq_false_iff_ne]; omega
    have r9 : (k == 9) = false := by rw [beq_eq_false_iff_ne]; omega
    have r12 : (k == 12) = false := by rw [beq_eq_false_iff_ne]; omega
    have r20 : (k == 20) = false := by rw [beq_eq_false_iff_ne]; omega
    have hRb : readsB k = false := by unfold readsB; simp only [r3, r4, r9, r12, r20]; rfl
    have hR : ∀ W, Calls Tryd.prog 13 #[.int .i64 k] W fun e w' => e = .returned (.bool false) ∧ Cln W w' := fun W => hRb ▸ reads_act k W
    clear hRb
    clear h0 hw
    go_enter Tryd.func3, Tryd.ntmps3
    go_wp2_with fail
    refine (speaks_act _ hK).mono ?_; rintro e w1 ⟨rfl, hcl⟩
    go_wp2_with fail
    have hcl := cln_trans hcl (show Cln w1 (w1.alloc (.cells #[.string ⟨#[]⟩, .string ⟨#[110, 101, 119]⟩, .string ⟨#[100, 114, 111, 112]⟩, .string ⟨#[105, 115]⟩, .string ⟨#[108, 111, 111, 107]⟩, .string ⟨#[112, 117, 116]⟩, .string ⟨#[115, 119, 97, 112]⟩, .string ⟨#[97, 100, 100]⟩, .string ⟨#[112, 108, 117, 115]⟩, .string ⟨#[114, 101, 97, 99, 104]⟩, .string ⟨#[105, 110]⟩, .string ⟨#[111, 117, 116]⟩, .string ⟨#[101, 110, 111, 117, 103, 104]⟩, .string ⟨#[114, 97, 105, 115, 101]⟩, .string ⟨#[108, 111, 119, 101, 114]⟩, .string ⟨#[115, 104, 105, 102, 116]⟩, .string ⟨#[115, 99, 97, 108, 101]⟩, .string ⟨#[102, 105, 120]⟩, .string ⟨#[106, 111, 105, 110]⟩, .string ⟨#[108, 101, 97, 118, 101]⟩, .string ⟨#[104, 97, 115]⟩, .string ⟨#[111, 102, 102, 101, 114]⟩] 9)) from by (repeat (first | (with_reducible exact Below.refl _ _) | (with_reducible assumption) | (with_reducible refine Below.setCell ?_ (by first | omega | (simp; done) | (simp; omega)) _) | (with_reducible refine Below.alloc ?_ (by first | omega | (simp; done) | (simp; omega)) _) | (with_reducible refine Below.drew ?_) | (with_reducible refine below_drewN ?_ _))))
    refine (name_act k _ (hK.cln hcl)).mono ?_; rintro e w2 ⟨rfl, hq⟩
    have hcl := cln_trans hcl hq
    clear hq
    go_wp2_with fail
    refine (on_act k _ (hK.cln hcl)).mono ?_; rintro e w3 ⟨rfl, hq⟩
    have hcl := cln_trans hcl hq
    clear hq
    go_wp2_with fail
    refine (ron_any k _).mono ?_; rintro e w4 ⟨rfl, hq⟩
    have hcl := cln_trans hcl hq
    clear hq
    go_wp2_with fail
    refine (hR _).mono ?_; rintro e w5 ⟨rfl, hq⟩
    have hcl := cln_trans hcl hq
    clear hq
    go_wp2_with fail
    refine (fields_act k c _ (hK.cln hcl)).mono ?_; rintro e w6 ⟨rfl, hq⟩
    have hcl := cln_trans hcl hq
    clear hq
    go_wp2_with fail
    refine (rhas_any k c _).mono ?_; rintro e w7 ⟨rfl, hq⟩
    have hcl := cln_trans hcl hq
    clear hq
    go_wp2_with fail
    go_ret
    exact ⟨rfl, hcl⟩
  obtain ⟨i, rfl⟩ := Int.eq_ofNat_of_zero_le (show 0 ≤ k by omega)
  clear h0
  have g1 : decide (0 ≤ (i : Int)) = true := decide_eq_true (by omega)
  by_cases h1 : 22 ≤ i
  · have g2 : decide ((i : Int) < 22) = false := decide_eq_false (by omega)
    have hw : wordOf (i : Int) = [] := (wordOf_nil (i : Int)).2 (by omega)
    have tW : (wordOf (i : Int) == []) = true := by rw [hw]; rfl
    have tN : (wordOf (i : Int) == wordOf (i : Int)) = true := beq_self_eq_true _
    have tO : (((onOf (i : Int) : Nat) : Int) == ((onOf (i : Int) : Nat) : Int)) = true := beq_self_eq_true _
    have tF : (hasF (i : Int) c == hasF (i : Int) c) = true := beq_self_eq_true _
    have r3 : ((i : Int) == 3) = false := by rw [beq_eq_false_iff_ne]; omega
    have r4 : ((i : Int) == 4) = false := by rw [beq_eq_false_iff_ne]; omega
    have r9 : ((i : Int) == 9) = false := by rw [beq_eq_false_iff_ne]; omega
    have r12 : ((i : Int) == 12) = false := by rw [beq_eq_false_iff_ne]; omega
    have r20 : ((i : Int) == 20) = false := by rw [beq_eq_false_iff_ne]; omega
    have hRb : readsB (i : Int) = false := by unfold readsB; simp only [r3, r4, r9, r12, r20]; rfl
    have hR : ∀ W, Calls Tryd.prog 13 #[.int .i64 (i : Int)] W fun e w' => e = .returned (.bool false) ∧ Cln W w' := fun W => hRb ▸ reads_act (i : Int) W
    clear hRb
    clear hw
    go_enter Tryd.func3, Tryd.ntmps3
    go_wp2_with fail
    refine (speaks_act _ hK).mono ?_; rintro e w1 ⟨rfl, hcl⟩
    go_wp2_with fail
    have hcl := cln_trans hcl (show Cln w1 (w1.alloc (.cells #[.string ⟨#[]⟩, .string ⟨#[110, 101, 119]⟩, .string ⟨#[100, 114, 111, 112]⟩, .string ⟨#[105, 115]⟩, .string ⟨#[108, 111, 111, 107]⟩, .string ⟨#[112, 117, 116]⟩, .string ⟨#[115, 119, 97, 112]⟩, .string ⟨#[97, 100, 100]⟩, .string ⟨#[112, 108, 117, 115]⟩, .string ⟨#[114, 101, 97, 99, 104]⟩, .string ⟨#[105, 110]⟩, .string ⟨#[111, 117, 116]⟩, .string ⟨#[101, 110, 111, 117, 103, 104]⟩, .string ⟨#[114, 97, 105, 115, 101]⟩, .string ⟨#[108, 111, 119, 101, 114]⟩, .string ⟨#[115, 104, 105, 102, 116]⟩, .string ⟨#[115, 99, 97, 108, 101]⟩, .string ⟨#[102, 105, 120]⟩, .string ⟨#[106, 111, 105, 110]⟩, .string ⟨#[108, 101, 97, 118, 101]⟩, .string ⟨#[104, 97, 115]⟩, .string ⟨#[111, 102, 102, 101, 114]⟩] 9)) from by (repeat (first | (with_reducible exact Below.refl _ _) | (with_reducible assumption) | (with_reducible refine Below.setCell ?_ (by first | omega | (simp; done) | (simp; omega)) _) | (with_reducible refine Below.alloc ?_ (by first | omega | (simp; done) | (simp; omega)) _) | (with_reducible refine Below.drew ?_) | (with_reducible refine below_drewN ?_ _))))
    refine (name_act (i : Int) _ (hK.cln hcl)).mono ?_; rintro e w2 ⟨rfl, hq⟩
    have hcl := cln_trans hcl hq
    clear hq
    go_wp2_with fail
    refine (on_act (i : Int) _ (hK.cln hcl)).mono ?_; rintro e w3 ⟨rfl, hq⟩
    have hcl := cln_trans hcl hq
    clear hq
    go_wp2_with fail
    refine (ron_any (i : Int) _).mono ?_; rintro e w4 ⟨rfl, hq⟩
    have hcl := cln_trans hcl hq
    clear hq
    go_wp2_with fail
    refine (hR _).mono ?_; rintro e w5 ⟨rfl, hq⟩
    have hcl := cln_trans hcl hq
    clear hq
    go_wp2_with fail
    refine (fields_act (i : Int) c _ (hK.cln hcl)).mono ?_; rintro e w6 ⟨rfl, hq⟩
    have hcl := cln_trans hcl hq
    clear hq
    go_wp2_with fail
    refine (rhas_any (i : Int) c _).mono ?_; rintro e w7 ⟨rfl, hq⟩
    have hcl := cln_trans hcl hq
    clear hq
    go_wp2_with fail
    go_ret
    exact ⟨rfl, hcl⟩
  have g2 : decide ((i : Int) < 22) = true := decide_eq_true (by omega)
  have hi : i < 22 := by omega
  by_cases e3 : i = 3
  · have tN : (wordOf (i : Int) == wordOf (i : Int)) = true := beq_self_eq_true _
    have tO : (((onOf (i : Int) : Nat) : Int) == ((onOf (i : Int) : Nat) : Int)) = true := beq_self_eq_true _
    have tF : (hasF (i : Int) c == hasF (i : Int) c) = true := beq_self_eq_true _
    have r3 : ((i : Int) == 3) = true := by rw [beq_iff_eq]; omega
    have hRb : readsB (i : Int) = true := by unfold readsB; simp only [r3]; simp
    have hR : ∀ W, Calls Tryd.prog 13 #[.int .i64 (i : Int)] W fun e w' => e = .returned (.bool true) ∧ Cln W w' := fun W => hRb ▸ reads_act (i : Int) W
    clear hRb
    replace e3 := Lib.hid e3
    go_enter Tryd.func3, Tryd.ntmps3
    go_wp2_with fail
    refine (speaks_act _ hK).mono ?_; rintro e w1 ⟨rfl, hcl⟩
    have hce : (w1.alloc (.cells #[.string ⟨#[]⟩, .string ⟨#[110, 101, 119]⟩, .string ⟨#[100, 114, 111, 112]⟩, .string ⟨#[105, 115]⟩, .string ⟨#[108, 111, 111, 107]⟩, .string ⟨#[112, 117, 116]⟩, .string ⟨#[115, 119, 97, 112]⟩, .string ⟨#[97, 100, 100]⟩, .string ⟨#[112, 108, 117, 115]⟩, .string ⟨#[114, 101, 97, 99, 104]⟩, .string ⟨#[105, 110]⟩, .string ⟨#[111, 117, 116]⟩, .string ⟨#[101, 110, 111, 117, 103, 104]⟩, .string ⟨#[114, 97, 105, 115, 101]⟩, .string ⟨#[108, 111, 119, 101, 114]⟩, .string ⟨#[115, 104, 105, 102, 116]⟩, .string ⟨#[115, 99, 97, 108, 101]⟩, .string ⟨#[102, 105, 120]⟩, .string ⟨#[106, 111, 105, 110]⟩, .string ⟨#[108, 101, 97, 118, 101]⟩, .string ⟨#[104, 97, 115]⟩, .string ⟨#[111, 102, 102, 101, 114]⟩] 9)).cell? ⟨w1.heap.size, i, none⟩ = some (.string (str (wordOf (i : Int)))) := ((Blk.new w1 9 #[.string ⟨#[]⟩, .string ⟨#[110, 101, 119]⟩, .string ⟨#[100, 114, 111, 112]⟩, .string ⟨#[105, 115]⟩, .string ⟨#[108, 111, 111, 107]⟩, .string ⟨#[112, 117, 116]⟩, .string ⟨#[115, 119, 97, 112]⟩, .string ⟨#[97, 100, 100]⟩, .string ⟨#[112, 108, 117, 115]⟩, .string ⟨#[114, 101, 97, 99, 104]⟩, .string ⟨#[105, 110]⟩, .string ⟨#[111, 117, 116]⟩, .string ⟨#[101, 110, 111, 117, 103, 104]⟩, .string ⟨#[114, 97, 105, 115, 101]⟩, .string ⟨#[108, 111, 119, 101, 114]⟩, .string ⟨#[115, 104, 105, 102, 116]⟩, .string ⟨#[115, 99, 97, 108, 101]⟩, .string ⟨#[102, 105, 120]⟩, .string ⟨#[106, 111, 105, 110]⟩, .string ⟨#[108, 101, 97, 118, 101]⟩, .string ⟨#[104, 97, 115]⟩, .string ⟨#[111, 102, 102, 101, 114]⟩]).cell i).trans (words_cells i hi)
    have hlt := (Blk.new w1 9 #[.string ⟨#[]⟩, .string ⟨#[110, 101, 119]⟩, .string ⟨#[100, 114, 111, 112]⟩, .string ⟨#[105, 115]⟩, .string ⟨#[108, 111, 111, 107]⟩, .string ⟨#[112, 117, 116]⟩, .string ⟨#[115, 119, 97, 112]⟩, .string ⟨#[97, 100, 100]⟩, .string ⟨#[112, 108, 117, 115]⟩, .string ⟨#[114, 101, 97, 99, 104]⟩, .string ⟨#[105, 110]⟩, .string ⟨#[111, 117, 116]⟩, .string ⟨#[101, 110, 111, 117, 103, 104]⟩, .string ⟨#[114, 97, 105, 115, 101]⟩, .string ⟨#[108, 111, 119, 101, 114]⟩, .string ⟨#[115, 104, 105, 102, 116]⟩, .string ⟨#[115, 99, 97, 108, 101]⟩, .string ⟨#[102, 105, 120]⟩, .string ⟨#[106, 111, 105, 110]⟩, .string ⟨#[108, 101, 97, 118, 101]⟩, .string ⟨#[104, 97, 115]⟩, .string ⟨#[111, 102, 102, 101, 114]⟩]).lt
    go_wp2_with fail
    have hcl := cln_trans hcl (show Cln w1 (w1.alloc (.cells #[.string ⟨#[]⟩, .string ⟨#[110, 101, 119]⟩, .string ⟨#[100, 114, 111, 112]⟩, .string ⟨#[105, 115]⟩, .string ⟨#[108, 111, 111, 107]⟩, .string ⟨#[112, 117, 116]⟩, .string ⟨#[115, 119, 97, 112]⟩, .string ⟨#[97, 100, 100]⟩, .string ⟨#[112, 108, 117, 115]⟩, .string ⟨#[114, 101, 97, 99, 104]⟩, .string ⟨#[105, 110]⟩, .string ⟨#[111, 117, 116]⟩, .string ⟨#[101, 110, 111, 117, 103, 104]⟩, .string ⟨#[114, 97, 105, 115, 101]⟩, .string ⟨#[108, 111, 119, 101, 114]⟩, .string ⟨#[115, 104, 105, 102, 116]⟩, .string ⟨#[115, 99, 97, 108, 101]⟩, .string ⟨#[102, 105, 120]⟩, .string ⟨#[106, 111, 105, 110]⟩, .string ⟨#[108, 101, 97, 118, 101]⟩, .string ⟨#[104, 97, 115]⟩, .string ⟨#[111, 102, 102, 101, 114]⟩] 9)) from by (repeat (first | (with_reducible exact Below.refl _ _) | (with_reducible assumption) | (with_reducible refine Below.setCell ?_ (by first | omega | (simp; done) | (simp; omega)) _) | (with_reducible refine Below.alloc ?_ (by first | omega | (simp; done) | (simp; omega)) _) | (with_reducible refine Below.drew ?_) | (with_reducible refine below_drewN ?_ _))))
    clear hce hlt
    refine (name_act (i : Int) _ (hK.cln hcl)).mono ?_; rintro e w2 ⟨rfl, hq⟩
    have hcl := cln_trans hcl hq
    clear hq
    go_wp2_with fail
    refine (on_act (i : Int) _ (hK.cln hcl)).mono ?_; rintro e w3 ⟨rfl, hq⟩
    have hcl := cln_trans hcl hq
    clear hq
    go_wp2_with fail
    refine (ron_any (i : Int) _).mono ?_; rintro e w4 ⟨rfl, hq⟩
    have hcl := cln_trans hcl hq
    clear hq
    go_wp2_with fail
    refine (hR _).mono ?_; rintro e w5 ⟨rfl, hq⟩
    have hcl := cln_trans hcl hq
    clear hq
    go_wp2_with fail
    refine (fields_act (i : Int) c _ (hK.cln hcl)).mono ?_; rintro e w6 ⟨rfl, hq⟩
    have hcl := cln_trans hcl hq
    clear hq
    go_wp2_with fail
    refine (rhas_any (i : Int) c _).mono ?_; rintro e w7 ⟨rfl, hq⟩
    have hcl := cln_trans hcl hq
    clear hq
    go_wp2_with fail
    go_ret
    exact ⟨rfl, hcl⟩
  by_cases e4 : i = 4
  · have tN : (wordOf (i : Int) == wordOf (i : Int)) = true := beq_self_eq_true _
    have tO : (((onOf (i : Int) : Nat) : Int) == ((onOf (i : Int) : Nat) : Int)) = true := beq_self_eq_true _
    have tF : (hasF (i : Int) c == hasF (i : Int) c) = true := beq_self_eq_true _
    have r3 : ((i : Int) == 3) = false := by rw [beq_eq_false_iff_ne]; omega
    have r4 : ((i : Int) == 4) = true := by rw [beq_iff_eq]; omega
    have hRb : readsB (i : Int) = true := by unfold readsB; simp only [r3, r4]; simp
    have hR : ∀ W, Calls Tryd.prog 13 #[.int .i64 (i : Int)] W fun e w' => e = .returned (.bool true) ∧ Cln W w' := fun W => hRb ▸ reads_act (i : Int) W
    clear hRb
    replace e4 := Lib.hid e4
    go_enter Tryd.func3, Tryd.ntmps3
    go_wp2_with fail
    refine (speaks_act _ hK).mono ?_; rintro e w1 ⟨rfl, hcl⟩
    have hce : (w1.alloc (.cells #[.string ⟨#[]⟩, .string ⟨#[110, 101, 119]⟩, .string ⟨#[100, 114, 111, 112]⟩, .string ⟨#[105, 115]⟩, .string ⟨#[108, 111, 111, 107]⟩, .string ⟨#[112, 117, 116]⟩, .string ⟨#[115, 119, 97, 112]⟩, .string ⟨#[97, 100, 100]⟩, .string ⟨#[112, 108, 117, 115]⟩, .string ⟨#[114, 101, 97, 99, 104]⟩, .string ⟨#[105, 110]⟩, .string ⟨#[111, 117, 116]⟩, .string ⟨#[101, 110, 111, 117, 103, 104]⟩, .string ⟨#[114, 97, 105, 115, 101]⟩, .string ⟨#[108, 111, 119, 101, 114]⟩, .string ⟨#[115, 104, 105, 102, 116]⟩, .string ⟨#[115, 99, 97, 108, 101]⟩, .string ⟨#[102, 105, 120]⟩, .string ⟨#[106, 111, 105, 110]⟩, .string ⟨#[108, 101, 97, 118, 101]⟩, .string ⟨#[104, 97, 115]⟩, .string ⟨#[111, 102, 102, 101, 114]⟩] 9)).cell? ⟨w1.heap.size, i, none⟩ = some (.string (str (wordOf (i : Int)))) := ((Blk.new w1 9 #[.string ⟨#[]⟩, .string ⟨#[110, 101, 119]⟩, .string ⟨#[100, 114, 111, 112]⟩, .string ⟨#[105, 115]⟩, .string ⟨#[108, 111, 111, 107]⟩, .string ⟨#[112, 117, 116]⟩, .string ⟨#[115, 119, 97, 112]⟩, .string ⟨#[97, 100, 100]⟩, .string ⟨#[112, 108, 117, 115]⟩, .string ⟨#[114, 101, 97, 99, 104]⟩, .string ⟨#[105, 110]⟩, .string ⟨#[111, 117, 116]⟩, .string ⟨#[101, 110, 111, 117, 103, 104]⟩, .string ⟨#[114, 97, 105, 115, 101]⟩, .string ⟨#[108, 111, 119, 101, 114]⟩, .string ⟨#[115, 104, 105, 102, 116]⟩, .string ⟨#[115, 99, 97, 108, 101]⟩, .string ⟨#[102, 105, 120]⟩, .string ⟨#[106, 111, 105, 110]⟩, .string ⟨#[108, 101, 97, 118, 101]⟩, .string ⟨#[104, 97, 115]⟩, .string ⟨#[111, 102, 102, 101, 114]⟩]).cell i).trans (words_cells i hi)
    have hlt := (Blk.new w1 9 #[.string ⟨#[]⟩, .string ⟨#[110, 101, 119]⟩, .string ⟨#[100, 114, 111, 112]⟩, .string ⟨#[105, 115]⟩, .string ⟨#[108, 111, 111, 107]⟩, .string ⟨#[112, 117, 116]⟩, .string ⟨#[115, 119, 97, 112]⟩, .string ⟨#[97, 100, 100]⟩, .string ⟨#[112, 108, 117, 115]⟩, .string ⟨#[114, 101, 97, 99, 104]⟩, .string ⟨#[105, 110]⟩, .string ⟨#[111, 117, 116]⟩, .string ⟨#[101, 110, 111, 117, 103, 104]⟩, .string ⟨#[114, 97, 105, 115, 101]⟩, .string ⟨#[108, 111, 119, 101, 114]⟩, .string ⟨#[115, 104, 105, 102, 116]⟩, .string ⟨#[115, 99, 97, 108, 101]⟩, .string ⟨#[102, 105, 120]⟩, .string ⟨#[106, 111, 105, 110]⟩, .string ⟨#[108, 101, 97, 118, 101]⟩, .string ⟨#[104, 97, 115]⟩, .string ⟨#[111, 102, 102, 101, 114]⟩]).lt
    go_wp2_with fail
    have hcl := cln_trans hcl (show Cln w1 (w1.alloc (.cells #[.string ⟨#[]⟩, .string ⟨#[110, 101, 119]⟩, .string ⟨#[100, 114, 111, 112]⟩, .string ⟨#[105, 115]⟩, .string ⟨#[108, 111, 111, 107]⟩, .string ⟨#[112, 117, 116]⟩, .string ⟨#[115, 119, 97, 112]⟩, .string ⟨#[97, 100, 100]⟩, .string ⟨#[112, 108, 117, 115]⟩, .string ⟨#[114, 101, 97, 99, 104]⟩, .string ⟨#[105, 110]⟩, .string ⟨#[111, 117, 116]⟩, .string ⟨#[101, 110, 111, 117, 103, 104]⟩, .string ⟨#[114, 97, 105, 115, 101]⟩, .string ⟨#[108, 111, 119, 101, 114]⟩, .string ⟨#[115, 104, 105, 102, 116]⟩, .string ⟨#[115, 99, 97, 108, 101]⟩, .string ⟨#[102, 105, 120]⟩, .string ⟨#[106, 111, 105, 110]⟩, .string ⟨#[108, 101, 97, 118, 101]⟩, .string ⟨#[104, 97, 115]⟩, .string ⟨#[111, 102, 102, 101, 114]⟩] 9)) from by (repeat (first | (with_reducible exact Below.refl _ _) | (with_reducible assumption) | (with_reducible refine Below.setCell ?_ (by first | omega | (simp; done) | (simp; omega)) _) | (with_reducible refine Below.alloc ?_ (by first | omega | (simp; done) | (simp; omega)) _) | (with_reducible refine Below.drew ?_) | (with_reducible refine below_drewN ?_ _))))
    clear hce hlt
    refine (name_act (i : Int) _ (hK.cln hcl)).mono ?_; rintro e w2 ⟨rfl, hq⟩
    have hcl := cln_trans hcl hq
    clear hq
    go_wp2_with fail
    refine (on_act (i : Int) _ (hK.cln hcl)).mono ?_; rintro e w3 ⟨rfl, hq⟩
    have hcl := cln_trans hcl hq
    clear hq
    go_wp2_with fail
    refine (ron_any (i : Int) _).mono ?_; rintro e w4 ⟨rfl, hq⟩
    have hcl := cln_trans hcl hq
    clear hq
    go_wp2_with fail
    refine (hR _).mono ?_; rintro e w5 ⟨rfl, hq⟩
    have hcl := cln_trans hcl hq
    clear hq
    go_wp2_with fail
    refine (fields_act (i : Int) c _ (hK.cln hcl)).mono ?_; rintro e w6 ⟨rfl, hq⟩
    have hcl := cln_trans hcl hq
    clear hq
    go_wp2_with fail
    refine (rhas_any (i : Int) c _).mono ?_; rintro e w7 ⟨rfl, hq⟩
    have hcl := cln_trans hcl hq
    clear hq
    go_wp2_with fail
    go_ret
    exact ⟨rfl, hcl⟩
  by_cases e9 : i = 9
  · have tN : (wordOf (i : Int) == wordOf (i : Int)) = true := beq_self_eq_true _
    have tO : (((onOf (i : Int) : Nat) : Int) == ((onOf (i : Int) : Nat) : Int)) = true := beq_self_eq_true _
    have tF : (hasF (i : Int) c == hasF (i : Int) c) = true := beq_self_eq_true _
    have r3 : ((i : Int) == 3) = false := by rw [beq_eq_false_iff_ne]; omega
    have r4 : ((i : Int) == 4) = false := by rw [beq_eq_false_iff_ne]; omega
    have r9 : ((i : Int) == 9) = true := by rw [beq_iff_eq]; omega
    have hRb : readsB (i : Int) = true := by unfold readsB; simp only [r3, r4, r9]; simp
    have hR : ∀ W, Calls Tryd.prog 13 #[.int .i64 (i : Int)] W fun e w' => e = .returned (.bool true) ∧ Cln W w' := fun W => hRb ▸ reads_act (i : Int) W
    clear hRb
    replace e9 := Lib.hid e9
    go_enter Tryd.func3, Tryd.ntmps3
    go_wp2_with fail
    refine (speaks_act _ hK).mono ?_; rintro e w1 ⟨rfl, hcl⟩
    have hce : (w1.alloc (.cells #[.string ⟨#[]⟩, .string ⟨#[110, 101, 119]⟩, .string ⟨#[100, 114, 111, 112]⟩, .string ⟨#[105, 115]⟩, .string ⟨#[108, 111, 111, 107]⟩, .string ⟨#[112, 117, 116]⟩, .string ⟨#[115, 119, 97, 112]⟩, .string ⟨#[97, 100, 100]⟩, .string ⟨#[112, 108, 117, 115]⟩, .string ⟨#[114, 101, 97, 99, 104]⟩, .string ⟨#[105, 110]⟩, .string ⟨#[111, 117, 116]⟩, .string ⟨#[101, 110, 111, 117, 103, 104]⟩, .string ⟨#[114, 97, 105, 115, 101]⟩, .string ⟨#[108, 111, 119, 101, 114]⟩, .string ⟨#[115, 104, 105, 102, 116]⟩, .string ⟨#[115, 99, 97, 108, 101]⟩, .string ⟨#[102, 105, 120]⟩, .string ⟨#[106, 111, 105, 110]⟩, .string ⟨#[108, 101, 97, 118, 101]⟩, .string ⟨#[104, 97, 115]⟩, .string ⟨#[111, 102, 102, 101, 114]⟩] 9)).cell? ⟨w1.heap.size, i, none⟩ = some (.string (str (wordOf (i : Int)))) := ((Blk.new w1 9 #[.string ⟨#[]⟩, .string ⟨#[110, 101, 119]⟩, .string ⟨#[100, 114, 111, 112]⟩, .string ⟨#[105, 115]⟩, .string ⟨#[108, 111, 111, 107]⟩, .string ⟨#[112, 117, 116]⟩, .string ⟨#[115, 119, 97, 112]⟩, .string ⟨#[97, 100, 100]⟩, .string ⟨#[112, 108, 117, 115]⟩, .string ⟨#[114, 101, 97, 99, 104]⟩, .string ⟨#[105, 110]⟩, .string ⟨#[111, 117, 116]⟩, .string ⟨#[101, 110, 111, 117, 103, 104]⟩, .string ⟨#[114, 97, 105, 115, 101]⟩, .string ⟨#[108, 111, 119, 101, 114]⟩, .string ⟨#[115, 104, 105, 102, 116]⟩, .string ⟨#[115, 99, 97, 108, 101]⟩, .string ⟨#[102, 105, 120]⟩, .string ⟨#[106, 111, 105, 110]⟩, .string ⟨#[108, 101, 97, 118, 101]⟩, .string ⟨#[104, 97, 115]⟩, .string ⟨#[111, 102, 102, 101, 114]⟩]).cell i).trans (words_cells i hi)
    have hlt := (Blk.new w1 9 #[.string ⟨#[]⟩, .string ⟨#[110, 101, 119]⟩, .string ⟨#[100, 114, 111, 112]⟩, .string ⟨#[105, 115]⟩, .string ⟨#[108, 111, 111, 107]⟩, .string ⟨#[112, 117, 116]⟩, .string ⟨#[115, 119, 97, 112]⟩, .string ⟨#[97, 100, 100]⟩, .string ⟨#[112, 108, 117, 115]⟩, .string ⟨#[114, 101, 97, 99, 104]⟩, .string ⟨#[105, 110]⟩, .string ⟨#[111, 117, 116]⟩, .string ⟨#[101, 110, 111, 117, 103, 104]⟩, .string ⟨#[114, 97, 105, 115, 101]⟩, .string ⟨#[108, 111, 119, 101, 114]⟩, .string ⟨#[115, 104, 105, 102, 116]⟩, .string ⟨#[115, 99, 97, 108, 101]⟩, .string ⟨#[102, 105, 120]⟩, .string ⟨#[106, 111, 105, 110]⟩, .string ⟨#[108, 101, 97, 118, 101]⟩, .string ⟨#[104, 97, 115]⟩, .string ⟨#[111, 102, 102, 101, 114]⟩]).lt
    go_wp2_with fail
    have hcl := cln_trans hcl (show Cln w1 (w1.alloc (.cells #[.string ⟨#[]⟩, .string ⟨#[110, 101, 119]⟩, .string ⟨#[100, 114, 111, 112]⟩, .string ⟨#[105, 115]⟩, .string ⟨#[108, 111, 111, 107]⟩, .string ⟨#[112, 117, 116]⟩, .string ⟨#[115, 119, 97, 112]⟩, .string ⟨#[97, 100, 100]⟩, .string ⟨#[112, 108, 117, 115]⟩, .string ⟨#[114, 101, 97, 99, 104]⟩, .string ⟨#[105, 110]⟩, .string ⟨#[111, 117, 116]⟩, .string ⟨#[101, 110, 111, 117, 103, 104]⟩, .string ⟨#[114, 97, 105, 115, 101]⟩, .string ⟨#[108, 111, 119, 101, 114]⟩, .string ⟨#[115, 104, 105, 102, 116]⟩, .string ⟨#[115, 99, 97, 108, 101]⟩, .string ⟨#[102, 105, 120]⟩, .string ⟨#[106, 111, 105, 110]⟩, .string ⟨#[108, 101, 97, 118, 101]⟩, .string ⟨#[104, 97, 115]⟩, .string ⟨#[111, 102, 102, 101, 114]⟩] 9)) from by (repeat (first | (with_reducible exact Below.refl _ _) | (with_reducible assumption) | (with_reducible refine Below.setCell ?_ (by first | omega | (simp; done) | (simp; omega)) _) | (with_reducible refine Below.alloc ?_ (by first | omega | (simp; done) | (simp; omega)) _) | (with_reducible refine Below.drew ?_) | (with_reducible refine below_drewN ?_ _))))
    clear hce hlt
    refine (name_act (i : Int) _ (hK.cln hcl)).mono ?_; rintro e w2 ⟨rfl, hq⟩
    have hcl := cln_trans hcl hq
    clear hq
    go_wp2_with fail
    refine (on_act (i : Int) _ (hK.cln hcl)).mono ?_; rintro e w3 ⟨rfl, hq⟩
    have hcl := cln_trans hcl hq
    clear hq
    go_wp2_with fail
    refine (ron_any (i : Int) _).mono ?_; rintro e w4 ⟨rfl, hq⟩
    have hcl := cln_trans hcl hq
    clear hq
    go_wp2_with fail
    refine (hR _).mono ?_; rintro e w5 ⟨rfl, hq⟩
    have hcl := cln_trans hcl hq
    clear hq
    go_wp2_with fail
    refine (fields_act (i : Int) c _ (hK.cln hcl)).mono ?_; rintro e w6 ⟨rfl, hq⟩
    have hcl := cln_trans hcl hq
    clear hq
    go_wp2_with fail
    refine (rhas_any (i : Int) c _).mono ?_; rintro e w7 ⟨rfl, hq⟩
    have hcl := cln_trans hcl hq
    clear hq
    go_wp2_with fail
    go_ret
    exact ⟨rfl, hcl⟩
  by_cases e12 : i = 12
  · have tN : (wordOf (i : Int) == wordOf (i : Int)) = true := beq_self_eq_true _
    have tO : (((onOf (i : Int) : Nat) : Int) == ((onOf (i : Int) : Nat) : Int)) = true := beq_self_eq_true _
    have tF : (hasF (i : Int) c == hasF (i : Int) c) = true := beq_self_eq_true _
    have r3 : ((i : Int) == 3) = false := by rw [beq_eq_false_iff_ne]; omega
    have r4 : ((i : Int) == 4) = false := by rw [beq_eq_false_iff_ne]; omega
    have r9 : ((i : Int) == 9) = false := by rw [beq_eq_false_iff_ne]; omega
    have r12 : ((i : Int) == 12) = true := by rw [beq_iff_eq]; omega
    have hRb : readsB (i : Int) = true := by unfold readsB; simp only [r3, r4, r9, r12]; simp
    have hR : ∀ W, Calls Tryd.prog 13 #[.int .i64 (i : Int)] W fun e w' => e = .returned (.bool true) ∧ Cln W w' := fun W => hRb ▸ reads_act (i : Int) W
    clear hRb
    replace e12 := Lib.hid e12
    go_enter Tryd.func3, Tryd.ntmps3
    go_wp2_with fail
    refine (speaks_act _ hK).mono ?_; rintro e w1 ⟨rfl, hcl⟩
    have hce : (w1.alloc (.cells #[.string ⟨#[]⟩, .string ⟨#[110, 101, 119]⟩, .string ⟨#[100, 114, 111, 112]⟩, .string ⟨#[105, 115]⟩, .string ⟨#[108, 111, 111, 107]⟩, .string ⟨#[112, 117, 116]⟩, .string ⟨#[115, 119, 97, 112]⟩, .string ⟨#[97, 100, 100]⟩, .string ⟨#[112, 108, 117, 115]⟩, .string ⟨#[114, 101, 97, 99, 104]⟩, .string ⟨#[105, 110]⟩, .string ⟨#[111, 117, 116]⟩, .string ⟨#[101, 110, 111, 117, 103, 104]⟩, .string ⟨#[114, 97, 105, 115, 101]⟩, .string ⟨#[108, 111, 119, 101, 114]⟩, .string ⟨#[115, 104, 105, 102, 116]⟩, .string ⟨#[115, 99, 97, 108, 101]⟩, .string ⟨#[102, 105, 120]⟩, .string ⟨#[106, 111, 105, 110]⟩, .string ⟨#[108, 101, 97, 118, 101]⟩, .string ⟨#[104, 97, 115]⟩, .string ⟨#[111, 102, 102, 101, 114]⟩] 9)).cell? ⟨w1.heap.size, i, none⟩ = some (.string (str (wordOf (i : Int)))) := ((Blk.new w1 9 #[.string ⟨#[]⟩, .string ⟨#[110, 101, 119]⟩, .string ⟨#[100, 114, 111, 112]⟩, .string ⟨#[105, 115]⟩, .string ⟨#[108, 111, 111, 107]⟩, .string ⟨#[112, 117, 116]⟩, .string ⟨#[115, 119, 97, 112]⟩, .string ⟨#[97, 100, 100]⟩, .string ⟨#[112, 108, 117, 115]⟩, .string ⟨#[114, 101, 97, 99, 104]⟩, .string ⟨#[105, 110]⟩, .string ⟨#[111, 117, 116]⟩, .string ⟨#[101, 110, 111, 117, 103, 104]⟩, .string ⟨#[114, 97, 105, 115, 101]⟩, .string ⟨#[108, 111, 119, 101, 114]⟩, .string ⟨#[115, 104, 105, 102, 116]⟩, .string ⟨#[115, 99, 97, 108, 101]⟩, .string ⟨#[102, 105, 120]⟩, .string ⟨#[106, 111, 105, 110]⟩, .string ⟨#[108, 101, 97, 118, 101]⟩, .string ⟨#[104, 97, 115]⟩, .string ⟨#[111, 102, 102, 101, 114]⟩]).cell i).trans (words_cells i hi)
    have hlt := (Blk.new w1 9 #[.string ⟨#[]⟩, .string ⟨#[110, 101, 119]⟩, .string ⟨#[100, 114, 111, 112]⟩, .string ⟨#[105, 115]⟩, .string ⟨#[108, 111, 111, 107]⟩, .string ⟨#[112, 117, 116]⟩, .string ⟨#[115, 119, 97, 112]⟩, .string ⟨#[97, 100, 100]⟩, .string ⟨#[112, 108, 117, 115]⟩, .string ⟨#[114, 101, 97, 99, 104]⟩, .string ⟨#[105, 110]⟩, .string ⟨#[111, 117, 116]⟩, .string ⟨#[101, 110, 111, 117, 103, 104]⟩, .string ⟨#[114, 97, 105, 115, 101]⟩, .string ⟨#[108, 111, 119, 101, 114]⟩, .string ⟨#[115, 104, 105, 102, 116]⟩, .string ⟨#[115, 99, 97, 108, 101]⟩, .string ⟨#[102, 105, 120]⟩, .string ⟨#[106, 111, 105, 110]⟩, .string ⟨#[108, 101, 97, 118, 101]⟩, .string ⟨#[104, 97, 115]⟩, .string ⟨#[111, 102, 102, 101, 114]⟩]).lt
    go_wp2_with fail
    have hcl := cln_trans hcl (show Cln w1 (w1.alloc (.cells #[.string ⟨#[]⟩, .string ⟨#[110, 101, 119]⟩, .string ⟨#[100, 114, 111, 112]⟩, .string ⟨#[105, 115]⟩, .string ⟨#[108, 111, 111, 107]⟩, .string ⟨#[112, 117, 116]⟩, .string ⟨#[115, 119, 97, 112]⟩, .string ⟨#[97, 100, 100]⟩, .string ⟨#[112, 108, 117, 115]⟩, .string ⟨#[114, 101, 97, 99, 104]⟩, .string ⟨#[105, 110]⟩, .string ⟨#[111, 117, 116]⟩, .string ⟨#[101, 110, 111, 117, 103, 104]⟩, .string ⟨#[114, 97, 105, 115, 101]⟩, .string ⟨#[108, 111, 119, 101, 114]⟩, .string ⟨#[115, 104, 105, 102, 116]⟩, .string ⟨#[115, 99, 97, 108, 101]⟩, .string ⟨#[102, 105, 120]⟩, .string ⟨#[106, 111, 105, 110]⟩, .string ⟨#[108, 101, 97, 118, 101]⟩, .string ⟨#[104, 97, 115]⟩, .string ⟨#[111, 102, 102, 101, 114]⟩] 9)) from by (repeat (first | (with_reducible exact Below.refl _ _) | (with_reducible assumption) | (with_reducible refine Below.setCell ?_ (by first | omega | (simp; done) | (simp; omega)) _) | (with_reducible refine Below.alloc ?_ (by first | omega | (simp; done) | (simp; omega)) _) | (with_reducible refine Below.drew ?_) | (with_reducible refine below_drewN ?_ _))))
    clear hce hlt
    refine (name_act (i : Int) _ (hK.cln hcl)).mono ?_; rintro e w2 ⟨rfl, hq⟩
    have hcl := cln_trans hcl hq
    clear hq
    go_wp2_with fail
    refine (on_act (i : Int) _ (hK.cln hcl)).mono ?_; rintro e w3 ⟨rfl, hq⟩
    have hcl := cln_trans hcl hq
    clear hq
    go_wp2_with fail
    refine (ron_any (i : Int) _).mono ?_; rintro e w4 ⟨rfl, hq⟩
    have hcl := cln_trans hcl hq
    clear hq
    go_wp2_with fail
    refine (hR _).mono ?_; rintro e w5 ⟨rfl, hq⟩
    have hcl := cln_trans hcl hq
    clear hq
    go_wp2_with fail
    refine (fields_act (i : Int) c _ (hK.cln hcl)).mono ?_; rintro e w6 ⟨rfl, hq⟩
    have hcl := cln_trans hcl hq
    clear hq
    go_wp2_with fail
    refine (rhas_any (i : Int) c _).mono ?_; rintro e w7 ⟨rfl, hq⟩
    have hcl := cln_trans hcl hq
    clear hq
    go_wp2_with fail
    go_ret
    exact ⟨rfl, hcl⟩
  by_cases e20 : i = 20
  · have tN : (wordOf (i : Int) == wordOf (i : Int)) = true := beq_self_eq_true _
    have tO : (((onOf (i : Int) : Nat) : Int) == ((onOf (i : Int) : Nat) : Int)) = true := beq_self_eq_true _
    have tF : (hasF (i : Int) c == hasF (i : Int) c) = true := beq_self_eq_true _
    have r3 : ((i : Int) == 3) = false := by rw [beq_eq_false_iff_ne]; omega
    have r4 : ((i : Int) == 4) = false := by rw [beq_eq_false_iff_ne]; omega
    have r9 : ((i : Int) == 9) = false := by rw [beq_eq_false_iff_ne]; omega
    have r12 : ((i : Int) == 12) = false := by rw [beq_eq_false_iff_ne]; omega
    have r20 : ((i : Int) == 20) = true := by rw [beq_iff_eq]; omega
    have hRb : readsB (i : Int) = true := by unfold readsB; simp only [r3, r4, r9, r12, r20]; simp
    have hR : ∀ W, Calls Tryd.prog 13 #[.int .i64 (i : Int)] W fun e w' => e = .returned (.bool true) ∧ Cln W w' := fun W => hRb ▸ reads_act (i : Int) W
    clear hRb
    replace e20 := Lib.hid e20
    go_enter Tryd.func3, Tryd.ntmps3
    go_wp2_with fail
    refine (speaks_act _ hK).mono ?_; rintro e w1 ⟨rfl, hcl⟩
    have hce : (w1.alloc (.cells #[.string ⟨#[]⟩, .string ⟨#[110, 101, 119]⟩, .string ⟨#[100, 114, 111, 112]⟩, .string ⟨#[105, 115]⟩, .string ⟨#[108, 111, 111, 107]⟩, .string ⟨#[112, 117, 116]⟩, .string ⟨#[115, 119, 97, 112]⟩, .string ⟨#[97, 100, 100]⟩, .string ⟨#[112, 108, 117, 115]⟩, .string ⟨#[114, 101, 97, 99, 104]⟩, .string ⟨#[105, 110]⟩, .string ⟨#[111, 117, 116]⟩, .string ⟨#[101, 110, 111, 117, 103, 104]⟩, .string ⟨#[114, 97, 105, 115, 101]⟩, .string ⟨#[108, 111, 119, 101, 114]⟩, .string ⟨#[115, 104, 105, 102, 116]⟩, .string ⟨#[115, 99, 97, 108, 101]⟩, .string ⟨#[102, 105, 120]⟩, .string ⟨#[106, 111, 105, 110]⟩, .string ⟨#[108, 101, 97, 118, 101]⟩, .string ⟨#[104, 97, 115]⟩, .string ⟨#[111, 102, 102, 101, 114]⟩] 9)).cell? ⟨w1.heap.size, i, none⟩ = some (.string (str (wordOf (i : Int)))) := ((Blk.new w1 9 #[.string ⟨#[]⟩, .string ⟨#[110, 101, 119]⟩, .string ⟨#[100, 114, 111, 112]⟩, .string ⟨#[105, 115]⟩, .string ⟨#[108, 111, 111, 107]⟩, .string ⟨#[112, 117, 116]⟩, .string ⟨#[115, 119, 97, 112]⟩, .string ⟨#[97, 100, 100]⟩, .string ⟨#[112, 108, 117, 115]⟩, .string ⟨#[114, 101, 97, 99, 104]⟩, .string ⟨#[105, 110]⟩, .string ⟨#[111, 117, 116]⟩, .string ⟨#[101, 110, 111, 117, 103, 104]⟩, .string ⟨#[114, 97, 105, 115, 101]⟩, .string ⟨#[108, 111, 119, 101, 114]⟩, .string ⟨#[115, 104, 105, 102, 116]⟩, .string ⟨#[115, 99, 97, 108, 101]⟩, .string ⟨#[102, 105, 120]⟩, .string ⟨#[106, 111, 105, 110]⟩, .string ⟨#[108, 101, 97, 118, 101]⟩, .string ⟨#[104, 97, 115]⟩, .string ⟨#[111, 102, 102, 101, 114]⟩]).cell i).trans (words_cells i hi)
    have hlt := (Blk.new w1 9 #[.string ⟨#[]⟩, .string ⟨#[110, 101, 119]⟩, .string ⟨#[100, 114, 111, 112]⟩, .string ⟨#[105, 115]⟩, .string ⟨#[108, 111, 111, 107]⟩, .string ⟨#[112, 117, 116]⟩, .string ⟨#[115, 119, 97, 112]⟩, .string ⟨#[97, 100, 100]⟩, .string ⟨#[112, 108, 117, 115]⟩, .string ⟨#[114, 101, 97, 99, 104]⟩, .string ⟨#[105, 110]⟩, .string ⟨#[111, 117, 116]⟩, .string ⟨#[101, 110, 111, 117, 103, 104]⟩, .string ⟨#[114, 97, 105, 115, 101]⟩, .string ⟨#[108, 111, 119, 101, 114]⟩, .string ⟨#[115, 104, 105, 102, 116]⟩, .string ⟨#[115, 99, 97, 108, 101]⟩, .string ⟨#[102, 105, 120]⟩, .string ⟨#[106, 111, 105, 110]⟩, .string ⟨#[108, 101, 97, 118, 101]⟩, .string ⟨#[104, 97, 115]⟩, .string ⟨#[111, 102, 102, 101, 114]⟩]).lt
    go_wp2_with fail
    have hcl := cln_trans hcl (show Cln w1 (w1.alloc (.cells #[.string ⟨#[]⟩, .string ⟨#[110, 101, 119]⟩, .string ⟨#[100, 114, 111, 112]⟩, .string ⟨#[105, 115]⟩, .string ⟨#[108, 111, 111, 107]⟩, .string ⟨#[112, 117, 116]⟩, .string ⟨#[115, 119, 97, 112]⟩, .string ⟨#[97, 100, 100]⟩, .string ⟨#[112, 108, 117, 115]⟩, .string ⟨#[114, 101, 97, 99, 104]⟩, .string ⟨#[105, 110]⟩, .string ⟨#[111, 117, 116]⟩, .string ⟨#[101, 110, 111, 117, 103, 104]⟩, .string ⟨#[114, 97, 105, 115, 101]⟩, .string ⟨#[108, 111, 119, 101, 114]⟩, .string ⟨#[115, 104, 105, 102, 116]⟩, .string ⟨#[115, 99, 97, 108, 101]⟩, .string ⟨#[102, 105, 120]⟩, .string ⟨#[106, 111, 105, 110]⟩, .string ⟨#[108, 101, 97, 118, 101]⟩, .string ⟨#[104, 97, 115]⟩, .string ⟨#[111, 102, 102, 101, 114]⟩] 9)) from by (repeat (first | (with_reducible exact Below.refl _ _) | (with_reducible assumption) | (with_reducible refine Below.setCell ?_ (by first | omega | (simp; done) | (simp; omega)) _) | (with_reducible refine Below.alloc ?_ (by first | omega | (simp; done) | (simp; omega)) _) | (with_reducible refine Below.drew ?_) | (with_reducible refine below_drewN ?_ _))))
    clear hce hlt
    refine (name_act (i : Int) _ (hK.cln hcl)).mono ?_; rintro e w2 ⟨rfl, hq⟩
    have hcl := cln_trans hcl hq
    clear hq
    go_wp2_with fail
    refine (on_act (i : Int) _ (hK.cln hcl)).mono ?_; rintro e w3 ⟨rfl, hq⟩
    have hcl := cln_trans hcl hq
    clear hq
    go_wp2_with fail
    refine (ron_any (i : Int) _).mono ?_; rintro e w4 ⟨rfl, hq⟩
    have hcl := cln_trans hcl hq
    clear hq
    go_wp2_with fail
    refine (hR _).mono ?_; rintro e w5 ⟨rfl, hq⟩
    have hcl := cln_trans hcl hq
    clear hq
    go_wp2_with fail
    refine (fields_act (i : Int) c _ (hK.cln hcl)).mono ?_; rintro e w6 ⟨rfl, hq⟩
    have hcl := cln_trans hcl hq
    clear hq
    go_wp2_with fail
    refine (rhas_any (i : Int) c _).mono ?_; rintro e w7 ⟨rfl, hq⟩
    have hcl := cln_trans hcl hq
    clear hq
    go_wp2_with fail
    go_ret
    exact ⟨rfl, hcl⟩
  have tN : (wordOf (i : Int) == wordOf (i : Int)) = true := beq_self_eq_true _
  have tO : (((onOf (i : Int) : Nat) : Int) == ((onOf (i : Int) : Nat) : Int)) = true := beq_self_eq_true _
  have tF : (hasF (i : Int) c == hasF (i : Int) c) = true := beq_self_eq_true _
  have r3 : ((i : Int) == 3) = false := by rw [beq_eq_false_iff_ne]; omega
  have r4 : ((i : Int) == 4) = false := by rw [beq_eq_false_iff_ne]; omega
  have r9 : ((i : Int) == 9) = false := by rw [beq_eq_false_iff_ne]; omega
  have r12 : ((i : Int) == 12) = false := by rw [beq_eq_false_iff_ne]; omega
  have r20 : ((i : Int) == 20) = false := by rw [beq_eq_false_iff_ne]; omega
  have hRb : readsB (i : Int) = false := by unfold readsB; simp only [r3, r4, r9, r12, r20]; rfl
  have hR : ∀ W, Calls Tryd.prog 13 #[.int .i64 (i : Int)] W fun e w' => e = .returned (.bool false) ∧ Cln W w' := fun W => hRb ▸ reads_act (i : Int) W
  clear hRb
  go_enter Tryd.func3, Tryd.ntmps3
  go_wp2_with fail
  refine (speaks_act _ hK).mono ?_; rintro e w1 ⟨rfl, hcl⟩
  have hce : (w1.alloc (.cells #[.string ⟨#[]⟩, .string ⟨#[110, 101, 119]⟩, .string ⟨#[100, 114, 111, 112]⟩, .string ⟨#[105, 115]⟩, .string ⟨#[108, 111, 111, 107]⟩, .string ⟨#[112, 117, 116]⟩, .string ⟨#[115, 119, 97, 112]⟩, .string ⟨#[97, 100, 100]⟩, .string ⟨#[112, 108, 117, 115]⟩, .string ⟨#[114, 101, 97, 99, 104]⟩, .string ⟨#[105, 110]⟩, .string ⟨#[111, 117, 116]⟩, .string ⟨#[101, 110, 111, 117, 103, 104]⟩, .string ⟨#[114, 97, 105, 115, 101]⟩, .string ⟨#[108, 111, 119, 101, 114]⟩, .string ⟨#[115, 104, 105, 102, 116]⟩, .string ⟨#[115, 99, 97, 108, 101]⟩, .string ⟨#[102, 105, 120]⟩, .string ⟨#[106, 111, 105, 110]⟩, .string ⟨#[108, 101, 97, 118, 101]⟩, .string ⟨#[104, 97, 115]⟩, .string ⟨#[111, 102, 102, 101, 114]⟩] 9)).cell? ⟨w1.heap.size, i, none⟩ = some (.string (str (wordOf (i : Int)))) := ((Blk.new w1 9 #[.string ⟨#[]⟩, .string ⟨#[110, 101, 119]⟩, .string ⟨#[100, 114, 111, 112]⟩, .string ⟨#[105, 115]⟩, .string ⟨#[108, 111, 111, 107]⟩, .string ⟨#[112, 117, 116]⟩, .string ⟨#[115, 119, 97, 112]⟩, .string ⟨#[97, 100, 100]⟩, .string ⟨#[112, 108, 117, 115]⟩, .string ⟨#[114, 101, 97, 99, 104]⟩, .string ⟨#[105, 110]⟩, .string ⟨#[111, 117, 116]⟩, .string ⟨#[101, 110, 111, 117, 103, 104]⟩, .string ⟨#[114, 97, 105, 115, 101]⟩, .string ⟨#[108, 111, 119, 101, 114]⟩, .string ⟨#[115, 104, 105, 102, 116]⟩, .string ⟨#[115, 99, 97, 108, 101]⟩, .string ⟨#[102, 105, 120]⟩, .string ⟨#[106, 111, 105, 110]⟩, .string ⟨#[108, 101, 97, 118, 101]⟩, .string ⟨#[104, 97, 115]⟩, .string ⟨#[111, 102, 102, 101, 114]⟩]).cell i).trans (words_cells i hi)
  have hlt := (Blk.new w1 9 #[.string ⟨#[]⟩, .string ⟨#[110, 101, 119]⟩, .string ⟨#[100, 114, 111, 112]⟩, .string ⟨#[105, 115]⟩, .string ⟨#[108, 111, 111, 107]⟩, .string ⟨#[112, 117, 116]⟩, .string ⟨#[115, 119, 97, 112]⟩, .string ⟨#[97, 100, 100]⟩, .string ⟨#[112, 108, 117, 115]⟩, .string ⟨#[114, 101, 97, 99, 104]⟩, .string ⟨#[105, 110]⟩, .string ⟨#[111, 117, 116]⟩, .string ⟨#[101, 110, 111, 117, 103, 104]⟩, .string ⟨#[114, 97, 105, 115, 101]⟩, .string ⟨#[108, 111, 119, 101, 114]⟩, .string ⟨#[115, 104, 105, 102, 116]⟩, .string ⟨#[115, 99, 97, 108, 101]⟩, .string ⟨#[102, 105, 120]⟩, .string ⟨#[106, 111, 105, 110]⟩, .string ⟨#[108, 101, 97, 118, 101]⟩, .string ⟨#[104, 97, 115]⟩, .string ⟨#[111, 102, 102, 101, 114]⟩]).lt
  go_wp2_with fail
  have hcl := cln_trans hcl (show Cln w1 (w1.alloc (.cells #[.string ⟨#[]⟩, .string ⟨#[110, 101, 119]⟩, .string ⟨#[100, 114, 111, 112]⟩, .string ⟨#[105, 115]⟩, .string ⟨#[108, 111, 111, 107]⟩, .string ⟨#[112, 117, 116]⟩, .string ⟨#[115, 119, 97, 112]⟩, .string ⟨#[97, 100, 100]⟩, .string ⟨#[112, 108, 117, 115]⟩, .string ⟨#[114, 101, 97, 99, 104]⟩, .string ⟨#[105, 110]⟩, .string ⟨#[111, 117, 116]⟩, .string ⟨#[101, 110, 111, 117, 103, 104]⟩, .string ⟨#[114, 97, 105, 115, 101]⟩, .string ⟨#[108, 111, 119, 101, 114]⟩, .string ⟨#[115, 104, 105, 102, 116]⟩, .string ⟨#[115, 99, 97, 108, 101]⟩, .string ⟨#[102, 105, 120]⟩, .string ⟨#[106, 111, 105, 110]⟩, .string ⟨#[108, 101, 97, 118, 101]⟩, .string ⟨#[104, 97, 115]⟩, .string ⟨#[111, 102, 102, 101, 114]⟩] 9)) from by (repeat (first | (with_reducible exact Below.refl _ _) | (with_reducible assumption) | (with_reducible refine Below.setCell ?_ (by first | omega | (simp; done) | (simp; omega)) _) | (with_reducible refine Below.alloc ?_ (by first | omega | (simp; done) | (simp; omega)) _) | (with_reducible refine Below.drew ?_) | (with_reducible refine below_drewN ?_ _))))
  clear hce hlt
  refine (name_act (i : Int) _ (hK.cln hcl)).mono ?_; rintro e w2 ⟨rfl, hq⟩
  have hcl := cln_trans hcl hq
  clear hq
  go_wp2_with fail
  refine (on_act (i : Int) _ (hK.cln hcl)).mono ?_; rintro e w3 ⟨rfl, hq⟩
  have hcl := cln_trans hcl hq
  clear hq
  go_wp2_with fail
  refine (ron_any (i : Int) _).mono ?_; rintro e w4 ⟨rfl, hq⟩
  have hcl := cln_trans hcl hq
  clear hq
  go_wp2_with fail
  refine (hR _).mono ?_; rintro e w5 ⟨rfl, hq⟩
  have hcl := cln_trans hcl hq
  clear hq
  go_wp2_with fail
  refine (fields_act (i : Int) c _ (hK.cln hcl)).mono ?_; rintro e w6 ⟨rfl, hq⟩
  have hcl := cln_trans hcl hq
  clear hq
  go_wp2_with fail
  refine (rhas_any (i : Int) c _).mono ?_; rintro e w7 ⟨rfl, hq⟩
  have hcl := cln_trans hcl hq
  clear hq
  go_wp2_with fail
  go_ret
  exact ⟨rfl, hcl⟩
end Go.Proofs.YtocllhghbmbjpaaDoor
