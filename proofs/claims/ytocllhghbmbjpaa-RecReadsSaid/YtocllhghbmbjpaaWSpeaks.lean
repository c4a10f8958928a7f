/- The walk of the law's speaks. -/
import Derived.Test.YtocllhghbmbjpaaSpeak
import Derived.Test.YtocllhghbmbjpaaWName
set_option linter.unusedSimpArgs false
set_option linter.unusedVariables false
set_option maxRecDepth 20000
namespace Go.Proofs.Ytocllhghbmbjpaa
open Go.RowKit Moi
attribute [local go_sem] toList_str str_size less_ltB store_float

theorem conv_all {W : World} {A : Option Addr} {n : Nat} {bs : List UInt8} (h : RdBytes W A n bs) (c : Nat) :
    (convert 33 9 (.slice A n c)).run Try.prog W = .ok (.string (str bs)) W := by
  have hb := h.len
  by_cases hn : n = 0
  · subst hn
    obtain rfl := List.eq_nil_of_length_eq_zero hb
    rcases A with _ | ⟨b, o, sp⟩
    · exact run_convert_bytes_nil W 33 5 Try.underlying33 Try.underlying5 _ _ 9 Try.underlying9
    · have := h.spot _ rfl; dsimp at this; subst this
      exact conv_at W b o 0 _ [] rfl (fun i hi => by omega)
  · obtain ⟨b, o, rfl, _, hc⟩ := h.cells (by omega)
    exact conv_at W b o n c bs hb hc
theorem items_one {W : World} {g : Nat} {s : Nat} {nm : List UInt8} (h : Blk W g 45 #[.float .f64 s, .string (str nm)]) (hs : s < 18446744073709551616) : RdItems W (some ⟨g, 0, none⟩) 1 [⟨s, nm⟩] := by
  refine ⟨rfl, fun i => ?_, fun _ => ⟨g, 0, rfl, h.lt, fun i hi => ?_⟩⟩
  · rcases i with _ | i
    · exact hs
    · simp [itAt]
  · obtain rfl : i = 0 := by omega
    exact ⟨h.cell 0, h.cell 1⟩
theorem newBytes_ok {w w' : World} {A : Option Addr} {n c : Nat} {bs : List UInt8} (h : w'.ownsRow w.heap.size 5 1 (.slice A n c) n (byteVals bs)) :
    RdBytes w' A n bs ∧ n ≤ c ∧ n = bs.length ∧ ∀ ad, A = some ad → ad.block < w'.heap.size ∧ w.heap.size ≤ ad.block := by
  obtain ⟨A2, c2, hv, hA, hn, hc⟩ := own_form h
  injection hv with h1 h2 h3
  subst h1; subst h3
  exact ⟨own_rd h, hn, (own_rd h).len.symm, fun ad e => ⟨(hA ad e).2.2.2, (hA ad e).2.2.1⟩⟩
theorem spA_wf : spA.WF := by constructor <;> decide
theorem spC_wf : spC.WF := by constructor <;> decide
set_option maxHeartbeats 4000000 in
theorem speaks_any (w : World) : Calls Try.prog 9 #[] w fun e w' => e = .returned (.bool true) ∧ Cln w w' := by
  have hfe : ∀ W : World, (binOp .eql 36 (.agg #[.int .i64 0, .int .i64 0]) (.agg #[.int .i64 0, .int .i64 0])).run Try.prog W = .ok (.bool true) W := fun W => by kernel_rfl
  have hI0 : RdItems ((w.alloc (.cells #[.float .f64 0, .string ⟨#[97]⟩] 45)).alloc (.cells #[.int .i64 8, .int .i64 0, .int .i64 0, .int .i64 0, .float .f64 0, .int .i64 2, .string ⟨#[]⟩, .slice (some ⟨w.heap.size, 0, none⟩) 1 1] 25)) (some ⟨w.heap.size, 0, none⟩) 1 spA.list := items_one (nm := [97]) ((Blk.new w 45 #[.float .f64 0, .string ⟨#[97]⟩]).alloc _) (by decide)
  have hb0 : Blk ((w.alloc (.cells #[.float .f64 0, .string ⟨#[97]⟩] 45)).alloc (.cells #[.int .i64 8, .int .i64 0, .int .i64 0, .int .i64 0, .float .f64 0, .int .i64 2, .string ⟨#[]⟩, .slice (some ⟨w.heap.size, 0, none⟩) 1 1] 25)) (w.heap.size + 1) 25 #[.int .i64 8, .int .i64 0, .int .i64 0, .int .i64 0, .float .f64 0, .int .i64 2, .string ⟨#[]⟩, .slice (some ⟨w.heap.size, 0, none⟩) 1 1] := by
    have := Blk.new (w.alloc (.cells #[.float .f64 0, .string ⟨#[97]⟩] 45)) 25 #[.int .i64 8, .int .i64 0, .int .i64 0, .int .i64 0, .float .f64 0, .int .i64 2, .string ⟨#[]⟩, .slice (some ⟨w.heap.size, 0, none⟩) 1 1]
    simp only [World.size_alloc] at this
    exact this
  have hcl0 : Cln w ((w.alloc (.cells #[.float .f64 0, .string ⟨#[97]⟩] 45)).alloc (.cells #[.int .i64 8, .int .i64 0, .int .i64 0, .int .i64 0, .float .f64 0, .int .i64 2, .string ⟨#[]⟩, .slice (some ⟨w.heap.size, 0, none⟩) 1 1] 25)) := by (repeat (first | (with_reducible exact Below.refl _ _) | (with_reducible assumption) | (with_reducible refine Below.setCell ?_ (by first | omega | (simp; done) | (simp; omega)) _) | (with_reducible refine Below.alloc ?_ (by first | omega | (simp; done) | (simp; omega)) _) | (with_reducible refine Below.drew ?_) | (with_reducible refine below_drewN ?_ _)))
  go_enter Try.func9, Try.ntmps9
  go_wp2_with fail
  refine (bytes_rec spA spA_wf (some ⟨w.heap.size, 0, none⟩) 1 1 (by omega) _ hI0).mono ?_
  rintro e w1 ⟨A, c, n, hn, rfl, hown, hcl1⟩
  have hbs : recBytes spA = [8, 2, 1, 1, 97] := by unfold recBytes; rw [if_pos spA_check, spA_w]
  rw [hbs] at hown
  obtain ⟨hrd, hnc, hc, hA⟩ := newBytes_ok hown
  have hn5 : n ≤ 140737488355328 := by simp at hc; omega
  clear hc
  have hI1 := hI0.cln hcl1
  have hb1 := hb0.cln hcl1
  have hclA := cln_trans hcl0 hcl1
  have hsz1 := hb1.lt
  have hA' := Lib.hid hA
  clear hI0 hb0 hcl0 hcl1 hn hown hbs hA
  go_wp2_with fail
  refine (read_any A n c [8, 2, 1, 1, 97] w1 hrd hnc hn5 (fun ad e => (hA'.out ad e).1)).mono ?_
  rw [spA_r]
  rintro e w2 ⟨AL, nL, cL, rfl, hIL, hgeL, hwL, hn32, hcl2⟩
  have hcl3 : Cln w2 ((w2.alloc (.cells #[.int .i64 8, .int .i64 0, .int .i64 0, .int .i64 0, .float .f64 0, .int .i64 2, .string ⟨#[]⟩, .slice AL nL cL] 25)).alloc (.cells #[.int .i64 0, .int .i64 0] 36)) := by (repeat (first | (with_reducible exact Below.refl _ _) | (with_reducible assumption) | (with_reducible refine Below.setCell ?_ (by first | omega | (simp; done) | (simp; omega)) _) | (with_reducible refine Below.alloc ?_ (by first | omega | (simp; done) | (simp; omega)) _) | (with_reducible refine Below.drew ?_) | (with_reducible refine below_drewN ?_ _)))
  have hI3 := (hI1.cln hcl2).cln hcl3
  have hb3 := (hb1.cln hcl2).cln hcl3
  have hIL3 : RdItems _ AL nL spA.list := RdItems.cln hIL hcl3
  have hrd3 := (hrd.cln hcl2).cln hcl3
  have hcv := conv_all hrd3 c
  have hclB := cln_trans (cln_trans hclA hcl2) hcl3
  have hsz2 : w.heap.size + 1 < w2.heap.size := by have := hcl2.size; omega
  have hbx := (Blk.new w2 25 #[.int .i64 8, .int .i64 0, .int .i64 0, .int .i64 0, .float .f64 0, .int .i64 2, .string ⟨#[]⟩, .slice AL nL cL]).alloc (.cells #[.int .i64 0, .int .i64 0] 36)
  have hc3 := hb3.cell
  have hcx := hbx.cell
  clear hI1 hb1 hcl2 hcl3 hrd hgeL hwL hIL
  rw [show recVal spA AL nL cL = .agg #[.int .i64 8, .int .i64 0, .int .i64 0, .int .i64 0, .float .f64 0, .int .i64 2, .string ⟨#[]⟩, .slice AL nL cL] from rfl, show faultAgg (0, 0) = .agg #[.int .i64 0, .int .i64 0] from rfl]
  go_wp2_with (first | simp only [hcv] | simp only [hfe])
  have hs := same_any spA spA AL (some ⟨w.heap.size, 0, none⟩) nL cL 1 1 _ hIL3 hI3 (by omega) (by omega) (by decide) (by decide)
  rw [show recVal spA AL nL cL = .agg #[.int .i64 8, .int .i64 0, .int .i64 0, .int .i64 0, .float .f64 0, .int .i64 2, .string ⟨#[]⟩, .slice AL nL cL] from rfl, show recVal spA (some ⟨w.heap.size, 0, none⟩) 1 1 = .agg #[.int .i64 8, .int .i64 0, .int .i64 0, .int .i64 0, .float .f64 0, .int .i64 2, .string ⟨#[]⟩, .slice (some ⟨w.heap.size, 0, none⟩) 1 1] from rfl] at hs
  refine hs.mono ?_
  clear hs
  rw [spA_s]
  rintro e w3 ⟨rfl, hcl4⟩
  have hclC := cln_trans hclB hcl4
  clear hclB hcl4 hcv hrd3 hIL3 hI3 hbx hb3 hc3 hcx
  go_wp2_with fail
  refine (check_any zeroRec none 0 0 (by omega) zeroRec_wf _ (RdItems.none_ _)).mono ?_
  rw [spZ_check]
  rintro e w4 ⟨rfl, hcl4⟩
  have hclD := cln_trans hclC hcl4
  clear hclC hcl4
  go_wp2_with fail
  refine (bytes_rec spC spC_wf none 0 0 (by omega) _ (RdItems.none_ _)).mono ?_
  rintro e w5 ⟨A2, c2, n2, hn2, rfl, hown2, hcl5⟩
  have hbs : recBytes spC = [3, 6] := by unfold recBytes; rw [if_pos spC_check, spC_w]
  rw [hbs] at hown2
  have hcv := conv_all (own_rd hown2) c2
  have hclE := cln_trans hclD hcl5
  clear hclD hcl5 hn2 hbs hown2
  go_wp2_with (simp only [hcv])
  refine (name_any 9 _).mono ?_
  rw [show nameOf 9 = [116, 111, 112] from by decide]
  rintro e w6 ⟨rfl, rfl⟩
  clear hcv
  go_wp2_with fail
  go_ret
  exact ⟨rfl, hclE⟩
end Go.Proofs.Ytocllhghbmbjpaa
