/- The law RecBytes. (Printed by wip/tools/gen_lbytes.py.) -/
import Derived.Test.YtocllhghbmbjpaaWRBytes
import Derived.Test.YtocllhghbmbjpaaWRSame
import Derived.Test.YtocllhghbmbjpaaWSpeaks
import Derived.Test.YtocllhghbmbjpaaWRCheck2
import Derived.Deep.RegionWith
set_option linter.unusedSimpArgs false
set_option linter.unusedVariables false
set_option maxRecDepth 20000
namespace Go.Proofs.Ytocllhghbmbjpaa
open Go.RowKit Moi
attribute [local go_sem] toList_str str_size less_ltB store_float
theorem keepB {W W' : World} {p0 p1 p2 p3 p4 p5 p6 p7 p8 p9 p10 p11 p12 p13 p14 p15 p16 p17 : Addr} {v0 v1 v2 v3 v4 v5 v6 v7 v8 v9 v10 v11 v12 v13 v14 v15 v16 v17 : Value} (hq : Cln W W')
    (h : W.cell? p0 = some v0 ∧ W.cell? p1 = some v1 ∧ W.cell? p2 = some v2 ∧ W.cell? p3 = some v3 ∧ W.cell? p4 = some v4 ∧ W.cell? p5 = some v5 ∧ W.cell? p6 = some v6 ∧ W.cell? p7 = some v7 ∧ W.cell? p8 = some v8 ∧ W.cell? p9 = some v9 ∧ W.cell? p10 = some v10 ∧ W.cell? p11 = some v11 ∧ W.cell? p12 = some v12 ∧ W.cell? p13 = some v13 ∧ W.cell? p14 = some v14 ∧ W.cell? p15 = some v15 ∧ W.cell? p16 = some v16 ∧ W.cell? p17 = some v17) :
    W'.cell? p0 = some v0 ∧ W'.cell? p1 = some v1 ∧ W'.cell? p2 = some v2 ∧ W'.cell? p3 = some v3 ∧ W'.cell? p4 = some v4 ∧ W'.cell? p5 = some v5 ∧ W'.cell? p6 = some v6 ∧ W'.cell? p7 = some v7 ∧ W'.cell? p8 = some v8 ∧ W'.cell? p9 = some v9 ∧ W'.cell? p10 = some v10 ∧ W'.cell? p11 = some v11 ∧ W'.cell? p12 = some v12 ∧ W'.cell? p13 = some v13 ∧ W'.cell? p14 = some v14 ∧ W'.cell? p15 = some v15 ∧ W'.cell? p16 = some v16 ∧ W'.cell? p17 = some v17 := by
  have k := Kept.of_below (S := fun _ => False) hq
  obtain ⟨h0, h1, h2, h3, h4, h5, h6, h7, h8, h9, h10, h11, h12, h13, h14, h15, h16, h17⟩ := h
  exact ⟨k.cell h0 id, k.cell h1 id, k.cell h2 id, k.cell h3 id, k.cell h4 id, k.cell h5 id, k.cell h6 id, k.cell h7 id, k.cell h8 id, k.cell h9 id, k.cell h10 id, k.cell h11 id, k.cell h12 id, k.cell h13 id, k.cell h14 id, k.cell h15 id, k.cell h16 id, k.cell h17 id⟩
theorem conv_later2 {W : World} {A : Option Addr} {n : Nat} {bs : List UInt8} (h : RdBytes W A n bs) (c : Nat) : ∀ W', Cln W W' → (convert 33 9 (.slice A n c)).run Try.prog W' = .ok (.string (str bs)) W' :=
  fun W' k => conv_all (h.cln k) c
set_option maxHeartbeats 8000000 in
theorem lBytes (r : MRec) (A : Option Addr) (n c : Nat) (hf : r.WF) (w : World) (hr : RdItems w A n r.list) :
    Calls Try.prog 4 #[recVal r A n c] w fun e w' => e = .returned (.bool true) ∧ Cln w w' := by
  have hfa : Hid (r.Full) := ⟨hf, fun x hx => by
    obtain ⟨i, hi, rfl⟩ := List.getElem_of_mem hx
    have := hr.wf i
    simpa [itAt, hi] using this⟩
  have hn : Hid (r.list.length = n) := hr.len
  have hreal := hf.real
  replace hf := Lib.hid hf
  have hb0 := Lib.hid (Blk.new w 25 #[.int .i64 r.kind, .int .i64 r.num, .int .i64 r.low, .int .i64 r.high, .float .f64 r.real, .int .i64 r.cap, .string (str r.text), .slice A n c])
  have hcl := Lib.hid (show Cln w (w.alloc (.cells #[.int .i64 r.kind, .int .i64 r.num, .int .i64 r.low, .int .i64 r.high, .float .f64 r.real, .int .i64 r.cap, .string (str r.text), .slice A n c] 25)) from by (repeat (first | (with_reducible exact Below.refl _ _) | (with_reducible assumption) | (with_reducible refine Below.setCell ?_ (by first | omega | (simp; done) | (simp; omega)) _) | (with_reducible refine Below.alloc ?_ (by first | omega | (simp; done) | (simp; omega)) _) | (with_reducible refine Below.drew ?_) | (with_reducible refine below_drewN ?_ _))))
  unfold recVal
  go_enter Try.func4, Try.ntmps4
  go_wp2_with fail
  refine (speaks_any _).mono ?_; rintro e w1 ⟨rfl, hq⟩
  have hb1 := hb0.out.cln hq
  have hcl1 := cln_trans hcl.out hq
  have hr1 := hr.cln hcl1
  have g0 := hb1.cell 0; have g1 := hb1.cell 1; have g2 := hb1.cell 2; have g3 := hb1.cell 3; have g4 := hb1.cell 4; have g5 := hb1.cell 5; have g6 := hb1.cell 6; have g7 := hb1.cell 7
  replace hb1 := Lib.hid hb1; replace hcl1 := Lib.hid hcl1; replace hr1 := Lib.hid hr1
  clear hb0 hcl hq hr
  go_wp2_with fail
  refine (big_any r A n c _ hr1.out).mono ?_; rintro e w2 ⟨rfl, hq⟩
  clear g0 g1 g2 g3 g4 g5 g6 g7
  have hb2 := hb1.out.cln hq
  have hcl2 := Lib.hid (cln_trans hcl1.out hq)
  have hr2 := Lib.hid (hr1.out.cln hq)
  have g0 := hb2.cell 0; have g1 := hb2.cell 1; have g2 := hb2.cell 2; have g3 := hb2.cell 3; have g4 := hb2.cell 4; have g5 := hb2.cell 5; have g6 := hb2.cell 6; have g7 := hb2.cell 7
  replace hb2 := Lib.hid hb2
  clear hb1 hcl1 hq hr1
  rcases bigN_or r with hbig | hbig
  case inr =>
    rw [hbig]
    go_wp2_with fail
    go_ret
    exact ⟨rfl, hcl2.out⟩
  obtain ⟨hn100, _⟩ := bigN_le r hbig
  rw [hn.out] at hn100
  rw [hbig]
  clear hbig
  go_wp2_with fail
  refine (bytes_rec r hf.out A n c (by omega) _ hr2.out).mono ?_; rintro e w3 ⟨A3, c3, m, hm, rfl, hown, hq⟩
  clear g0 g1 g2 g3 g4 g5 g6 g7
  obtain ⟨hrd, hmc, hml, hA3⟩ := newBytes_ok hown
  have hb3 := hb2.out.cln hq
  have hcl3 := Lib.hid (cln_trans hcl2.out hq)
  have hr3 := Lib.hid (hr2.out.cln hq)
  have g0 := hb3.cell 0; have g1 := hb3.cell 1; have g2 := hb3.cell 2; have g3 := hb3.cell 3; have g4 := hb3.cell 4; have g5 := hb3.cell 5; have g6 := hb3.cell 6; have g7 := hb3.cell 7
  replace hb3 := Lib.hid hb3; replace hrd := Lib.hid hrd; replace hA3 := Lib.hid hA3; replace hml := Lib.hid hml
  clear hb2 hcl2 hq hr2 hown
  go_wp2_with fail
  refine (rcheck_any r A n c (by omega) hf.out _ hr3.out).mono ?_; rintro e w4 ⟨rfl, hq⟩
  clear g0 g1 g2 g3 g4 g5 g6 g7
  have hb4 := Lib.hid (hb3.out.cln hq)
  have hcl4 := Lib.hid (cln_trans hcl3.out hq)
  have hr4 := Lib.hid (hr3.out.cln hq)
  have hrd4 := Lib.hid (hrd.out.cln hq)
  have hsz4 := hq.size
  clear hb3 hcl3 hr3 hrd hq
  by_cases hck : checkRec r = 0
  case neg =>
    have hz : m = 0 := by rw [hml.out]; unfold recBytes; rw [if_neg hck]; rfl
    have t3 : (((checkRec r : Nat) : Int) != 0) = true := by rw [bne_iff_ne]; omega
    have t4 : ((m : Int) == 0) = true := by rw [beq_iff_eq]; omega
    go_wp2_with fail
    go_ret
    exact ⟨ret_bool (by simp [hz]), hcl4.out⟩
  have t3 : (((checkRec r : Nat) : Int) != 0) = false := by rw [hck]; rfl
  have eb : recBytes r = wRec r := by unfold recBytes; rw [if_pos hck]
  rw [eb] at hrd4 hml
  have hm1200 : m ≤ 1200 := by rw [hml.out]; exact wRec_len hck hf.out
  have hck' := Lib.hid hck
  clear hck
  replace hm := Lib.hid hm
  go_wp2_with fail
  refine (read_any A3 m c3 (wRec r) w4 hrd4.out hmc (by omega) (fun ad e => by have := (hA3.out ad e).1; omega)).mono ?_
  rw [readOut_wRec hck'.out hfa.out]
  rintro e w5 ⟨AL, nL, cL, rfl, hIL, hgeL, hwL, hn32, hq⟩
  rw [show recVal r AL nL cL = .agg #[.int .i64 r.kind, .int .i64 r.num, .int .i64 r.low, .int .i64 r.high, .float .f64 r.real, .int .i64 r.cap, .string (str r.text), .slice AL nL cL] from rfl, show faultAgg (0, 0) = .agg #[.int .i64 0, .int .i64 0] from rfl]
  have hb5 := hb4.out.cln hq
  have hclX : Cln w5 ((w5.alloc (.cells #[.int .i64 r.kind, .int .i64 r.num, .int .i64 r.low, .int .i64 r.high, .float .f64 r.real, .int .i64 r.cap, .string (str r.text), .slice AL nL cL] 25)).alloc (.cells #[.int .i64 0, .int .i64 0] 36)) := by (repeat (first | (with_reducible exact Below.refl _ _) | (with_reducible assumption) | (with_reducible refine Below.setCell ?_ (by first | omega | (simp; done) | (simp; omega)) _) | (with_reducible refine Below.alloc ?_ (by first | omega | (simp; done) | (simp; omega)) _) | (with_reducible refine Below.drew ?_) | (with_reducible refine below_drewN ?_ _)))
  have hbx := Lib.hid (hb5.cln hclX)
  have hr5 := Lib.hid ((hr4.out.cln hq).cln hclX)
  have hrd5 := Lib.hid ((hrd4.out.cln hq).cln hclX)
  have hIL5 := Lib.hid (RdItems.cln hIL hclX)
  have hcl5 := Lib.hid (cln_trans (cln_trans hcl4.out hq) hclX)
  have hbL := Lib.hid ((Blk.new w5 25 #[.int .i64 r.kind, .int .i64 r.num, .int .i64 r.low, .int .i64 r.high, .float .f64 r.real, .int .i64 r.cap, .string (str r.text), .slice AL nL cL]).alloc (.cells #[.int .i64 0, .int .i64 0] 36))
  have hbF := Blk.new (w5.alloc (.cells #[.int .i64 r.kind, .int .i64 r.num, .int .i64 r.low, .int .i64 r.high, .float .f64 r.real, .int .i64 r.cap, .string (str r.text), .slice AL nL cL] 25)) 36 #[.int .i64 0, .int .i64 0]
  rw [World.size_alloc] at hbF
  have hsz5 : w.heap.size < w5.heap.size := hb5.lt
  clear hb4 hcl4 hr4 hrd4 hIL hgeL hq hclX hb5
  have hcv := conv_later2 hrd5.out c3
  have cB : ∀ W : World, Cln ((w5.alloc (.cells #[.int .i64 r.kind, .int .i64 r.num, .int .i64 r.low, .int .i64 r.high, .float .f64 r.real, .int .i64 r.cap, .string (str r.text), .slice AL nL cL] 25)).alloc (.cells #[.int .i64 0, .int .i64 0] 36)) W → Calls Try.prog 16 #[.agg #[.int .i64 r.kind, .int .i64 r.num, .int .i64 r.low, .int .i64 r.high, .float .f64 r.real, .int .i64 r.cap, .string (str r.text), .slice A n c]] W fun e w' => ∃ A' c' m', e = .returned (.slice A' m' c') ∧ (∀ W', Cln w' W' → (convert 33 9 (.slice A' m' c')).run Try.prog W' = .ok (.string (str (wRec r))) W') ∧ Cln W w' := fun W h => by
    refine (rbytes_any r hck'.out hfa.out A n c W (hr5.out.cln h)).mono ?_
    rintro e w' ⟨A', c', m', hm', rfl, hown, hq⟩
    exact ⟨A', c', m', rfl, conv_later2 (newBytes_ok hown).1 c', hq⟩
  have cS : ∀ W : World, Cln ((w5.alloc (.cells #[.int .i64 r.kind, .int .i64 r.num, .int .i64 r.low, .int .i64 r.high, .float .f64 r.real, .int .i64 r.cap, .string (str r.text), .slice AL nL cL] 25)).alloc (.cells #[.int .i64 0, .int .i64 0] 36)) W → Calls Try.prog 17 #[.agg #[.int .i64 r.kind, .int .i64 r.num, .int .i64 r.low, .int .i64 r.high, .float .f64 r.real, .int .i64 r.cap, .string (str r.text), .slice AL nL cL], .agg #[.int .i64 r.kind, .int .i64 r.num, .int .i64 r.low, .int .i64 r.high, .float .f64 r.real, .int .i64 r.cap, .string (str r.text), .slice A n c]] W fun e w' => e = .returned (.bool true) ∧ Cln W w' := fun W h => by
    have := recsame_any r r AL A nL cL n c W (hIL5.out.cln h) (hr5.out.cln h) (by omega) (by omega) hreal hreal
    rw [sameRec_refl] at this
    exact this
  have hfe : ∀ W : World, (binOp .eql 36 (.agg #[.int .i64 0, .int .i64 0]) (.agg #[.int .i64 0, .int .i64 0])).run Try.prog W = .ok (.bool true) W := fun W => by kernel_rfl
  have hcur := Lib.hid (show Cln ((w5.alloc (.cells #[.int .i64 r.kind, .int .i64 r.num, .int .i64 r.low, .int .i64 r.high, .float .f64 r.real, .int .i64 r.cap, .string (str r.text), .slice AL nL cL] 25)).alloc (.cells #[.int .i64 0, .int .i64 0] 36)) ((w5.alloc (.cells #[.int .i64 r.kind, .int .i64 r.num, .int .i64 r.low, .int .i64 r.high, .float .f64 r.real, .int .i64 r.cap, .string (str r.text), .slice AL nL cL] 25)).alloc (.cells #[.int .i64 0, .int .i64 0] 36)).drew from Below.drew (Below.refl _ _))
  have cX := hbx.out.cell; have cL := hbL.out.cell; have cF := hbF.cell
  replace hbF := Lib.hid hbF
  clear hfa hck' hf hwL
  go_wp2_with fail
  go_region_with (first
      | (go_at_call 16; with_reducible refine (cB _ hcur.out).mono ?_; rintro e w' ⟨A', c', m', rfl, hva, hq⟩; have hcur := Lib.hid (cln_trans hcur.out hq); have uX := (hbx.out.cln hcur.out).cell; have uL := (hbL.out.cln hcur.out).cell; have uF := (hbF.out.cln hcur.out).cell)
      | (go_at_call 17; with_reducible refine (cS _ hcur.out).mono ?_; rintro e w' ⟨rfl, hq⟩; have hcur := Lib.hid (cln_trans hcur.out hq))
      | simp only [hfe]
      | simp only [hcv _ hcur.out]
      | simp only [hva _ (Below.refl _ _)])
  all_goals
    (try go_wp2_with fail)
    go_ret
    exact ⟨rfl, cln_trans hcl5.out hcur.out⟩
end Go.Proofs.Ytocllhghbmbjpaa
