/- The walks of moietyref19.Need and of moietylaw20.speaks. (Printed by wip/tools/gen_wsp.py.) -/
import Derived.Test.YtbemnfbndjolpaaGreatDoorWals
import Derived.Test.YtbemnfbndjolpaaGreatDoorLSps
import Derived.Test.YtbemnfbndjolpaaGreatDoorWLot2
import Derived.Test.YtbemnfbndjolpaaGreatDoorSpk
set_option linter.unusedSimpArgs false
set_option linter.unusedVariables false
set_option maxRecDepth 20000
namespace Go.Proofs.YtbemnfbndjolpaaGreatDoor
open Go.RowKit Moi
theorem rneed_nums {k n : Nat} (h : n ≤ 1000000) (hk : 1 ≤ k) (hb : k = 1 ∨ (k - 1) * 60 < n) : wrap64 ((k : Int) * 60) = (k : Int) * 60 ∧ wrap64 ((k : Int) + 1) = (k : Int) + 1 := by unfold wrap64; omega
theorem rneed_next {k n : Nat} (hlt : k * 60 < n) : k + 1 = 1 ∨ (k + 1 - 1) * 60 < n := by omega
theorem rneed_meas {k n : Nat} (hlt : k * 60 < n) : ((n : Int) - intOf (.int .i64 ((k : Int) + 1))).toNat < ((n : Int) - intOf (.int .i64 (k : Int))).toNat := by simp only [intOf]; omega
theorem rneed_eq {k n : Nat} (hk : 1 ≤ k) (hb : k = 1 ∨ (k - 1) * 60 < n) (hn : ¬ k * 60 < n) : needS n = k := by unfold needS; omega
set_option maxHeartbeats 4000000 in
theorem rneed (n : Nat) (h : n ≤ 1000000) (W : World) : Calls Tryz.prog 17 #[.int .i64 (n : Nat)] W fun e w' => e = .returned (.int .i64 (needS n : Nat)) ∧ Cln W w' := by
 have hc0 : Hid (Cln W W) := Below.refl _ _
 go_enter Tryz.func17, Tryz.ntmps17
 go_wp2_with fail
 go_loopw [3] (fun v wr => ∃ k : Nat, 1 ≤ k ∧ (k = 1 ∨ (k - 1) * 60 < n) ∧ v = .int .i64 (k : Nat) ∧ Hid (Cln W wr)) (fun v _ => ((n : Int) - intOf v).toNat)
 case atStart => exact ⟨1, Nat.le_refl _, .inl rfl, rfl, hc0⟩
 case round =>
  clear hc0
  obtain ⟨k, hk, hb, rfl, hcl⟩ := hrel
  obtain ⟨tw1, tw2⟩ := rneed_nums h hk hb
  by_cases hlt : k * 60 < n
  ·have t1 : decide ((k : Int) * 60 < (n : Int)) = true := decide_eq_true (by omega)
   have t1' : decide (k * 60 < n) = true := decide_eq_true hlt
   replace hlt := Lib.hid hlt; replace hk := Lib.hid hk; replace hb := Lib.hid hb
   go_wp2_with fail
   go_roundw
   case rel => exact ⟨k + 1, Nat.le_add_left 1 k, rneed_next hlt.out, by first | (rw [tw2]; rfl) | rfl, hcl⟩
   case measure => first | (rw [tw2]; exact rneed_meas hlt.out) | exact rneed_meas hlt.out
  ·have t1 : decide ((k : Int) * 60 < (n : Int)) = false := decide_eq_false (by omega)
   have t1' : decide (k * 60 < n) = false := decide_eq_false hlt
   have he := Lib.hid (rneed_eq hk hb hlt)
   replace hlt := Lib.hid hlt; replace hk := Lib.hid hk; replace hb := Lib.hid hb
   go_wp2_with fail
   go_ret
   rw [he.out]
   exact ⟨rfl, hcl.out⟩
def wspL : MLot := ⟨5, [[lspA]]⟩
theorem wspL_w : wLot wspL = [5, 1, 1, 2, 0, 1, 97] := by
 have h7 := wU_lt 5 (by decide); have h1 := wU_lt 1 (by decide)
 simp [wLot, wspL, wDeal, h7, h1, lspA_w]
theorem wspL_check : checkLot wspL = (0, 0) := lot_of (by decide) (by decide) (by decide) (fun d hd => by
 have : d = [lspA] := by simpa [wspL] using hd
 subst this; rw [lspD_check]) (by rw [wspL_w]; decide)
theorem wspL_full : ∀ d ∈ wspL.deals, ∀ a ∈ d, FullA a := fun d hd a ha => by
 have : d = [lspA] := by simpa [wspL] using hd
 subst this
 obtain rfl : a = lspA := by simpa using ha
 exact lspA_full
theorem wspL_ok : LotsOk 5 [wspL] := (LotsOk.nil 5).snoc (by rw [wspL_check]) rfl wspL_full
theorem wspL_mod : Mod wspL.deals := mod_of (fun d hd => by
 have : d = [lspA] := by simpa [wspL] using hd
 subst this; rw [lspD_check])
theorem wspL_need : needS (wLot wspL).length = 1 := by rw [wspL_w]; decide
theorem wspL_norm : normL wspL = wspL := by
 show (⟨5, normDeals lspL.deals⟩ : MLot) = _
 rw [lspL_norm]; rfl
set_option maxHeartbeats 4000000 in
theorem sp_wal (w : World) (hK : KindsAt w) : Calls Tryz.prog 6 #[] w fun e w' => e = .returned (.bool true) ∧ Cln w w' := by
 have cN : Calls Tryz.prog 7 #[.int .i64 9] w _ := lg_new w w (Below.refl _ _) 9 1 8 (by decide) (by decide) (by decide)
 have hKH := Lib.hid hK
 clear hK
 go_enter Tryz.func6, Tryz.ntmps6
 go_wp2_with fail
 refine cN.mono ?_
 clear cN
 rintro e w1 ⟨pb, rfl, hL1⟩
 have hL2 := Lib.hid (hL1.cln_ (W' := w1.alloc (.cells #[.int .i64 1, .int .i64 8] 29)) (by (repeat with_reducible first | exact cR _ | assumption | refine cA ?_ _ | refine cD ?_ | refine cN ?_ _ | refine cS ?_ (by first | omega | (simp <;> omega)) _)))
 have hb2 := Lib.hid (Blk.new w1 29 #[.int .i64 1, .int .i64 8])
 have cO : Calls Tryz.prog 12 #[.pointer (some ⟨pb, 0, none⟩), .agg #[.int .i64 1, .int .i64 8], .int .i64 5] (w1.alloc (.cells #[.int .i64 1, .int .i64 8] 29)) _ := lg_open hL2.out hKH.out (by decide) (by decide) 5 (by decide) (by decide)
 have c0 := hb2.out.cell 0; have c1 := hb2.out.cell 1; have cl := hb2.out.lt
 clear hL1
 go_wp2_with fail
 refine cO.mono ?_
 clear cO
 rintro e w3 ⟨hL3, hS3, hM⟩
 obtain ⟨xb, rb, A, n, c, q, rfl, hq, ⟨b0, hb0, hO, hd0⟩, hX3⟩ := hM
 obtain rfl : q = [] := by simpa using hq
 obtain rfl : n = 0 := by have := OwnLots.len hO; simpa using this.symm
 have hb3 := Lib.hid (hS3.blk hL2.out.disk hb2.out (by decide))
 have hX3' : LogAt w3 w.heap.size pb rb xb 1 8 (layS []).length 5 := hX3
 replace hX3 := Lib.hid hX3'
 replace hL3 := Lib.hid hL3
 clear hO hb0 hd0 hS3 hL2 hb2 c0 c1 cl hq hX3'
 have cNx := lg_next hX3.out
 have cLf : ∀ w', Cln w3 w' → Calls Tryz.prog 21 #[.pointer (some ⟨xb, 0, none⟩)] w' fun e w'' => e = .returned (.int .i64 8) ∧ Cln w' w'' := fun w' k => lg_left (hL3.out.cln_ k) (hX3.out.cln_ k)
 go_wp2_with fail
 refine cNx.mono ?_
 clear cNx
 rintro e w4 ⟨rfl, hq4⟩
 go_wp2_with fail
 refine (cLf _ hq4).mono ?_
 clear cLf
 rintro e w5 ⟨rfl, hq5⟩
 have hk5 := Lib.hid (cln_trans hq4 hq5)
 have hL5 := Lib.hid (hL3.out.cln_ hk5.out)
 have hX5 := Lib.hid (hX3.out.cln_ hk5.out)
 have hb5 := Lib.hid (hb3.out.cln hk5.out)
 clear hL3 hX3 hb3 hk5 hq4 hq5
 have hk6 : Hid (Cln w5 (((w5.alloc (.cells #[.int .i64 2, .string ⟨#[97]⟩, .int .i64 0, .float .f64 0, .string ⟨#[]⟩, .int .i64 0, .int .i64 0, .int .i64 0, .int .i64 0, .float .f64 0, .int .i64 0, .string ⟨#[]⟩, .slice none 0 0, .bool false] 64)).alloc (.cells #[.slice (some ⟨w5.heap.size, 0, none⟩) 1 1] 67)).alloc (.cells #[.int .i64 5, .slice (some ⟨w5.heap.size + 1, 0, none⟩) 1 1] 38))) := by unfold Hid; (repeat with_reducible first | exact cR _ | assumption | refine cA ?_ _ | refine cD ?_ | refine cN ?_ _ | refine cS ?_ (by first | omega | (simp <;> omega)) _)
 have ba6 := Lib.hid (((Blk.new w5 64 #[.int .i64 2, .string ⟨#[97]⟩, .int .i64 0, .float .f64 0, .string ⟨#[]⟩, .int .i64 0, .int .i64 0, .int .i64 0, .int .i64 0, .float .f64 0, .int .i64 0, .string ⟨#[]⟩, .slice none 0 0, .bool false]).alloc (.cells #[.slice (some ⟨w5.heap.size, 0, none⟩) 1 1] 67)).alloc (.cells #[.int .i64 5, .slice (some ⟨w5.heap.size + 1, 0, none⟩) 1 1] 38))
 have bd6 := (Blk.new (w5.alloc (.cells #[.int .i64 2, .string ⟨#[97]⟩, .int .i64 0, .float .f64 0, .string ⟨#[]⟩, .int .i64 0, .int .i64 0, .int .i64 0, .int .i64 0, .float .f64 0, .int .i64 0, .string ⟨#[]⟩, .slice none 0 0, .bool false] 64)) 67 #[.slice (some ⟨w5.heap.size, 0, none⟩) 1 1]).alloc (.cells #[.int .i64 5, .slice (some ⟨w5.heap.size + 1, 0, none⟩) 1 1] 38)
 have bl6 := Blk.new ((w5.alloc (.cells #[.int .i64 2, .string ⟨#[97]⟩, .int .i64 0, .float .f64 0, .string ⟨#[]⟩, .int .i64 0, .int .i64 0, .int .i64 0, .int .i64 0, .float .f64 0, .int .i64 0, .string ⟨#[]⟩, .slice none 0 0, .bool false] 64)).alloc (.cells #[.slice (some ⟨w5.heap.size, 0, none⟩) 1 1] 67)) 38 #[.int .i64 5, .slice (some ⟨w5.heap.size + 1, 0, none⟩) 1 1]
 simp only [World.size_alloc] at bd6 bl6
 replace bd6 := Lib.hid bd6; replace bl6 := Lib.hid bl6
 have hX6 := hX5.out.cln_ hk6.out
 have cP6 : Calls Tryz.prog 16 #[.pointer (some ⟨xb, 0, none⟩), .agg #[.int .i64 6, .slice none 0 0]] (((w5.alloc (.cells #[.int .i64 2, .string ⟨#[97]⟩, .int .i64 0, .float .f64 0, .string ⟨#[]⟩, .int .i64 0, .int .i64 0, .int .i64 0, .int .i64 0, .float .f64 0, .int .i64 0, .string ⟨#[]⟩, .slice none 0 0, .bool false] 64)).alloc (.cells #[.slice (some ⟨w5.heap.size, 0, none⟩) 1 1] 67)).alloc (.cells #[.int .i64 5, .slice (some ⟨w5.heap.size + 1, 0, none⟩) 1 1] 38)) _ := lg_put_num hX6 (num := 6) (by decide) none 0 0
 clear hX6
 go_wp2_with fail
 refine cP6.mono ?_
 clear cP6
 rintro e w7 ⟨rfl, hq7⟩
 have hk7 := Lib.hid (cln_trans hk6.out hq7)
 have hL7 := Lib.hid (hL5.out.cln_ hk7.out)
 have hX7 := Lib.hid (hX5.out.cln_ hk7.out)
 have hb7 := Lib.hid (hb5.out.cln hk7.out)
 have ba7 := Lib.hid (ba6.out.cln hq7); have bd7 := Lib.hid (bd6.out.cln hq7); have bl7 := Lib.hid (bl6.out.cln hq7)
 clear hq7 hk6 hk7 ba6 bd6 bl6 hL5 hX5 hb5
 have hr7 := Lib.hid (rd_deal1 bd7.out (rd_act1 (a := lspA) ba7.out (RdItems.none_ _) lspA_wf))
 have cP7 : Calls Tryz.prog 16 #[.pointer (some ⟨xb, 0, none⟩), .agg #[.int .i64 5, .slice (some ⟨w5.heap.size + 1, 0, none⟩) 1 1]] w7 _ := lg_put wspL hL7.out hX7.out hKH.out (by decide) (some ⟨w5.heap.size + 1, 0, none⟩) 1 1 wspL_mod hr7.out (by rw [wspL_check]) (by rw [wspL_need]; decide)
 have l0 := bl7.out.cell 0; have l1 := bl7.out.cell 1; have ll := bl7.out.lt
 go_wp2_with fail
 refine cP7.mono ?_
 clear cP7 l0 l1 ll
 rintro e w8 ⟨rfl, hS8, hX8, d8, hL8, _⟩
 have kp : ∀ {g t : Nat} {cs : Array Value}, Blk w7 g t cs → (t ≠ 72 ∧ t ≠ 79 ∧ t ≠ 103) → t ≠ 77 → t ≠ 93 → Blk w8 g t cs := fun hg h1 h2 h3 =>
  hS8.blk hL7.out.disk hg h1 (fun e => by rcases e with e | e; exact Blk.ne_ hg hX7.out.rblk h2 e; exact Blk.ne_ hg hX7.out.xblk h3 e)
 have hb8 := Lib.hid (kp hb7.out (by decide) (by decide) (by decide))
 have ba8 := Lib.hid (kp ba7.out (by decide) (by decide) (by decide))
 have bd8 := Lib.hid (kp bd7.out (by decide) (by decide) (by decide))
 have bl8 := Lib.hid (kp bl7.out (by decide) (by decide) (by decide))
 have hX8' : LogAt w8 w.heap.size pb rb xb 1 8 (layS ([] ++ [wLot wspL])).length 6 := hX8
 have hX8h := Lib.hid hX8'
 have cN8 := lg_next hX8'
 replace hL8 := Lib.hid hL8
 have eO5 : openLots 5 ([] ++ [wLot wspL]) = some [wspL] := by
  have := wspL_ok.open_
  simp only [List.map_cons, List.map_nil, wspL_norm] at this
  exact this
 have eO4 : openLots 4 ([] ++ [wLot wspL]) = none := wspL_ok.empty_bad (k := 4) (by decide) (by decide)
 replace eO5 := Lib.hid eO5; replace eO4 := Lib.hid eO4
 clear kp hS8 hX8 hX8' hL7 hX7 hb7 ba7 bd7 bl7 hr7
 go_wp2_with fail
 refine cN8.mono ?_
 clear cN8
 rintro e w9 ⟨rfl, hq9⟩
 have hL9 := Lib.hid (hL8.out.cln_ hq9)
 have hb9 := Lib.hid (hb8.out.cln hq9)
 have ba9 := Lib.hid (ba8.out.cln hq9); have bd9 := Lib.hid (bd8.out.cln hq9); have bl9 := Lib.hid (bl8.out.cln hq9)
 clear hq9 hL8 hb8 ba8 bd8 bl8
 have cOa : Calls Tryz.prog 12 #[.pointer (some ⟨pb, 0, none⟩), .agg #[.int .i64 1, .int .i64 8], .int .i64 5] w9 _ := lg_open hL9.out hKH.out (by decide) (by decide) 5 (by decide) (by decide)
 have c0 := hb9.out.cell 0; have c1 := hb9.out.cell 1; have cl := hb9.out.lt
 go_wp2_with fail
 refine cOa.mono ?_
 clear cOa c0 c1 cl
 rintro e w10 ⟨hL10, hS10, hM⟩
 rw [eO5.out] at hM
 obtain ⟨xb2, rb2, A2, n2, c2, q2, rfl, hq2, ⟨b2, hb2, hO2, hd2⟩, _⟩ := hM
 obtain ⟨lq, rfl⟩ : ∃ x, q2 = [x] := by
  cases q2 with
  | nil => simp at hq2
  | cons x l => cases l with
   | nil => exact ⟨x, rfl⟩
   | cons y l => simp at hq2
 have hlq : lq.x = wspL := by simpa using hq2
 obtain rfl : n2 = 1 := by have := OwnLots.len hO2; simpa using this.symm
 have hb10 := Lib.hid (hS10.blk hL9.out.disk hb9.out (by decide))
 have ba10 := Lib.hid (hS10.blk hL9.out.disk ba9.out (by decide)); have bd10 := Lib.hid (hS10.blk hL9.out.disk bd9.out (by decide)); have bl10 := Lib.hid (hS10.blk hL9.out.disk bl9.out (by decide))
 have hO10 := Lib.hid hO2
 have hd10 := Lib.hid hd2
 replace hL10 := Lib.hid hL10; replace hlq := Lib.hid hlq
 clear hS10 hO2 hd2 hL9 hb9 ba9 bd9 bl9 hq2 hb2
 have cOb : Calls Tryz.prog 12 #[.pointer (some ⟨pb, 0, none⟩), .agg #[.int .i64 1, .int .i64 8], .int .i64 4] w10 _ := lg_open hL10.out hKH.out (by decide) (by decide) 4 (by decide) (by decide)
 have c0 := hb10.out.cell 0; have c1 := hb10.out.cell 1; have cl := hb10.out.lt
 go_wp2_with fail
 refine cOb.mono ?_
 clear cOb c0 c1 cl
 rintro e w11 ⟨hL11, hS11, hM⟩
 rw [eO4.out] at hM
 obtain rfl := hM
 have ba11 := Lib.hid (hS11.blk hL10.out.disk ba10.out (by decide)); have bd11 := Lib.hid (hS11.blk hL10.out.disk bd10.out (by decide)); have bl11 := Lib.hid (hS11.blk hL10.out.disk bl10.out (by decide))
 have hO11 := Lib.hid (OwnQ.kept hO10.out hS11.kept (fun i hi _ hk => absurd (hd10.out i hk) (Nat.not_lt.2 hi)))
 replace hL11 := Lib.hid hL11
 clear hS11 hO10 hd10 hL10 hb10 ba10 bd10 bl10
 obtain ⟨g, lq', rfl, hlq', g0, g1, hgr, hgl⟩ := lots_at hO11.out (show 0 < 1 by decide)
 obtain rfl : lq = lq' := by simpa using hlq'
 have hrg : RdDeals w11 lq.A lq.n [[lspA]] := by have := hgr; rw [hlq.out] at this; exact this
 have g0' : w11.cell? ⟨g, 0, none⟩ = some (.int .i64 5) := by have := g0; rw [hlq.out] at this; exact this
 have g1' : w11.cell? ⟨g, 1, none⟩ = some (.slice lq.A lq.n lq.c) := g1
 have hry := rd_deal1 bd11.out (rd_act1 (a := lspA) ba11.out (RdItems.none_ _) lspA_wf)
 have hln : lq.n = 1 := by have := hrg.len; simpa using this.symm
 rw [hln] at hrg g1'
 generalize lq.A = LA at hrg g1'
 generalize lq.c = Lc at g1'
 have cS : ∀ W, Cln w11 W → Calls Tryz.prog 25 #[.agg #[.int .i64 5, .slice LA 1 Lc], .agg #[.int .i64 5, .slice (some ⟨w5.heap.size + 1, 0, none⟩) 1 1]] W fun e w' => e = .returned (.bool true) ∧ Cln W w' := fun W k => by
  have h := rlsame_any wspL wspL LA (some ⟨w5.heap.size + 1, 0, none⟩) 1 Lc 1 1 wspL_mod wspL_mod (by decide) W (hrg.cln k) (hry.cln k)
  rw [sameLot_refl] at h
  exact h
 have hcl11 := Lib.hid (cln_trans hL11.out.cln (Below.drew (Below.refl _ _)))
 have hgd := Lib.hid (And.intro g0' g1')
 have hO11' := hO11.out
 clear g0 g1 hgr hrg hry hL11 hlq hlq' hO11' hKH hX8h eO4 eO5 g0' g1'
 have ixz : (0 : Int) < 1 := by decide
 go_wp2_with fail
 refine wp_region_held_drew (S := fun W' => W'.cell? ⟨g, 0, none⟩ = some (.int .i64 5) ∧ W'.cell? ⟨g, 1, none⟩ = some (.slice LA 1 Lc) ∧ W'.cell? ⟨w5.heap.size + 1 + 1, 0, none⟩ = some (.int .i64 5) ∧ W'.cell? ⟨w5.heap.size + 1 + 1, 1, none⟩ = some (.slice (some ⟨w5.heap.size + 1, 0, none⟩) 1 1)) (by kernel_rfl) ?hSq (fun hHeld => ?_)
 case hSq => exact ⟨(World.cell?_drew _ _).trans hgd.out.1, (World.cell?_drew _ _).trans hgd.out.2, bl11.out.drew.cell 0, bl11.out.drew.cell 1⟩
 refine wpAnyH_take (i := 0) (oi := { dst := some 81, op := Op.move (Operand.tmp 10), type := 25, pos := "law.go:29", after := #[], guard := none }) (v := ?v1) rfl (by kernel_rfl) (by kernel_rfl) (by kernel_rfl) (fun _ _ _ h => h) (Or.inl ⟨by rfl, ?hy1⟩) (by assumption) ?rest1
 case hy1 => intro w hSw; (try dsimp only at hSw); go_simp <;> with_reducible rfl
 try simp only [Act.put, List.setIfInBounds_toArray, List.set_cons_zero, List.set_cons_succ]
 refine wpAnyH_take (i := 1) (oi := { dst := some 82, op := Op.binOp BinOp.eql 25 (Operand.tmp 81) (Operand.const (Value.int IntKind.i64 0)) 25, type := 4, pos := "law.go:29", after := #[{ on := 0, ground := Ground.data }], guard := none }) (v := ?v2) rfl (by kernel_rfl) (by kernel_rfl) (by kernel_rfl) (fun _ _ _ h => h) (Or.inl ⟨by rfl, ?hy2⟩) (by assumption) ?rest2
 case hy2 => intro w hSw; (try dsimp only at hSw); go_simp <;> with_reducible rfl
 try simp only [Act.put, List.setIfInBounds_toArray, List.set_cons_zero, List.set_cons_succ]
 refine wpAnyH_take (i := 2) (oi := { dst := some 83, op := Op.move (Operand.tmp 82), type := 4, pos := "law.go:29", after := #[{ on := 1, ground := Ground.data }], guard := none }) (v := ?v3) rfl (by kernel_rfl) (by kernel_rfl) (by kernel_rfl) (fun _ _ _ h => h) (Or.inl ⟨by rfl, ?hy3⟩) (by assumption) ?rest3
 case hy3 => intro w hSw; (try dsimp only at hSw); go_simp <;> with_reducible rfl
 try simp only [Act.put, List.setIfInBounds_toArray, List.set_cons_zero, List.set_cons_succ]
 refine wpAnyH_take (i := 3) (oi := { dst := some 84, op := Op.move (Operand.tmp 9), type := 42, pos := "law.go:29", after := #[{ on := 2, ground := Ground.guard }], guard := some (2, true) }) (v := ?v4) rfl (by kernel_rfl) (by kernel_rfl) (by kernel_rfl) (fun _ _ _ h => h) (Or.inl ⟨by rfl, ?hy4⟩) (by assumption) ?rest4
 case hy4 => intro w hSw; (try dsimp only at hSw); go_simp <;> with_reducible rfl
 try simp only [Act.put, List.setIfInBounds_toArray, List.set_cons_zero, List.set_cons_succ]
 refine wpAnyH_take (i := 4) (oi := { dst := some 85, op := Op.call { callee := Callee.builtin Builtin.len, args := #[Operand.tmp 84], argTypes := #[42] }, type := 3, pos := "law.go:29", after := #[{ on := 3, ground := Ground.data }, { on := 2, ground := Ground.guard }], guard := some (2, true) }) (v := ?v5) rfl (by kernel_rfl) (by kernel_rfl) (by kernel_rfl) (fun _ _ _ h => h) (Or.inl ⟨by rfl, ?hy5⟩) (by assumption) ?rest5
 case hy5 => intro w hSw; (try dsimp only at hSw); go_simp <;> with_reducible rfl
 try simp only [Act.put, List.setIfInBounds_toArray, List.set_cons_zero, List.set_cons_succ]
 refine wpAnyH_take (i := 5) (oi := { dst := some 86, op := Op.binOp BinOp.eql 3 (Operand.tmp 85) (Operand.const (Value.int IntKind.i64 1)) 3, type := 4, pos := "law.go:29", after := #[{ on := 4, ground := Ground.data }, { on := 2, ground := Ground.guard }], guard := some (2, true) }) (v := ?v6) rfl (by kernel_rfl) (by kernel_rfl) (by kernel_rfl) (fun _ _ _ h => h) (Or.inl ⟨by rfl, ?hy6⟩) (by assumption) ?rest6
 case hy6 => intro w hSw; (try dsimp only at hSw); go_simp <;> with_reducible rfl
 try simp only [Act.put, List.setIfInBounds_toArray, List.set_cons_zero, List.set_cons_succ]
 refine wpAnyH_take (i := 6) (oi := { dst := some 87, op := Op.pick (Operand.tmp 83) (Operand.tmp 86) (Operand.const (Value.bool false)), type := 4, pos := "law.go:29", after := #[{ on := 2, ground := Ground.data }, { on := 5, ground := Ground.data }], guard := none }) (v := ?v7) rfl (by kernel_rfl) (by kernel_rfl) (by kernel_rfl) (fun _ _ _ h => h) (Or.inl ⟨by rfl, ?hy7⟩) (by assumption) ?rest7
 case hy7 => intro w hSw; (try dsimp only at hSw); go_simp <;> with_reducible rfl
 try simp only [Act.put, List.setIfInBounds_toArray, List.set_cons_zero, List.set_cons_succ]
 refine wpAnyH_take (i := 7) (oi := { dst := some 88, op := Op.move (Operand.tmp 87), type := 4, pos := "law.go:29", after := #[{ on := 6, ground := Ground.data }, { on := 2, ground := Ground.chain }], guard := none }) (v := ?v8) rfl (by kernel_rfl) (by kernel_rfl) (by kernel_rfl) (fun _ _ _ h => h) (Or.inl ⟨by rfl, ?hy8⟩) (by assumption) ?rest8
 case hy8 => intro w hSw; (try dsimp only at hSw); go_simp <;> with_reducible rfl
 try simp only [Act.put, List.setIfInBounds_toArray, List.set_cons_zero, List.set_cons_succ]
 refine wpAnyH_take (i := 8) (oi := { dst := some 89, op := Op.move (Operand.tmp 9), type := 42, pos := "law.go:29", after := #[{ on := 7, ground := Ground.guard }], guard := some (7, true) }) (v := ?v9) rfl (by kernel_rfl) (by kernel_rfl) (by kernel_rfl) (fun _ _ _ h => h) (Or.inl ⟨by rfl, ?hy9⟩) (by assumption) ?rest9
 case hy9 => intro w hSw; (try dsimp only at hSw); go_simp <;> with_reducible rfl
 try simp only [Act.put, List.setIfInBounds_toArray, List.set_cons_zero, List.set_cons_succ]
 refine wpAnyH_take (i := 9) (oi := { dst := some 90, op := Op.indexAddr 42 (Operand.tmp 89) (Operand.const (Value.int IntKind.i64 0)), type := 0, pos := "law.go:29", after := #[{ on := 8, ground := Ground.data }, { on := 7, ground := Ground.guard }], guard := some (7, true) }) (v := ?v10) rfl (by kernel_rfl) (by kernel_rfl) (by kernel_rfl) (fun _ _ _ h => h) (Or.inl ⟨by rfl, ?hy10⟩) (by assumption) ?rest10
 case hy10 => intro w hSw; (try dsimp only at hSw); go_simp <;> with_reducible rfl
 try simp only [Act.put, List.setIfInBounds_toArray, List.set_cons_zero, List.set_cons_succ]
 refine wpAnyH_take (i := 10) (oi := { dst := some 91, op := Op.load 38 (Operand.tmp 90), type := 38, pos := "law.go:29", after := #[{ on := 9, ground := Ground.data }, { on := 7, ground := Ground.guard }], guard := some (7, true) }) (v := ?v11) rfl (by kernel_rfl) (by kernel_rfl) (by kernel_rfl) (fun _ _ _ h => h) (Or.inl ⟨by rfl, ?hy11⟩) (by assumption) ?rest11
 case hy11 => intro w hSw; (try dsimp only at hSw); go_simp <;> with_reducible rfl
 try simp only [Act.put, List.setIfInBounds_toArray, List.set_cons_zero, List.set_cons_succ]
 refine wpAnyH_take (i := 11) (oi := { dst := some 92, op := Op.load 38 (Operand.tmp 7), type := 38, pos := "law.go:29", after := #[{ on := 7, ground := Ground.guard }], guard := some (7, true) }) (v := ?v12) rfl (by kernel_rfl) (by kernel_rfl) (by kernel_rfl) (fun _ _ _ h => h) (Or.inl ⟨by rfl, ?hy12⟩) (by assumption) ?rest12
 case hy12 => intro w hSw; (try dsimp only at hSw); go_simp <;> with_reducible rfl
 try simp only [Act.put, List.setIfInBounds_toArray, List.set_cons_zero, List.set_cons_succ]
 refine wpAnyH_ready (rs := [12]) (by kernel_rfl) (by simp) ?_
 refine AllReadyH.cons (o := { dst := some 93, op := Op.call { callee := Callee.value (Operand.func 25), args := #[Operand.tmp 91, Operand.tmp 92], argTypes := #[38, 38] }, type := 4, pos := "law.go:29", after := #[{ on := 10, ground := Ground.data }, { on := 11, ground := Ground.data }, { on := 7, ground := Ground.chain }, { on := 7, ground := Ground.guard }], guard := some (7, true) }) rfl (fun K hK => ?_) AllReadyH.nil
 go_simp
 go_at_call 25
 with_reducible refine (cS _ (Below.drew (Below.refl _ _))).mono ?_
 rintro e w12 ⟨rfl, hq12⟩
 have hk12 := Lib.hid (cln_trans hcl11.out hq12)
 have kk := Kept.of_below (S := fun _ => False) hq12
 (try go_wp2_with fail)
 refine hK.out _ _ ?_ (fun hHeld2 => ?_)
 ·exact ⟨kk.cell hHeld.1 id, kk.cell hHeld.2.1 id, kk.cell hHeld.2.2.1 id, kk.cell hHeld.2.2.2 id⟩
 clear hK K hHeld cS hq12 kk
 replace hHeld := hHeld2
 clear hHeld2
 try simp only [Act.put, List.setIfInBounds_toArray, List.set_cons_zero, List.set_cons_succ]
 refine wpAnyH_take (i := 13) (oi := { dst := some 94, op := Op.pick (Operand.tmp 88) (Operand.tmp 93) (Operand.const (Value.bool false)), type := 4, pos := "law.go:29", after := #[{ on := 7, ground := Ground.data }, { on := 12, ground := Ground.data }], guard := none }) (v := ?v13) rfl (by kernel_rfl) (by kernel_rfl) (by kernel_rfl) (fun _ _ _ h => h) (Or.inl ⟨by rfl, ?hy13⟩) (by assumption) ?rest13
 case hy13 => intro w hSw; (try dsimp only at hSw); go_simp <;> with_reducible rfl
 try simp only [Act.put, List.setIfInBounds_toArray, List.set_cons_zero, List.set_cons_succ]
 refine wpAnyH_take (i := 14) (oi := { dst := some 95, op := Op.move (Operand.tmp 94), type := 4, pos := "law.go:29", after := #[{ on := 13, ground := Ground.data }, { on := 12, ground := Ground.chain }], guard := none }) (v := ?v14) rfl (by kernel_rfl) (by kernel_rfl) (by kernel_rfl) (fun _ _ _ h => h) (Or.inl ⟨by rfl, ?hy14⟩) (by assumption) ?rest14
 case hy14 => intro w hSw; (try dsimp only at hSw); go_simp <;> with_reducible rfl
 try simp only [Act.put, List.setIfInBounds_toArray, List.set_cons_zero, List.set_cons_succ]
 refine wpAnyH_take (i := 15) (oi := { dst := some 96, op := Op.move (Operand.tmp 13), type := 25, pos := "law.go:29", after := #[{ on := 14, ground := Ground.guard }], guard := some (14, true) }) (v := ?v15) rfl (by kernel_rfl) (by kernel_rfl) (by kernel_rfl) (fun _ _ _ h => h) (Or.inl ⟨by rfl, ?hy15⟩) (by assumption) ?rest15
 case hy15 => intro w hSw; (try dsimp only at hSw); go_simp <;> with_reducible rfl
 try simp only [Act.put, List.setIfInBounds_toArray, List.set_cons_zero, List.set_cons_succ]
 refine wpAnyH_take (i := 16) (oi := { dst := some 97, op := Op.binOp BinOp.eql 25 (Operand.tmp 96) (Operand.const (Value.int IntKind.i64 4)) 25, type := 4, pos := "law.go:29", after := #[{ on := 15, ground := Ground.data }, { on := 14, ground := Ground.guard }], guard := some (14, true) }) (v := ?v16) rfl (by kernel_rfl) (by kernel_rfl) (by kernel_rfl) (fun _ _ _ h => h) (Or.inl ⟨by rfl, ?hy16⟩) (by assumption) ?rest16
 case hy16 => intro w hSw; (try dsimp only at hSw); go_simp <;> with_reducible rfl
 try simp only [Act.put, List.setIfInBounds_toArray, List.set_cons_zero, List.set_cons_succ]
 refine wpAnyH_take (i := 17) (oi := { dst := some 98, op := Op.pick (Operand.tmp 95) (Operand.tmp 97) (Operand.const (Value.bool false)), type := 4, pos := "law.go:29", after := #[{ on := 14, ground := Ground.data }, { on := 16, ground := Ground.data }], guard := none }) (v := ?v17) rfl (by kernel_rfl) (by kernel_rfl) (by kernel_rfl) (fun _ _ _ h => h) (Or.inl ⟨by rfl, ?hy17⟩) (by assumption) ?rest17
 case hy17 => intro w hSw; (try dsimp only at hSw); go_simp <;> with_reducible rfl
 try simp only [Act.put, List.setIfInBounds_toArray, List.set_cons_zero, List.set_cons_succ]
 refine wpAnyH_take (i := 18) (oi := { dst := some 0, op := Op.assign (Operand.tmp 98), type := 4, pos := "law.go:29", after := #[{ on := 17, ground := Ground.data }, { on := 14, ground := Ground.chain }, { on := 0, ground := Ground.phase }, { on := 1, ground := Ground.phase }, { on := 2, ground := Ground.phase }, { on := 3, ground := Ground.phase }, { on := 4, ground := Ground.phase }, { on := 5, ground := Ground.phase }, { on := 6, ground := Ground.phase }, { on := 7, ground := Ground.phase }, { on := 8, ground := Ground.phase }, { on := 9, ground := Ground.phase }, { on := 10, ground := Ground.phase }, { on := 11, ground := Ground.phase }, { on := 12, ground := Ground.phase }, { on := 13, ground := Ground.phase }, { on := 14, ground := Ground.phase }, { on := 15, ground := Ground.phase }, { on := 16, ground := Ground.phase }, { on := 17, ground := Ground.phase }], guard := none }) (v := ?v18) rfl (by kernel_rfl) (by kernel_rfl) (by kernel_rfl) (fun _ _ _ h => h) (Or.inl ⟨by rfl, ?hy18⟩) (by assumption) ?rest18
 case hy18 => intro w hSw; (try dsimp only at hSw); go_simp <;> with_reducible rfl
 try simp only [Act.put, List.setIfInBounds_toArray, List.set_cons_zero, List.set_cons_succ]
 refine wpAnyH_done (by kernel_rfl) ?_ _
 clear hHeld
 go_wp2_with fail
 go_ret
 exact ⟨rfl, hk12.out⟩
end Go.Proofs.YtbemnfbndjolpaaGreatDoor
