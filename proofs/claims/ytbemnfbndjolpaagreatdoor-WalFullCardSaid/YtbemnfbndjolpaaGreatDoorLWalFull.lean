/- The law WalFull. (Printed by wip/tools/gen_lwalfull.py.) -/
import Derived.Test.YtbemnfbndjolpaaGreatDoorWWSp
import Derived.Test.YtbemnfbndjolpaaGreatDoorWLot3
set_option linter.unusedSimpArgs false
set_option linter.unusedVariables false
set_option maxRecDepth 20000
namespace Go.Proofs.YtbemnfbndjolpaaGreatDoor
open Go.RowKit Moi
theorem room_num {room nn : Nat} (h : room < 256) (hn : nn = 1 + room % 40) : 1 ≤ nn ∧ nn ≤ 40 ∧ Int.tmod (room : Int) 40 = ((room % 40 : Nat) : Int) ∧ wrap64 (((room % 40 : Nat) : Int)) = ((room % 40 : Nat) : Int) ∧ wrap64 (1 + ((room % 40 : Nat) : Int)) = (nn : Int) ∧ IntKind.i64.wrap (room : Int) = (room : Int) ∧ (1 : Int) + (room : Int) % 40 = (nn : Int) := by
 have h1 : Int.tmod (room : Int) 40 = ((room % 40 : Nat) : Int) := by
  rw [Int.tmod_eq_emod_of_nonneg (by omega)]; omega
 refine ⟨by omega, by omega, h1, by unfold wrap64; omega, by unfold wrap64; omega, ?_, by omega⟩
 simp [IntKind.wrap, IntKind.bits, IntKind.signed]; omega
theorem wnil_w (k : Nat) (h : k < 128) : wLot ⟨(k : Int), []⟩ = [UInt8.ofNat k, 0] := by
 have h1 := wU_lt k h; have h0 := wU_lt 0 (by decide)
 simp [wLot, h1, h0]
theorem wnil_check (k : Nat) (h1 : 1 ≤ k) (h : k < 128) : checkLot ⟨(k : Int), []⟩ = (0, 0) :=
 lot_of (by show (1 : Int) ≤ (k : Int); omega) (by show (k : Int) ≤ 1099511627776; omega) (by show 0 ≤ 32; decide) (fun d hd => by cases hd) (by rw [wnil_w k h]; show 2 ≤ 2048; decide)
theorem wnil_need (k : Nat) (h : k < 128) : needS (wLot ⟨(k : Int), []⟩).length = 1 := by rw [wnil_w k h]; show needS 2 = 1; decide
theorem wnil_mod : Mod ([] : List (List MAct)) := ⟨(fun d hd => by cases hd), (fun d hd => by cases hd)⟩
theorem RdDeals.nil_ (W : World) : RdDeals W none 0 [] := ⟨rfl, fun h => absurd h (by omega)⟩
theorem map_len {α β : Type} {f : α → β} {q : List α} {xs : List β} (h : q.map f = xs) : q.length = xs.length := by rw [← h, List.length_map]
theorem one_ok {l : List (List MAct)} (hc : (checkLot ⟨1, l⟩).1 = 0) (hf : ∀ d ∈ l, ∀ a ∈ d, FullA a) : LotsOk 1 [⟨1, l⟩] := (LotsOk.nil 1).snoc hc rfl hf
theorem nil_ok {ls : List MLot} (h : LotsOk 1 ls) (k : Nat) (hk : k = ls.length + 1) (h2 : k < 128) : LotsOk 1 (ls ++ [⟨(k : Int), []⟩]) :=
 h.snoc (by rw [wnil_check k (by omega) h2]) (by show (k : Int) = 1 + (ls.length : Int); omega) (fun d hd => by cases hd)
set_option maxHeartbeats 8000000 in
theorem lWalFull (l : List (List MAct)) (A : Option Addr) (n c room : Nat) (hroom : room < 256) (w : World) (hK : KindsAt w) (hr : RdDeals w A n l) :
  Calls Tryz.prog 4 #[.slice A n c, .int .u8 (room : Nat)] w fun e w' => e = .returned (.bool true) ∧ Cln w w' := by
 have cSp := sp_wal w hK
 have hKH := Lib.hid hK; have hrH := Lib.hid hr
 have hrl := Lib.hid hr.full
 obtain ⟨nn, hnn⟩ : ∃ nn, nn = 1 + room % 40 := ⟨_, rfl⟩
 obtain ⟨m1, m2, m3, m4, m5, m6, m7⟩ := room_num hroom hnn
 replace hnn := Lib.hid hnn; replace hroom := Lib.hid hroom
 clear hK hr
 go_enter Tryz.func4, Tryz.ntmps4
 go_wp2_with fail
 refine cSp.mono ?_; rintro e w1 ⟨rfl, hq⟩
 have hcl1 := Lib.hid hq
 clear cSp hq
 have cBig := bigL_any l A n c w1 (hrH.out.cln hcl1.out)
 go_wp2_with fail
 refine cBig.mono ?_; rintro e w2 ⟨rfl, hq⟩
 have hcl2 := Lib.hid (cln_trans hcl1.out hq)
 clear cBig hq hcl1
 rcases bigL_or l with hb | hb
 rotate_left
 ·rw [hb]
  go_wp2_with fail
  go_ret
  exact ⟨rfl, hcl2.out⟩
 have hmod := Lib.hid (bigL_mod hb)
 rw [hb]
 clear hb
 have cN := lg_new w w2 hcl2.out nn 0 nn m1 (Nat.le_trans m2 (by decide)) (by rw [Nat.zero_add]; exact Nat.le_refl _)
 replace m7 := Lib.hid m7
 go_wp2_with fail
 rw [m7.out]
 clear m3 m4 m5 m6 m7
 refine cN.mono ?_
 clear cN
 rintro e w3 ⟨pb, rfl, hL⟩
 have hL4 := Lib.hid (hL.cln_ (W' := w3.alloc (.cells #[.int .i64 0, .int .i64 (nn : Nat)] 29)) (by (repeat with_reducible first | exact cR _ | assumption | refine cA ?_ _ | refine cD ?_ | refine cN ?_ _ | refine cS ?_ (by first | omega | (simp <;> omega)) _)))
 have hb4 := Lib.hid (Blk.new w3 29 #[.int .i64 0, .int .i64 (nn : Nat)])
 have cO : Calls Tryz.prog 12 #[.pointer (some ⟨pb, 0, none⟩), .agg #[.int .i64 0, .int .i64 (nn : Nat)], .int .i64 1] (w3.alloc (.cells #[.int .i64 0, .int .i64 (nn : Nat)] 29)) _ := lg_open hL4.out hKH.out m1 (by decide) 1 (by decide) (by decide)
 have c0 := hb4.out.cell 0; have c1 := hb4.out.cell 1; have cl := hb4.out.lt
 clear hL hcl2
 go_wp2_with fail
 refine cO.mono ?_
 clear cO
 rintro e w5 ⟨hL5, hS5, hM⟩
 obtain ⟨xb, rb, Az, nz, cz, q, rfl, hq, ⟨b0, hb0, hO, hd0⟩, hX5⟩ := hM
 obtain rfl : q = [] := by simpa using hq
 obtain rfl : nz = 0 := by have := OwnLots.len hO; simpa using this.symm
 have hb5 := Lib.hid (hS5.blk hL4.out.disk hb4.out (by decide))
 have hX5' : LogAt w5 w2.heap.size pb rb xb 0 nn (layS []).length 1 := hX5
 clear hO hb0 hd0 hS5 hL4 hb4 c0 c1 cl hq hX5
 have hk6 : Cln w5 (w5.alloc (.cells #[.int .i64 1, .slice A n c] 38)) := by (repeat with_reducible first | exact cR _ | assumption | refine cA ?_ _ | refine cD ?_ | refine cN ?_ _ | refine cS ?_ (by first | omega | (simp <;> omega)) _)
 have hL6 := Lib.hid (hL5.cln_ hk6)
 have hX6 := Lib.hid (hX5'.cln_ hk6)
 have hb6 := Lib.hid (hb5.out.cln hk6)
 have bo6 := Lib.hid (Blk.new w5 38 #[.int .i64 1, .slice A n c])
 clear hk6 hX5' hb5 hL5
 have cC := rlcheck_any ⟨1, l⟩ A n c hmod.out (w5.alloc (.cells #[.int .i64 1, .slice A n c] 38)) (hKH.out.cln hL6.out.cln) (hrH.out.cln hL6.out.cln)
 have hck := Lib.hid (rfl : checkLot ⟨1, l⟩ = checkLot ⟨1, l⟩)
 have l0 := bo6.out.cell 0; have l1 := bo6.out.cell 1; have ll := bo6.out.lt
 go_wp2_with fail
 refine cC.mono ?_
 clear cC
 rintro e w7 ⟨rfl, hq7⟩
 have hL7 := Lib.hid (hL6.out.cln_ hq7); have hX7 := Lib.hid (hX6.out.cln_ hq7); have hb7 := Lib.hid (hb6.out.cln hq7); have bo7 := Lib.hid (bo6.out.cln hq7)
 clear hq7 hL6 hX6 hb6 bo6 l0 l1 ll hck
 have cW : Calls Tryz.prog 15 #[.pointer (some ⟨pb, 0, none⟩)] w7 fun e w' => e = .returned (.int .i64 0) ∧ Cln w7 w' := dk_writes hL7.out.disk
 go_wp2_with fail
 refine cW.mono ?_
 clear cW
 rintro e w8 ⟨rfl, hq8⟩
 have hL8 := Lib.hid (hL7.out.cln_ hq8); have hX8 := Lib.hid (hX7.out.cln_ hq8); have hb8 := Lib.hid (hb7.out.cln hq8); have bo8 := Lib.hid (bo7.out.cln hq8)
 clear hq8 hL7 hX7 hb7 bo7
 have l0 := bo8.out.cell 0; have l1 := bo8.out.cell 1; have ll := bo8.out.lt
 by_cases hck : (checkLot ⟨1, l⟩).1 = 0
 rotate_left
 ·have cP : Calls Tryz.prog 16 #[.pointer (some ⟨xb, 0, none⟩), .agg #[.int .i64 1, .slice A n c]] w8 _ := lg_put_bad ⟨1, l⟩ hL8.out hX8.out hKH.out A n c hmod.out (hrH.out.cln hL8.out.cln) hck
  generalize (checkLot ⟨1, l⟩).1 = code at hck cP ⊢
  have tc : (((code : Nat) : Int) == 0) = false := by rw [beq_eq_false_iff_ne]; omega
  have tc2 : (((code : Nat) : Int) != 0) = true := by rw [bne_iff_ne]; omega
  go_wp2_with fail
  refine cP.mono ?_
  clear cP l0 l1 ll
  rintro e w9 ⟨rfl, hq9⟩
  have hL9 := Lib.hid (hL8.out.cln_ hq9); have hX9 := Lib.hid (hX8.out.cln_ hq9); have hb9 := Lib.hid (hb8.out.cln hq9)
  clear hq9 hL8 hX8 hb8 bo8
  have cW : Calls Tryz.prog 15 #[.pointer (some ⟨pb, 0, none⟩)] w9 fun e w' => e = .returned (.int .i64 0) ∧ Cln w9 w' := dk_writes hL9.out.disk
  go_wp2_with fail
  refine cW.mono ?_
  clear cW
  rintro e w10 ⟨rfl, hq10⟩
  have hL10 := Lib.hid (hL9.out.cln_ hq10); have hX10 := Lib.hid (hX9.out.cln_ hq10); have hb10 := Lib.hid (hb9.out.cln hq10)
  clear hq10 hL9 hX9 hb9
  have cPd : Calls Tryz.prog 19 #[.pointer (some ⟨pb, 0, none⟩)] w10 fun e w' => e = .returned (.int .i64 0) ∧ Cln w10 w' := dk_pending hL10.out.disk
  go_wp2_with fail
  refine cPd.mono ?_
  clear cPd
  rintro e w11 ⟨rfl, hq11⟩
  have hL11 := Lib.hid (hL10.out.cln_ hq11); have hX11 := Lib.hid (hX10.out.cln_ hq11); have hb11 := Lib.hid (hb10.out.cln hq11)
  clear hq11 hL10 hX10 hb10
  have cNx : Calls Tryz.prog 20 #[.pointer (some ⟨xb, 0, none⟩)] w11 fun e w' => e = .returned (.int .i64 1) ∧ Cln w11 w' := lg_next hX11.out
  go_wp2_with fail
  refine cNx.mono ?_
  clear cNx
  rintro e w12 ⟨rfl, hq12⟩
  have hL12 := Lib.hid (hL11.out.cln_ hq12); have hX12 := Lib.hid (hX11.out.cln_ hq12); have hb12 := Lib.hid (hb11.out.cln hq12)
  clear hq12 hL11 hX11 hb11
  have cLf : Calls Tryz.prog 21 #[.pointer (some ⟨xb, 0, none⟩)] w12 fun e w' => e = .returned (.int .i64 (nn : Nat)) ∧ Cln w12 w' := lg_left hL12.out hX12.out
  go_wp2_with fail
  refine cLf.mono ?_
  clear cLf
  rintro e w13 ⟨rfl, hq13⟩
  have hL13 := Lib.hid (hL12.out.cln_ hq13); have hX13 := Lib.hid (hX12.out.cln_ hq13); have hb13 := Lib.hid (hb12.out.cln hq13)
  clear hq13 hL12 hX12 hb12
  have hok := Lib.hid (LotsOk.nil 1)
  have cNx : Calls Tryz.prog 20 #[.pointer (some ⟨xb, 0, none⟩)] w13 fun e w' => e = .returned (.int .i64 1) ∧ Cln w13 w' := lg_next hX13.out
  go_wp2_with fail
  refine cNx.mono ?_
  clear cNx
  rintro e w14 ⟨rfl, hq14⟩
  have hL14 := Lib.hid (hL13.out.cln_ hq14); have hX14 := Lib.hid (hX13.out.cln_ hq14); have hb14 := Lib.hid (hb13.out.cln hq14)
  clear hq14 hL13 hX13 hb13
  have hbN := Lib.hid (Blk.new w14 38 #[.int .i64 1, .slice none 0 0])
  have hqp : Cln w14 (w14.alloc (.cells #[.int .i64 1, .slice none 0 0] 38)) := by (repeat with_reducible first | exact cR _ | assumption | refine cA ?_ _ | refine cD ?_ | refine cN ?_ _ | refine cS ?_ (by first | omega | (simp <;> omega)) _)
  have hLp := Lib.hid (hL14.out.cln_ hqp); have hXp := Lib.hid (hX14.out.cln_ hqp); have hbp := Lib.hid (hb14.out.cln hqp)
  clear hqp hL14 hX14 hb14
  have hfit : 1 ≤ nn - (layS []).length := m1
  have cP : Calls Tryz.prog 16 #[.pointer (some ⟨xb, 0, none⟩), .agg #[.int .i64 1, .slice none 0 0]] (w14.alloc (.cells #[.int .i64 1, .slice none 0 0] 38)) _ := lg_put ⟨((1 : Nat) : Int), []⟩ hLp.out hXp.out hKH.out (by decide) none 0 0 wnil_mod (RdDeals.nil_ _) (by rw [wnil_check 1 (by decide) (by decide)]) (by rw [wnil_need 1 (by decide)]; exact hfit)
  replace hok := Lib.hid (nil_ok hok.out 1 rfl (by decide))
  have l0 := hbN.out.cell 0; have l1 := hbN.out.cell 1; have ll := hbN.out.lt
  go_wp2_with fail
  refine cP.mono ?_
  clear cP l0 l1 ll
  rintro e w15 ⟨rfl, hSp, hXq, dq, hLq, _⟩
  have hb15 := Lib.hid (hSp.blk hLp.out.disk hbp.out (by decide) (fun e => by rcases e with e | e; exact Blk.ne_ hbp.out hXp.out.rblk (by decide) e; exact Blk.ne_ hbp.out hXp.out.xblk (by decide) e))
  have hL15 := Lib.hid hLq
  have hX15' : LogAt w15 w2.heap.size pb rb xb 0 nn _ 2 := hXq
  have hX15 := Lib.hid hX15'
  clear hSp hXq hLq hLp hXp hbp hbN hX15' hfit
  have eO : openLots 1 ([] ++ [wLot ⟨((1 : Nat) : Int), []⟩]) = some (List.map normL ([] ++ [⟨((1 : Nat) : Int), []⟩])) := hok.out.open_
  replace eO := Lib.hid eO
  have cO : Calls Tryz.prog 12 #[.pointer (some ⟨pb, 0, none⟩), .agg #[.int .i64 0, .int .i64 (nn : Nat)], .int .i64 1] w15 _ := lg_open hL15.out hKH.out m1 (by decide) 1 (by decide) (by decide)
  have c0 := hb15.out.cell 0; have c1 := hb15.out.cell 1; have cl := hb15.out.lt
  go_wp2_with fail
  refine cO.mono ?_
  clear cO c0 c1 cl
  rintro e w16 ⟨hLz, hSz, hM⟩
  rw [eO.out] at hM
  obtain ⟨xb2, rb2, A2, n2, c2, q2, rfl, hq2, ⟨b2, _, hO2, _⟩, _⟩ := hM
  obtain rfl : n2 = 1 := by have h1 := OwnLots.len hO2; have h2 := map_len hq2; rw [h1] at h2; simpa using h2
  have hXz := Lib.hid (hX15.out.dstep hSz hL15.out.disk)
  have hclz := Lib.hid hLz.cln
  have cNz : Calls Tryz.prog 20 #[.pointer (some ⟨xb, 0, none⟩)] w16 fun e w' => e = .returned (.int .i64 2) ∧ Cln w16 w' := lg_next hXz.out
  clear hLz hSz hO2 hq2 eO hL15 hX15 hb15 hok
  go_wp2_with fail
  refine cNz.mono ?_
  clear cNz
  rintro e wz ⟨rfl, hqz⟩
  have hend := Lib.hid (cln_trans hclz.out hqz)
  clear hqz hclz hXz
  go_wp2_with fail
  go_ret
  exact ⟨rfl, hend.out⟩
 ·have hck2 := Lib.hid hck
  have h48 := Lib.hid (lot_ok hck).2.2.2.2.1
  have hdk := Lib.hid (lot_ok hck).2.2.2.1
  have hn32 : Hid (n ≤ 32) := by have h1 := (lot_ok hck).2.2.1; have h2 := hrH.out.len; unfold Hid; rw [← h2]; exact h1
  have hok1 := Lib.hid (one_ok hck hrl.out)
  obtain ⟨NS, hNS⟩ : ∃ z, z = needS (wLot ⟨1, l⟩).length := ⟨_, rfl⟩
  replace hNS := Lib.hid hNS
  by_cases hnf : nn < NS
  ·have cP : Calls Tryz.prog 16 #[.pointer (some ⟨xb, 0, none⟩), .agg #[.int .i64 1, .slice A n c]] w8 _ := lg_put_full ⟨1, l⟩ hL8.out hX8.out hKH.out A n c hmod.out (hrH.out.cln hL8.out.cln) hck (by rw [← hNS.out]; exact hnf)
   have tn : decide ((nn : Int) < (NS : Int)) = true := decide_eq_true (Int.ofNat_lt.2 hnf)
   have tn' : decide (nn < NS) = true := decide_eq_true hnf
   rw [hck]
   replace hck := Lib.hid hck; replace hnf := Lib.hid hnf
   go_wp2_with fail
   refine cP.mono ?_
   clear cP l0 l1 ll
   rintro e w9 ⟨rfl, hq9⟩
   have hL9 := Lib.hid (hL8.out.cln_ hq9); have hX9 := Lib.hid (hX8.out.cln_ hq9); have hb9 := Lib.hid (hb8.out.cln hq9); have bo9 := Lib.hid (bo8.out.cln hq9)
   clear hq9 hL8 hX8 hb8 bo8
   have cRB := rlbytes_any ⟨1, l⟩ (show (1 : Int) ≤ 1 by decide) (show (1 : Int) ≤ 1099511627776 by decide) hdk.out A n c hn32.out w9 (hKH.out.cln hL9.out.cln) (hrH.out.cln hL9.out.cln)
   have l0 := bo9.out.cell 0; have l1 := bo9.out.cell 1; have ll := bo9.out.lt
   go_wp2_with fail
   refine cRB.mono ?_
   clear cRB l0 l1 ll
   rintro e w10 ⟨Ab, cb, nb, hnb, rfl, hownb, hq10⟩
   have hL10 := Lib.hid (hL9.out.cln_ hq10); have hX10 := Lib.hid (hX9.out.cln_ hq10); have hb10 := Lib.hid (hb9.out.cln hq10)
   clear hq10 hL9 hX9 hb9
   have cRN : Calls Tryz.prog 17 #[.int .i64 (nb : Nat)] w10 fun e w' => e = .returned (.int .i64 (NS : Nat)) ∧ Cln w10 w' := by
    have h := rneed nb (Nat.le_trans (Nat.le_of_eq hnb.out) (Nat.le_trans h48.out (by decide))) w10
    rw [show needS nb = NS from by rw [hnb.out, hNS.out]] at h
    exact h
   clear hownb
   go_wp2_with fail
   refine cRN.mono ?_
   clear cRN
   rintro e w11 ⟨rfl, hq11⟩
   have hL11 := Lib.hid (hL10.out.cln_ hq11); have hX11 := Lib.hid (hX10.out.cln_ hq11); have hb11 := Lib.hid (hb10.out.cln hq11)
   clear hq11 hL10 hX10 hb10
   have cW : Calls Tryz.prog 15 #[.pointer (some ⟨pb, 0, none⟩)] w11 fun e w' => e = .returned (.int .i64 0) ∧ Cln w11 w' := dk_writes hL11.out.disk
   go_wp2_with fail
   refine cW.mono ?_
   clear cW
   rintro e w12 ⟨rfl, hq12⟩
   have hL12 := Lib.hid (hL11.out.cln_ hq12); have hX12 := Lib.hid (hX11.out.cln_ hq12); have hb12 := Lib.hid (hb11.out.cln hq12)
   clear hq12 hL11 hX11 hb11
   have cPd : Calls Tryz.prog 19 #[.pointer (some ⟨pb, 0, none⟩)] w12 fun e w' => e = .returned (.int .i64 0) ∧ Cln w12 w' := dk_pending hL12.out.disk
   go_wp2_with fail
   refine cPd.mono ?_
   clear cPd
   rintro e w13 ⟨rfl, hq13⟩
   have hL13 := Lib.hid (hL12.out.cln_ hq13); have hX13 := Lib.hid (hX12.out.cln_ hq13); have hb13 := Lib.hid (hb12.out.cln hq13)
   clear hq13 hL12 hX12 hb12
   have cNx : Calls Tryz.prog 20 #[.pointer (some ⟨xb, 0, none⟩)] w13 fun e w' => e = .returned (.int .i64 1) ∧ Cln w13 w' := lg_next hX13.out
   go_wp2_with fail
   refine cNx.mono ?_
   clear cNx
   rintro e w14 ⟨rfl, hq14⟩
   have hL14 := Lib.hid (hL13.out.cln_ hq14); have hX14 := Lib.hid (hX13.out.cln_ hq14); have hb14 := Lib.hid (hb13.out.cln hq14)
   clear hq14 hL13 hX13 hb13
   have cLf : Calls Tryz.prog 21 #[.pointer (some ⟨xb, 0, none⟩)] w14 fun e w' => e = .returned (.int .i64 (nn : Nat)) ∧ Cln w14 w' := lg_left hL14.out hX14.out
   go_wp2_with fail
   refine cLf.mono ?_
   clear cLf
   rintro e w15 ⟨rfl, hq15⟩
   have hL15 := Lib.hid (hL14.out.cln_ hq15); have hX15 := Lib.hid (hX14.out.cln_ hq15); have hb15 := Lib.hid (hb14.out.cln hq15)
   clear hq15 hL14 hX14 hb14
   have hok := Lib.hid (LotsOk.nil 1)
   have cNx : Calls Tryz.prog 20 #[.pointer (some ⟨xb, 0, none⟩)] w15 fun e w' => e = .returned (.int .i64 1) ∧ Cln w15 w' := lg_next hX15.out
   go_wp2_with fail
   refine cNx.mono ?_
   clear cNx
   rintro e w16 ⟨rfl, hq16⟩
   have hL16 := Lib.hid (hL15.out.cln_ hq16); have hX16 := Lib.hid (hX15.out.cln_ hq16); have hb16 := Lib.hid (hb15.out.cln hq16)
   clear hq16 hL15 hX15 hb15
   have hbN := Lib.hid (Blk.new w16 38 #[.int .i64 1, .slice none 0 0])
   have hqp : Cln w16 (w16.alloc (.cells #[.int .i64 1, .slice none 0 0] 38)) := by (repeat with_reducible first | exact cR _ | assumption | refine cA ?_ _ | refine cD ?_ | refine cN ?_ _ | refine cS ?_ (by first | omega | (simp <;> omega)) _)
   have hLp := Lib.hid (hL16.out.cln_ hqp); have hXp := Lib.hid (hX16.out.cln_ hqp); have hbp := Lib.hid (hb16.out.cln hqp)
   clear hqp hL16 hX16 hb16
   have hfit : 1 ≤ nn - (layS []).length := m1
   have cP : Calls Tryz.prog 16 #[.pointer (some ⟨xb, 0, none⟩), .agg #[.int .i64 1, .slice none 0 0]] (w16.alloc (.cells #[.int .i64 1, .slice none 0 0] 38)) _ := lg_put ⟨((1 : Nat) : Int), []⟩ hLp.out hXp.out hKH.out (by decide) none 0 0 wnil_mod (RdDeals.nil_ _) (by rw [wnil_check 1 (by decide) (by decide)]) (by rw [wnil_need 1 (by decide)]; exact hfit)
   replace hok := Lib.hid (nil_ok hok.out 1 rfl (by decide))
   have l0 := hbN.out.cell 0; have l1 := hbN.out.cell 1; have ll := hbN.out.lt
   go_wp2_with fail
   refine cP.mono ?_
   clear cP l0 l1 ll
   rintro e w17 ⟨rfl, hSp, hXq, dq, hLq, _⟩
   have hb17 := Lib.hid (hSp.blk hLp.out.disk hbp.out (by decide) (fun e => by rcases e with e | e; exact Blk.ne_ hbp.out hXp.out.rblk (by decide) e; exact Blk.ne_ hbp.out hXp.out.xblk (by decide) e))
   have hL17 := Lib.hid hLq
   have hX17' : LogAt w17 w2.heap.size pb rb xb 0 nn _ 2 := hXq
   have hX17 := Lib.hid hX17'
   clear hSp hXq hLq hLp hXp hbp hbN hX17' hfit
   have eO : openLots 1 ([] ++ [wLot ⟨((1 : Nat) : Int), []⟩]) = some (List.map normL ([] ++ [⟨((1 : Nat) : Int), []⟩])) := hok.out.open_
   replace eO := Lib.hid eO
   have cO : Calls Tryz.prog 12 #[.pointer (some ⟨pb, 0, none⟩), .agg #[.int .i64 0, .int .i64 (nn : Nat)], .int .i64 1] w17 _ := lg_open hL17.out hKH.out m1 (by decide) 1 (by decide) (by decide)
   have c0 := hb17.out.cell 0; have c1 := hb17.out.cell 1; have cl := hb17.out.lt
   go_wp2_with fail
   refine cO.mono ?_
   clear cO c0 c1 cl
   rintro e w18 ⟨hLz, hSz, hM⟩
   rw [eO.out] at hM
   obtain ⟨xb2, rb2, A2, n2, c2, q2, rfl, hq2, ⟨b2, _, hO2, _⟩, _⟩ := hM
   obtain rfl : n2 = 1 := by have h1 := OwnLots.len hO2; have h2 := map_len hq2; rw [h1] at h2; simpa using h2
   have hXz := Lib.hid (hX17.out.dstep hSz hL17.out.disk)
   have hclz := Lib.hid hLz.cln
   have cNz : Calls Tryz.prog 20 #[.pointer (some ⟨xb, 0, none⟩)] w18 fun e w' => e = .returned (.int .i64 2) ∧ Cln w18 w' := lg_next hXz.out
   clear hLz hSz hO2 hq2 eO hL17 hX17 hb17 hok
   go_wp2_with fail
   refine cNz.mono ?_
   clear cNz
   rintro e wz ⟨rfl, hqz⟩
   have hend := Lib.hid (cln_trans hclz.out hqz)
   clear hqz hclz hXz
   go_wp2_with fail
   go_ret
   exact ⟨rfl, hend.out⟩
  ·have cP : Calls Tryz.prog 16 #[.pointer (some ⟨xb, 0, none⟩), .agg #[.int .i64 1, .slice A n c]] w8 _ := lg_put ⟨1, l⟩ hL8.out hX8.out hKH.out (by decide) A n c hmod.out (hrH.out.cln hL8.out.cln) hck (by rw [← hNS.out]; exact Nat.not_lt.1 hnf)
   have tn : decide ((nn : Int) < (NS : Int)) = false := decide_eq_false (fun h => hnf (Int.ofNat_lt.1 h))
   have tn' : decide (nn < NS) = false := decide_eq_false hnf
   rw [hck]
   replace hck := Lib.hid hck; replace hnf := Lib.hid hnf
   go_wp2_with fail
   refine cP.mono ?_
   clear cP l0 l1 ll
   rintro e w9 ⟨rfl, hSp, hXq, dq, hLq, _⟩
   have hb9 := Lib.hid (hSp.blk hL8.out.disk hb8.out (by decide) (fun e => by rcases e with e | e; exact Blk.ne_ hb8.out hX8.out.rblk (by decide) e; exact Blk.ne_ hb8.out hX8.out.xblk (by decide) e))
   have bo9 := Lib.hid (hSp.blk hL8.out.disk bo8.out (by decide) (fun e => by rcases e with e | e; exact Blk.ne_ bo8.out hX8.out.rblk (by decide) e; exact Blk.ne_ bo8.out hX8.out.xblk (by decide) e))
   have hL9 := Lib.hid hLq
   have hX9' : LogAt w9 w2.heap.size pb rb xb 0 nn _ 2 := hXq
   have hX9 := Lib.hid hX9'
   clear hSp hXq hLq hL8 hX8 hb8 bo8 hX9'
   have cRB := rlbytes_any ⟨1, l⟩ (show (1 : Int) ≤ 1 by decide) (show (1 : Int) ≤ 1099511627776 by decide) hdk.out A n c hn32.out w9 (hKH.out.cln hL9.out.cln) (hrH.out.cln hL9.out.cln)
   have l0 := bo9.out.cell 0; have l1 := bo9.out.cell 1; have ll := bo9.out.lt
   go_wp2_with fail
   refine cRB.mono ?_
   clear cRB l0 l1 ll
   rintro e w10 ⟨Ab, cb, nb, hnb, rfl, hownb, hq10⟩
   have hL10 := Lib.hid (hL9.out.cln_ hq10); have hX10 := Lib.hid (hX9.out.cln_ hq10); have hb10 := Lib.hid (hb9.out.cln hq10)
   clear hq10 hL9 hX9 hb9
   have cRN : Calls Tryz.prog 17 #[.int .i64 (nb : Nat)] w10 fun e w' => e = .returned (.int .i64 (NS : Nat)) ∧ Cln w10 w' := by
    have h := rneed nb (Nat.le_trans (Nat.le_of_eq hnb.out) (Nat.le_trans h48.out (by decide))) w10
    rw [show needS nb = NS from by rw [hnb.out, hNS.out]] at h
    exact h
   clear hownb
   go_wp2_with fail
   refine cRN.mono ?_
   clear cRN
   rintro e w11 ⟨rfl, hq11⟩
   have hL11 := Lib.hid (hL10.out.cln_ hq11); have hX11 := Lib.hid (hX10.out.cln_ hq11); have hb11 := Lib.hid (hb10.out.cln hq11)
   clear hq11 hL10 hX10 hb10
   have hok := hok1
   have cNx : Calls Tryz.prog 20 #[.pointer (some ⟨xb, 0, none⟩)] w11 fun e w' => e = .returned (.int .i64 2) ∧ Cln w11 w' := lg_next hX11.out
   go_wp2_with fail
   refine cNx.mono ?_
   clear cNx
   rintro e w12 ⟨rfl, hq12⟩
   have hL12 := Lib.hid (hL11.out.cln_ hq12); have hX12 := Lib.hid (hX11.out.cln_ hq12); have hb12 := Lib.hid (hb11.out.cln hq12)
   clear hq12 hL11 hX11 hb11
   have hbN := Lib.hid (Blk.new w12 38 #[.int .i64 2, .slice none 0 0])
   have hqp : Cln w12 (w12.alloc (.cells #[.int .i64 2, .slice none 0 0] 38)) := by (repeat with_reducible first | exact cR _ | assumption | refine cA ?_ _ | refine cD ?_ | refine cN ?_ _ | refine cS ?_ (by first | omega | (simp <;> omega)) _)
   have hLp := Lib.hid (hL12.out.cln_ hqp); have hXp := Lib.hid (hX12.out.cln_ hqp); have hbp := Lib.hid (hb12.out.cln hqp)
   clear hqp hL12 hX12 hb12
   by_cases hfit : 1 ≤ nn - (layS ([] ++ [wLot ⟨1, l⟩])).length
   ·have cP : Calls Tryz.prog 16 #[.pointer (some ⟨xb, 0, none⟩), .agg #[.int .i64 2, .slice none 0 0]] (w12.alloc (.cells #[.int .i64 2, .slice none 0 0] 38)) _ := lg_put ⟨((2 : Nat) : Int), []⟩ hLp.out hXp.out hKH.out (by decide) none 0 0 wnil_mod (RdDeals.nil_ _) (by rw [wnil_check 2 (by decide) (by decide)]) (by rw [wnil_need 2 (by decide)]; exact hfit)
    replace hok := Lib.hid (nil_ok hok.out 2 rfl (by decide))
    have l0 := hbN.out.cell 0; have l1 := hbN.out.cell 1; have ll := hbN.out.lt
    go_wp2_with fail
    refine cP.mono ?_
    clear cP l0 l1 ll
    rintro e w13 ⟨rfl, hSp, hXq, dq, hLq, _⟩
    have hb13 := Lib.hid (hSp.blk hLp.out.disk hbp.out (by decide) (fun e => by rcases e with e | e; exact Blk.ne_ hbp.out hXp.out.rblk (by decide) e; exact Blk.ne_ hbp.out hXp.out.xblk (by decide) e))
    have hL13 := Lib.hid hLq
    have hX13' : LogAt w13 w2.heap.size pb rb xb 0 nn _ 3 := hXq
    have hX13 := Lib.hid hX13'
    clear hSp hXq hLq hLp hXp hbp hbN hX13' hfit
    have eO : openLots 1 (([] ++ [wLot ⟨1, l⟩]) ++ [wLot ⟨((2 : Nat) : Int), []⟩]) = some (List.map normL ([⟨1, l⟩] ++ [⟨((2 : Nat) : Int), []⟩])) := hok.out.open_
    replace eO := Lib.hid eO
    have cO : Calls Tryz.prog 12 #[.pointer (some ⟨pb, 0, none⟩), .agg #[.int .i64 0, .int .i64 (nn : Nat)], .int .i64 1] w13 _ := lg_open hL13.out hKH.out m1 (by decide) 1 (by decide) (by decide)
    have c0 := hb13.out.cell 0; have c1 := hb13.out.cell 1; have cl := hb13.out.lt
    go_wp2_with fail
    refine cO.mono ?_
    clear cO c0 c1 cl
    rintro e w14 ⟨hLz, hSz, hM⟩
    rw [eO.out] at hM
    obtain ⟨xb2, rb2, A2, n2, c2, q2, rfl, hq2, ⟨b2, _, hO2, _⟩, _⟩ := hM
    obtain rfl : n2 = 2 := by have h1 := OwnLots.len hO2; have h2 := map_len hq2; rw [h1] at h2; simpa using h2
    have hXz := Lib.hid (hX13.out.dstep hSz hL13.out.disk)
    have hclz := Lib.hid hLz.cln
    have cNz : Calls Tryz.prog 20 #[.pointer (some ⟨xb, 0, none⟩)] w14 fun e w' => e = .returned (.int .i64 3) ∧ Cln w14 w' := lg_next hXz.out
    clear hLz hSz hO2 hq2 eO hL13 hX13 hb13 hok
    go_wp2_with fail
    refine cNz.mono ?_
    clear cNz
    rintro e wz ⟨rfl, hqz⟩
    have hend := Lib.hid (cln_trans hclz.out hqz)
    clear hqz hclz hXz
    go_wp2_with fail
    go_ret
    exact ⟨rfl, hend.out⟩
   ·have cP : Calls Tryz.prog 16 #[.pointer (some ⟨xb, 0, none⟩), .agg #[.int .i64 2, .slice none 0 0]] (w12.alloc (.cells #[.int .i64 2, .slice none 0 0] 38)) _ := lg_put_full ⟨((2 : Nat) : Int), []⟩ hLp.out hXp.out hKH.out none 0 0 wnil_mod (RdDeals.nil_ _) (by rw [wnil_check 2 (by decide) (by decide)]) (by rw [wnil_need 2 (by decide)]; exact Nat.lt_of_not_le hfit)
    have l0 := hbN.out.cell 0; have l1 := hbN.out.cell 1; have ll := hbN.out.lt
    go_wp2_with fail
    refine cP.mono ?_
    clear cP l0 l1 ll
    rintro e w13 ⟨rfl, hq13⟩
    have hL13 := Lib.hid (hLp.out.cln_ hq13); have hX13 := Lib.hid (hXp.out.cln_ hq13); have hb13 := Lib.hid (hbp.out.cln hq13)
    clear hq13 hLp hXp hbp hbN
    have cLf : Calls Tryz.prog 21 #[.pointer (some ⟨xb, 0, none⟩)] w13 fun e w' => e = .returned (.int .i64 0) ∧ Cln w13 w' := by
     have h := lg_left hL13.out hX13.out
     rw [Nat.lt_one_iff.1 (Nat.lt_of_not_le hfit)] at h
     exact h
    clear hfit
    go_wp2_with fail
    refine cLf.mono ?_
    clear cLf
    rintro e w14 ⟨rfl, hq14⟩
    have hL14 := Lib.hid (hL13.out.cln_ hq14); have hX14 := Lib.hid (hX13.out.cln_ hq14); have hb14 := Lib.hid (hb13.out.cln hq14)
    clear hq14 hL13 hX13 hb13
    have eO : openLots 1 ([] ++ [wLot ⟨1, l⟩]) = some (List.map normL [⟨1, l⟩]) := hok.out.open_
    replace eO := Lib.hid eO
    have cO : Calls Tryz.prog 12 #[.pointer (some ⟨pb, 0, none⟩), .agg #[.int .i64 0, .int .i64 (nn : Nat)], .int .i64 1] w14 _ := lg_open hL14.out hKH.out m1 (by decide) 1 (by decide) (by decide)
    have c0 := hb14.out.cell 0; have c1 := hb14.out.cell 1; have cl := hb14.out.lt
    go_wp2_with fail
    refine cO.mono ?_
    clear cO c0 c1 cl
    rintro e w15 ⟨hLz, hSz, hM⟩
    rw [eO.out] at hM
    obtain ⟨xb2, rb2, A2, n2, c2, q2, rfl, hq2, ⟨b2, _, hO2, _⟩, _⟩ := hM
    obtain rfl : n2 = 1 := by have h1 := OwnLots.len hO2; have h2 := map_len hq2; rw [h1] at h2; simpa using h2
    have hXz := Lib.hid (hX14.out.dstep hSz hL14.out.disk)
    have hclz := Lib.hid hLz.cln
    have cNz : Calls Tryz.prog 20 #[.pointer (some ⟨xb, 0, none⟩)] w15 fun e w' => e = .returned (.int .i64 2) ∧ Cln w15 w' := lg_next hXz.out
    clear hLz hSz hO2 hq2 eO hL14 hX14 hb14 hok
    go_wp2_with fail
    refine cNz.mono ?_
    clear cNz
    rintro e wz ⟨rfl, hqz⟩
    have hend := Lib.hid (cln_trans hclz.out hqz)
    clear hqz hclz hXz
    go_wp2_with fail
    go_ret
    exact ⟨rfl, hend.out⟩
end Go.Proofs.YtbemnfbndjolpaaGreatDoor
