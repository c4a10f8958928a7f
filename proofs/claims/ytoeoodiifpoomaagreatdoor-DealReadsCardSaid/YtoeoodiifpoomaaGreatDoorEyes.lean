import Derived.Test.YtoeoodiifpoomaaGreatDoorFirsts
import Derived.Deep.RegionWith
/- The walks of the document's Eye: parts read of bytes, one behind the other. -/
set_option linter.unusedSimpArgs false
set_option linter.unusedVariables false
set_option maxRecDepth 20000
namespace Go.Proofs.YtoeoodiifpoomaaGreatDoor
open Go.RowKit Moi
attribute [local go_sem] toList_str str_size less_ltB store_float
structure IsE (w : World) (p : Nat) (A : Option Addr) (n c : Nat) (bs : List UInt8) (a er : Nat) : Prop where
 blk : Blk w p 101 #[.slice A n c, .int .i64 (a : Nat), .int .i64 (er : Nat)]
 rd : RdBytes w A n bs
 le : a ≤ n
 cap : n ≤ c
 big : n ≤ 140737488355328
 ne : ∀ ad, A = some ad → ad.block ≠ p
section
variable {w w' : World} {p : Nat} {A : Option Addr} {n c : Nat} {bs : List UInt8} {a er : Nat}
theorem IsE.kept {S : Nat → Prop} (h : IsE w p A n c bs a er) (k : Kept S w w') (hp : ¬ S p) (hA : ∀ ad, A = some ad → ¬ S ad.block) : IsE w' p A n c bs a er :=
 ⟨h.blk.kept k hp, h.rd.kept k (fun ad e _ => hA ad e), h.le, h.cap, h.big, h.ne⟩
theorem IsE.cln (h : IsE w p A n c bs a er) (k : Cln w w') : IsE w' p A n c bs a er := h.kept (Kept.of_below (S := fun _ => False) k) id fun _ _ => id
theorem IsE.set2 (h : IsE w p A n c bs a er) (a' er' : Nat) (h' : a' ≤ n) {W : World} (hk : Kept (· = p) w W) (hb : Blk W p 101 #[.slice A n c, .int .i64 (a' : Nat), .int .i64 (er' : Nat)]) : IsE W p A n c bs a' er' :=
 ⟨hb, h.rd.kept hk (fun ad e _ => h.ne ad e), h', h.cap, h.big, h.ne⟩
end
theorem rd_drop {W : World} {A : Option Addr} {n c : Nat} {bs : List UInt8} (h : RdBytes W A n bs) (a : Nat) (ha : a ≤ n) (hc : n ≤ c) :
  RdBytes W (if c = a then A else Option.map (fun y => y.add a) A) (n - a) (bs.drop a) := by
 by_cases hca : c = a
 ·rw [if_pos hca]
  refine ⟨by rw [List.length_drop, h.len], h.spot, fun h0 => by omega⟩
 ·rw [if_neg hca]
  refine ⟨by rw [List.length_drop, h.len], fun ad e => ?_, fun h0 => ?_⟩
  ·cases A with
   | none => cases e
   | some x =>
    simp at e; subst e
    have := h.spot x rfl
    unfold Addr.add; split
    ·exact this
    ·rfl
  ·obtain ⟨b, o, rfl, hb, hcell⟩ := h.cells (by omega)
   refine ⟨b, o + a, ?_, hb, fun i hi => ?_⟩
   ·simp only [Option.map_some]
    congr 1
    unfold Addr.add; split
    ·rename_i hz; subst hz; rfl
    ·rfl
   ·have := hcell (a + i) (by omega)
    rw [Nat.add_assoc, this]
    simp [byteAt, List.getD, List.getElem?_drop]
def PartPost (w : World) (p : Nat) (A : Option Addr) (n c : Nat) (bs : List UInt8) (res : RRes MPart) (e : Ending) (w' : World) : Prop :=
 match res with
 | .ok (pt, a) => e = .returned (.agg (partCells pt)) ∧ IsE w' p A n c bs a 0 ∧ Kept (· = p) w w'
 | .error (cd, a) => e = .returned (.agg #[.int .u8 0, .int .u64 0, .int .i64 0, .int .u64 0, .string ⟨#[]⟩, .bool false]) ∧ IsE w' p A n c bs a cd ∧ Kept (· = p) w w'
set_option maxHeartbeats 8000000 in
theorem eye_failed (p : Nat) (A : Option Addr) (n c : Nat) (bs : List UInt8) (a er : Nat) (hz : er ≠ 0) (kind m : Int) (w : World) (hE : IsE w p A n c bs a er) :
  Calls Tryz.prog 96 #[.pointer (some ⟨p, 0, none⟩), .int .u8 kind, .int .i64 m] w fun e w' => e = .returned (.agg #[.int .u8 0, .int .u64 0, .int .i64 0, .int .u64 0, .string ⟨#[]⟩, .bool false]) ∧ Cln w w' := by
 have t1 : (((er : Nat) : Int) != 0) = true := by rw [bne_iff_ne]; omega
 have hb := hE.blk.alloc (.cells #[.int .u8 0, .int .u64 0, .int .i64 0, .int .u64 0, .string ⟨#[]⟩, .bool false] 132)
 have c0 := hE.blk.cell 0; have c1 := hE.blk.cell 1; have c2 := hE.blk.cell 2
 have hlt := hE.blk.lt
 have hne : ¬ p = w.heap.size := by omega
 go_enter Tryz.func96, Tryz.ntmps96
 go_wp2_with fail
 refine bodyPost_ret (v := .agg #[.int .u8 0, .int .u64 0, .int .i64 0, .int .u64 0, .string ⟨#[]⟩, .bool false]) ?_ rfl ⟨rfl, ?_⟩
 ·refine results_cell_row Tryz.results96 _ _ w.heap.size 132 #[.int .u8 0, .int .u64 0, .int .i64 0, .int .u64 0, .string ⟨#[]⟩, .bool false] (0, 0) _ ?_ ?_ Tryz.underlying132 ?_ ?_
  ·rfl
  ·exact Blk.new w _ _
  ·rfl
  ·exact size_part
 ·(repeat with_reducible first | exact cR _ | assumption | refine cA ?_ _ | refine cD ?_ | refine cN ?_ _ | refine cS ?_ (by first | omega | (simp <;> omega)) _)
set_option maxHeartbeats 40000000 in
theorem eye_part (p : Nat) (A : Option Addr) (n c : Nat) (bs : List UInt8) (a : Nat) (kind m : Int) (res : RRes MPart) (hpos : posR res ≤ n - a) (hnz : ∀ cd k, res = .error (cd, k) → cd ≠ 0)
  (hF : ∀ (W : World) (A' : Option Addr) (c' : Nat), n - a ≤ c' → RdBytes W A' (n - a) (bs.drop a) → Calls Tryz.prog 135 #[.slice A' (n - a) c', .int .u8 kind, .int .i64 m] W (FirstPost W res))
  (w : World) (hE : IsE w p A n c bs a 0) :
  Calls Tryz.prog 96 #[.pointer (some ⟨p, 0, none⟩), .int .u8 kind, .int .i64 m] w (PartPost w p A n c bs (shR a res)) := by
 have hla := hE.le
 have hcap := hE.cap
 have hbig := hE.big
 have hcl0 := Lib.hid (show Cln w (w.alloc (.cells #[.int .u8 0, .int .u64 0, .int .i64 0, .int .u64 0, .string ⟨#[]⟩, .bool false] 132)) from by (repeat with_reducible first | exact cR _ | assumption | refine cA ?_ _ | refine cD ?_ | refine cN ?_ _ | refine cS ?_ (by first | omega | (simp <;> omega)) _))
 have hE1 := Lib.hid (hE.cln hcl0.out)
 have hb := hE1.out.blk
 have c0 := hb.cell 0; have c1 := hb.cell 1; have c2 := hb.cell 2
 have hlt := hE.blk.lt
 have hrd := rd_drop (hE1.out.rd) a hE.le hE.cap
 have hrdA : Hid (c = a → RdBytes (w.alloc (.cells #[.int .u8 0, .int .u64 0, .int .i64 0, .int .u64 0, .string ⟨#[]⟩, .bool false] 132)) A (n - a) (bs.drop a)) := fun h => by rw [if_pos h] at hrd; exact hrd
 have hrdB : Hid (¬ c = a → RdBytes (w.alloc (.cells #[.int .u8 0, .int .u64 0, .int .i64 0, .int .u64 0, .string ⟨#[]⟩, .bool false] 132)) (Option.map (fun x => x.add a) A) (n - a) (bs.drop a)) := fun h => by rw [if_neg h] at hrd; exact hrd
 clear hrd hb
 have hb1 : (0 : Int) ≤ (a : Int) := by omega
 have hb2 : (a : Int) ≤ (n : Int) := by omega
 have hb3 : (n : Int) ≤ (c : Int) := by omega
 have hEH := Lib.hid hE
 clear hE
 have hcur0 : Cln (w.alloc (.cells #[.int .u8 0, .int .u64 0, .int .i64 0, .int .u64 0, .string ⟨#[]⟩, .bool false] 132)) (w.alloc (.cells #[.int .u8 0, .int .u64 0, .int .i64 0, .int .u64 0, .string ⟨#[]⟩, .bool false] 132)).drew := Below.drew (Below.refl _ _)
 have hFr : ∀ (W : World) (e : Ending) (w' : World), FirstPost W res e w' → Cln W w' ∧ ∃ (x0 x1 x2 x3 : Int) (x4 : ByteArray) (x5 : Bool) (kk cc : Nat), e = .returned (.tuple #[.agg #[.int .u8 x0, .int .u64 x1, .int .i64 x2, .int .u64 x3, .string x4, .bool x5], .int .i64 (kk : Nat), .int .i64 (cc : Nat)]) ∧ Hid ((∃ pt, res = .ok (pt, kk) ∧ cc = 0 ∧ partCells pt = #[.int .u8 x0, .int .u64 x1, .int .i64 x2, .int .u64 x3, .string x4, .bool x5]) ∨ (res = .error (cc, kk))) := by
  rintro W e w' ⟨hq, hres⟩
  refine ⟨hq, ?_⟩
  cases hR : res with
  | error er =>
   obtain ⟨cd, k⟩ := er
   rw [hR] at hres
   obtain ⟨x0, x1, x2, x3, x4, x5, rfl⟩ := hres
   exact ⟨x0, x1, x2, x3, x4, x5, k, cd, rfl, .inr rfl⟩
  | ok x =>
   obtain ⟨pt, k⟩ := x
   rw [hR] at hres
   obtain ⟨x0, x1, x2, x3, x4, x5, e6⟩ := partCells_typed pt
   have hres : e = .returned (.tuple #[.agg (partCells pt), .int .i64 (k : Nat), .int .i64 0]) := hres
   rw [e6] at hres
   subst hres
   exact ⟨x0, x1, x2, x3, x4, x5, k, 0, rfl, .inl ⟨pt, rfl, rfl, e6⟩⟩
 have hFA : ∀ W : World, Cln (w.alloc (.cells #[.int .u8 0, .int .u64 0, .int .i64 0, .int .u64 0, .string ⟨#[]⟩, .bool false] 132)) W → c = a → Calls Tryz.prog 135 #[.slice A (n - a) 0, .int .u8 kind, .int .i64 m] W fun e w' => Cln W w' ∧ ∃ (x0 x1 x2 x3 : Int) (x4 : ByteArray) (x5 : Bool) (kk cc : Nat), e = .returned (.tuple #[.agg #[.int .u8 x0, .int .u64 x1, .int .i64 x2, .int .u64 x3, .string x4, .bool x5], .int .i64 (kk : Nat), .int .i64 (cc : Nat)]) ∧ Hid ((∃ pt, res = .ok (pt, kk) ∧ cc = 0 ∧ partCells pt = #[.int .u8 x0, .int .u64 x1, .int .i64 x2, .int .u64 x3, .string x4, .bool x5]) ∨ (res = .error (cc, kk))) :=
  fun W h hca => (hF W A 0 (by omega) ((hrdA.out hca).cln h)).mono (hFr W)
 have hFB : ∀ W : World, Cln (w.alloc (.cells #[.int .u8 0, .int .u64 0, .int .i64 0, .int .u64 0, .string ⟨#[]⟩, .bool false] 132)) W → ¬ c = a → Calls Tryz.prog 135 #[.slice (Option.map (fun x => x.add a) A) (n - a) (c - a), .int .u8 kind, .int .i64 m] W fun e w' => Cln W w' ∧ ∃ (x0 x1 x2 x3 : Int) (x4 : ByteArray) (x5 : Bool) (kk cc : Nat), e = .returned (.tuple #[.agg #[.int .u8 x0, .int .u64 x1, .int .i64 x2, .int .u64 x3, .string x4, .bool x5], .int .i64 (kk : Nat), .int .i64 (cc : Nat)]) ∧ Hid ((∃ pt, res = .ok (pt, kk) ∧ cc = 0 ∧ partCells pt = #[.int .u8 x0, .int .u64 x1, .int .i64 x2, .int .u64 x3, .string x4, .bool x5]) ∨ (res = .error (cc, kk))) :=
  fun W h hca => (hF W _ (c - a) (by omega) ((hrdB.out hca).cln h)).mono (hFr W)
 have hsz1 : w.heap.size + 1 ≤ (w.alloc (.cells #[.int .u8 0, .int .u64 0, .int .i64 0, .int .u64 0, .string ⟨#[]⟩, .bool false] 132)).drew.heap.size := by show _ ≤ (w.alloc _).heap.size; rw [World.size_alloc]; omega
 have hcur1 : ∀ o : Obj, Cln (w.alloc (.cells #[.int .u8 0, .int .u64 0, .int .i64 0, .int .u64 0, .string ⟨#[]⟩, .bool false] 132)) ((w.alloc (.cells #[.int .u8 0, .int .u64 0, .int .i64 0, .int .u64 0, .string ⟨#[]⟩, .bool false] 132)).alloc o).drew := fun o => Below.drew ((Below.refl _ _).alloc (Nat.le_refl _) o)
 have h00 := Lib.hid (Blk.new w 132 #[.int .u8 0, .int .u64 0, .int .i64 0, .int .u64 0, .string ⟨#[]⟩, .bool false])
 have hNN : Hid (Blk ((w.alloc (.cells #[.int .u8 0, .int .u64 0, .int .i64 0, .int .u64 0, .string ⟨#[]⟩, .bool false] 132)).alloc (.cells #[.int .u8 0, .int .u64 0, .int .i64 0, .int .u64 0, .string ⟨#[]⟩, .bool false] 132)).drew (w.heap.size + 1) 132 #[.int .u8 0, .int .u64 0, .int .i64 0, .int .u64 0, .string ⟨#[]⟩, .bool false]) := by
  have h := (Blk.new (w.alloc (.cells #[.int .u8 0, .int .u64 0, .int .i64 0, .int .u64 0, .string ⟨#[]⟩, .bool false] 132)) 132 #[.int .u8 0, .int .u64 0, .int .i64 0, .int .u64 0, .string ⟨#[]⟩, .bool false]).drew
  rw [World.size_alloc] at h
  exact h
 have hpne : ¬ p = w.heap.size := by omega
 have hpne1 : ¬ p = w.heap.size + 1 := by omega
 by_cases hca : c = a
 ·go_enter Tryz.func96, Tryz.ntmps96
  go_wp2_with fail
  go_region_with (first
   |(go_at_call 135; with_reducible refine (hFA _ hcur0 hca).mono ?_; rintro e w2 ⟨hq, x0, x1, x2, x3, x4, x5, kk, cc, rfl, hres⟩; have hE2 := Lib.hid (hE1.out.cln (cln_trans hcur0 hq)); have hg2 : w.heap.size + 1 ≤ w2.heap.size := Nat.le_trans hsz1 hq.size; have hcl2 := Lib.hid (cln_trans hcl0.out (cln_trans hcur0 hq)); have h0 := Lib.hid (h00.out.cln (cln_trans hcur0 hq)); have hN := Lib.hid (Blk.new w2 132 #[.int .u8 0, .int .u64 0, .int .i64 0, .int .u64 0, .string ⟨#[]⟩, .bool false]); have cE := hE2.out.blk.cell; have cN := hN.out.cell; have fN := hN.out.frozen; have lN := hN.out.lt)
   |(go_at_call 135; with_reducible refine (hFA _ (hcur1 _) hca).mono ?_; rintro e w2 ⟨hq, x0, x1, x2, x3, x4, x5, kk, cc, rfl, hres⟩; have hE2 := Lib.hid (hE1.out.cln (cln_trans (hcur1 _) hq)); have hcl2 := Lib.hid (cln_trans hcl0.out (cln_trans (hcur1 _) hq)); have h0 := Lib.hid (h00.out.cln (cln_trans (hcur1 _) hq)); have hN := Lib.hid (hNN.out.cln hq); have cE := hE2.out.blk.cell; have cN := hN.out.cell; have fN := hN.out.frozen; have lN := hN.out.lt))
  all_goals
   have hlE := hE2.out.blk.lt
   have fE := hE2.out.blk.frozen
   have l0 := h0.out.lt
   have f0 := h0.out.frozen
   have d0 := h0.out.cell
   have hkk : kk ≤ n - a := by
    rcases hres.out with ⟨pt, hR, _, _⟩ | hR <;> (rw [hR] at hpos; exact hpos)
   have w1 : IntKind.i64.wrap ((a : Int) + (kk : Int)) = (a : Int) + (kk : Int) := IntWalk.i64_in _ (by omega)
   by_cases hz : cc = 0
   case pos =>
    subst hz
    obtain ⟨pt, hR, e6⟩ : ∃ pt, res = .ok (pt, kk) ∧ partCells pt = #[.int .u8 x0, .int .u64 x1, .int .i64 x2, .int .u64 x3, .string x4, .bool x5] := by
     rcases hres.out with ⟨pt, hR, _, e6⟩ | hR
     ·exact ⟨pt, hR, e6⟩
     ·exact absurd rfl (hnz _ _ hR)
    have hRH := Lib.hid hR
    clear hres hR hF hFA hFB hFr hnz hrdA hrdB hpos
    (try go_wp2_with fail)
    refine bodyPost_ret (v := .agg #[.int .u8 x0, .int .u64 x1, .int .i64 x2, .int .u64 x3, .string x4, .bool x5]) ?_ rfl ?_
    ·refine results_cell_row Tryz.results96 _ _ w.heap.size 132 #[.int .u8 x0, .int .u64 x1, .int .i64 x2, .int .u64 x3, .string x4, .bool x5] (0, 0) _ ?_ ?_ Tryz.underlying132 ?_ ?_
     ·rfl
     ·show Blk _ w.heap.size 132 _
      (try with_reducible refine Blk.alloc ?_ _)
      with_reducible refine Blk.store6 (a0 := .int .u8 0) (a1 := .int .u64 0) (a2 := .int .i64 0) (a3 := .int .u64 0) (a4 := .string ⟨#[]⟩) (a5 := .bool false) ?_
      repeat (first | with_reducible refine Blk.far ?_ (by dsimp only; omega) _ | with_reducible exact h0.out | with_reducible exact h0.out.alloc _ | with_reducible refine Blk.drew ?_)
     ·rfl
     ·exact size_part
    ·rw [hRH.out]
     refine ⟨by rw [e6], hEH.out.set2 (a + kk) 0 (by omega) ?_ ?_, ?_⟩
     ·repeat (first | with_reducible refine Kept.setCell ?_ (fun hl => by first | rfl | (exfalso; dsimp only at hl; omega)) _ | with_reducible refine Kept.alloc ?_ _ | with_reducible refine Kept.drew ?_ | with_reducible exact Kept.of_below hcl2.out)
     ·rw [Int.natCast_add]
      (try with_reducible refine Blk.alloc ?_ _)
      iterate 6 with_reducible refine Blk.far ?_ (by dsimp only; omega) _
      refine Blk.store1 (cs := #[.slice A n c, .int .i64 ((a : Int) + (kk : Int)), .int .i64 ((0 : Nat) : Int)]) ?_ 2 _ rfl
      refine Blk.store1 (cs := #[.slice A n c, .int .i64 (a : Nat), .int .i64 ((0 : Nat) : Int)]) ?_ 1 _ rfl
      repeat (first | with_reducible refine Blk.far ?_ (by dsimp only; omega) _ | with_reducible exact hE2.out.blk | with_reducible exact hE2.out.blk.alloc _ | with_reducible refine Blk.drew ?_)
     ·repeat (first | with_reducible refine Kept.setCell ?_ (fun hl => by first | rfl | (exfalso; dsimp only at hl; omega)) _ | with_reducible refine Kept.alloc ?_ _ | with_reducible refine Kept.drew ?_ | with_reducible exact Kept.of_below hcl2.out)
   case neg =>
    have hR : res = .error (cc, kk) := by
     rcases hres.out with ⟨pt, hR, h0, e6⟩ | hR
     ·exact absurd h0 hz
     ·exact hR
    have t1 : (((cc : Nat) : Int) != 0) = true := by rw [bne_iff_ne]; omega
    have hRH := Lib.hid hR
    clear hres hR hF hFA hFB hFr hnz hrdA hrdB hpos hz
    (try go_wp2_with fail)
    refine bodyPost_ret (v := .agg #[.int .u8 0, .int .u64 0, .int .i64 0, .int .u64 0, .string ⟨#[]⟩, .bool false]) ?_ rfl ?_
    ·refine results_cell_row Tryz.results96 _ _ w.heap.size 132 #[.int .u8 0, .int .u64 0, .int .i64 0, .int .u64 0, .string ⟨#[]⟩, .bool false] (0, 0) _ ?_ ?_ Tryz.underlying132 ?_ ?_
     ·rfl
     ·show Blk _ w.heap.size 132 _
      (try with_reducible refine Blk.alloc ?_ _)
      with_reducible refine Blk.store6 (a0 := .int .u8 0) (a1 := .int .u64 0) (a2 := .int .i64 0) (a3 := .int .u64 0) (a4 := .string ⟨#[]⟩) (a5 := .bool false) ?_
      repeat (first | with_reducible refine Blk.far ?_ (by dsimp only; omega) _ | with_reducible exact h0.out | with_reducible exact h0.out.alloc _ | with_reducible refine Blk.drew ?_)
     ·rfl
     ·exact size_part
    ·rw [hRH.out]
     refine ⟨rfl, hEH.out.set2 (a + kk) cc (by omega) ?_ ?_, ?_⟩
     ·repeat (first | with_reducible refine Kept.setCell ?_ (fun hl => by first | rfl | (exfalso; dsimp only at hl; omega)) _ | with_reducible refine Kept.alloc ?_ _ | with_reducible refine Kept.drew ?_ | with_reducible exact Kept.of_below hcl2.out)
     ·rw [Int.natCast_add]
      (try with_reducible refine Blk.alloc ?_ _)
      iterate 6 with_reducible refine Blk.far ?_ (by dsimp only; omega) _
      refine Blk.store1 (cs := #[.slice A n c, .int .i64 ((a : Int) + (kk : Int)), .int .i64 ((0 : Nat) : Int)]) ?_ 2 _ rfl
      refine Blk.store1 (cs := #[.slice A n c, .int .i64 (a : Nat), .int .i64 ((0 : Nat) : Int)]) ?_ 1 _ rfl
      repeat (first | with_reducible refine Blk.far ?_ (by dsimp only; omega) _ | with_reducible exact hE2.out.blk | with_reducible exact hE2.out.blk.alloc _ | with_reducible refine Blk.drew ?_)
     ·repeat (first | with_reducible refine Kept.setCell ?_ (fun hl => by first | rfl | (exfalso; dsimp only at hl; omega)) _ | with_reducible refine Kept.alloc ?_ _ | with_reducible refine Kept.drew ?_ | with_reducible exact Kept.of_below hcl2.out)
 ·go_enter Tryz.func96, Tryz.ntmps96
  go_wp2_with fail
  go_region_with (first
   |(go_at_call 135; with_reducible refine (hFB _ hcur0 hca).mono ?_; rintro e w2 ⟨hq, x0, x1, x2, x3, x4, x5, kk, cc, rfl, hres⟩; have hE2 := Lib.hid (hE1.out.cln (cln_trans hcur0 hq)); have hg2 : w.heap.size + 1 ≤ w2.heap.size := Nat.le_trans hsz1 hq.size; have hcl2 := Lib.hid (cln_trans hcl0.out (cln_trans hcur0 hq)); have h0 := Lib.hid (h00.out.cln (cln_trans hcur0 hq)); have hN := Lib.hid (Blk.new w2 132 #[.int .u8 0, .int .u64 0, .int .i64 0, .int .u64 0, .string ⟨#[]⟩, .bool false]); have cE := hE2.out.blk.cell; have cN := hN.out.cell; have fN := hN.out.frozen; have lN := hN.out.lt)
   |(go_at_call 135; with_reducible refine (hFB _ (hcur1 _) hca).mono ?_; rintro e w2 ⟨hq, x0, x1, x2, x3, x4, x5, kk, cc, rfl, hres⟩; have hE2 := Lib.hid (hE1.out.cln (cln_trans (hcur1 _) hq)); have hcl2 := Lib.hid (cln_trans hcl0.out (cln_trans (hcur1 _) hq)); have h0 := Lib.hid (h00.out.cln (cln_trans (hcur1 _) hq)); have hN := Lib.hid (hNN.out.cln hq); have cE := hE2.out.blk.cell; have cN := hN.out.cell; have fN := hN.out.frozen; have lN := hN.out.lt))
  all_goals
   have hlE := hE2.out.blk.lt
   have fE := hE2.out.blk.frozen
   have l0 := h0.out.lt
   have f0 := h0.out.frozen
   have d0 := h0.out.cell
   have hkk : kk ≤ n - a := by
    rcases hres.out with ⟨pt, hR, _, _⟩ | hR <;> (rw [hR] at hpos; exact hpos)
   have w1 : IntKind.i64.wrap ((a : Int) + (kk : Int)) = (a : Int) + (kk : Int) := IntWalk.i64_in _ (by omega)
   by_cases hz : cc = 0
   case pos =>
    subst hz
    obtain ⟨pt, hR, e6⟩ : ∃ pt, res = .ok (pt, kk) ∧ partCells pt = #[.int .u8 x0, .int .u64 x1, .int .i64 x2, .int .u64 x3, .string x4, .bool x5] := by
     rcases hres.out with ⟨pt, hR, _, e6⟩ | hR
     ·exact ⟨pt, hR, e6⟩
     ·exact absurd rfl (hnz _ _ hR)
    have hRH := Lib.hid hR
    clear hres hR hF hFA hFB hFr hnz hrdA hrdB hpos
    (try go_wp2_with fail)
    refine bodyPost_ret (v := .agg #[.int .u8 x0, .int .u64 x1, .int .i64 x2, .int .u64 x3, .string x4, .bool x5]) ?_ rfl ?_
    ·refine results_cell_row Tryz.results96 _ _ w.heap.size 132 #[.int .u8 x0, .int .u64 x1, .int .i64 x2, .int .u64 x3, .string x4, .bool x5] (0, 0) _ ?_ ?_ Tryz.underlying132 ?_ ?_
     ·rfl
     ·show Blk _ w.heap.size 132 _
      (try with_reducible refine Blk.alloc ?_ _)
      with_reducible refine Blk.store6 (a0 := .int .u8 0) (a1 := .int .u64 0) (a2 := .int .i64 0) (a3 := .int .u64 0) (a4 := .string ⟨#[]⟩) (a5 := .bool false) ?_
      repeat (first | with_reducible refine Blk.far ?_ (by dsimp only; omega) _ | with_reducible exact h0.out | with_reducible exact h0.out.alloc _ | with_reducible refine Blk.drew ?_)
     ·rfl
     ·exact size_part
    ·rw [hRH.out]
     refine ⟨by rw [e6], hEH.out.set2 (a + kk) 0 (by omega) ?_ ?_, ?_⟩
     ·repeat (first | with_reducible refine Kept.setCell ?_ (fun hl => by first | rfl | (exfalso; dsimp only at hl; omega)) _ | with_reducible refine Kept.alloc ?_ _ | with_reducible refine Kept.drew ?_ | with_reducible exact Kept.of_below hcl2.out)
     ·rw [Int.natCast_add]
      (try with_reducible refine Blk.alloc ?_ _)
      iterate 6 with_reducible refine Blk.far ?_ (by dsimp only; omega) _
      refine Blk.store1 (cs := #[.slice A n c, .int .i64 ((a : Int) + (kk : Int)), .int .i64 ((0 : Nat) : Int)]) ?_ 2 _ rfl
      refine Blk.store1 (cs := #[.slice A n c, .int .i64 (a : Nat), .int .i64 ((0 : Nat) : Int)]) ?_ 1 _ rfl
      repeat (first | with_reducible refine Blk.far ?_ (by dsimp only; omega) _ | with_reducible exact hE2.out.blk | with_reducible exact hE2.out.blk.alloc _ | with_reducible refine Blk.drew ?_)
     ·repeat (first | with_reducible refine Kept.setCell ?_ (fun hl => by first | rfl | (exfalso; dsimp only at hl; omega)) _ | with_reducible refine Kept.alloc ?_ _ | with_reducible refine Kept.drew ?_ | with_reducible exact Kept.of_below hcl2.out)
   case neg =>
    have hR : res = .error (cc, kk) := by
     rcases hres.out with ⟨pt, hR, h0, e6⟩ | hR
     ·exact absurd h0 hz
     ·exact hR
    have t1 : (((cc : Nat) : Int) != 0) = true := by rw [bne_iff_ne]; omega
    have hRH := Lib.hid hR
    clear hres hR hF hFA hFB hFr hnz hrdA hrdB hpos hz
    (try go_wp2_with fail)
    refine bodyPost_ret (v := .agg #[.int .u8 0, .int .u64 0, .int .i64 0, .int .u64 0, .string ⟨#[]⟩, .bool false]) ?_ rfl ?_
    ·refine results_cell_row Tryz.results96 _ _ w.heap.size 132 #[.int .u8 0, .int .u64 0, .int .i64 0, .int .u64 0, .string ⟨#[]⟩, .bool false] (0, 0) _ ?_ ?_ Tryz.underlying132 ?_ ?_
     ·rfl
     ·show Blk _ w.heap.size 132 _
      (try with_reducible refine Blk.alloc ?_ _)
      with_reducible refine Blk.store6 (a0 := .int .u8 0) (a1 := .int .u64 0) (a2 := .int .i64 0) (a3 := .int .u64 0) (a4 := .string ⟨#[]⟩) (a5 := .bool false) ?_
      repeat (first | with_reducible refine Blk.far ?_ (by dsimp only; omega) _ | with_reducible exact h0.out | with_reducible exact h0.out.alloc _ | with_reducible refine Blk.drew ?_)
     ·rfl
     ·exact size_part
    ·rw [hRH.out]
     refine ⟨rfl, hEH.out.set2 (a + kk) cc (by omega) ?_ ?_, ?_⟩
     ·repeat (first | with_reducible refine Kept.setCell ?_ (fun hl => by first | rfl | (exfalso; dsimp only at hl; omega)) _ | with_reducible refine Kept.alloc ?_ _ | with_reducible refine Kept.drew ?_ | with_reducible exact Kept.of_below hcl2.out)
     ·rw [Int.natCast_add]
      (try with_reducible refine Blk.alloc ?_ _)
      iterate 6 with_reducible refine Blk.far ?_ (by dsimp only; omega) _
      refine Blk.store1 (cs := #[.slice A n c, .int .i64 ((a : Int) + (kk : Int)), .int .i64 ((0 : Nat) : Int)]) ?_ 2 _ rfl
      refine Blk.store1 (cs := #[.slice A n c, .int .i64 (a : Nat), .int .i64 ((0 : Nat) : Int)]) ?_ 1 _ rfl
      repeat (first | with_reducible refine Blk.far ?_ (by dsimp only; omega) _ | with_reducible exact hE2.out.blk | with_reducible exact hE2.out.blk.alloc _ | with_reducible refine Blk.drew ?_)
     ·repeat (first | with_reducible refine Kept.setCell ?_ (fun hl => by first | rfl | (exfalso; dsimp only at hl; omega)) _ | with_reducible refine Kept.alloc ?_ _ | with_reducible refine Kept.drew ?_ | with_reducible exact Kept.of_below hcl2.out)
theorem shR_mapR {α β : Type} (s : Nat) (f : α → β) (r : RRes α) : shR s (mapR f r) = mapR f (shR s r) := by
 rcases r with ⟨c, a⟩ | ⟨x, a⟩ <;> rfl
theorem posR_mapR {α β : Type} (f : α → β) (r : RRes α) : posR (mapR f r) = posR r := by
 rcases r with ⟨c, a⟩ | ⟨x, a⟩ <;> rfl
theorem mapR_err {α β : Type} {f : α → β} {r : RRes α} {cd k : Nat} (h : mapR f r = .error (cd, k)) : r = .error (cd, k) := by
 rcases r with ⟨c, a⟩ | ⟨x, a⟩
 ·have h2 : (Except.error (c, a) : RRes β) = .error (cd, k) := h
  injection h2 with h2; rw [h2]
 ·cases h
section
variable (p : Nat) (A : Option Addr) (n c : Nat) (bs : List UInt8) (a : Nat) (w : World) (hE : IsE w p A n c bs a 0)
include hE
theorem part_u (m : Int) : Calls Tryz.prog 96 #[.pointer (some ⟨p, 0, none⟩), .int .u8 117, .int .i64 m] w (PartPost w p A n c bs (mapR .u (rU bs a))) := by
 have hl : (bs.drop a).length = n - a := by rw [List.length_drop, hE.rd.len]
 have h := eye_part p A n c bs a 117 m (mapR .u (rU (bs.drop a) 0)) (by rw [posR_mapR, ← hl]; exact rU_pos _) (fun cd k h => rU_nz (mapR_err h))
  (fun W A' c' hc hr => first_u A' (n - a) c' (bs.drop a) (by have := hE.big; omega) m W hr) w hE
 rw [shR_mapR, ← rU_sh] at h
 exact h
theorem part_i (m : Int) : Calls Tryz.prog 96 #[.pointer (some ⟨p, 0, none⟩), .int .u8 105, .int .i64 m] w (PartPost w p A n c bs (mapR .i (rI bs a))) := by
 have hl : (bs.drop a).length = n - a := by rw [List.length_drop, hE.rd.len]
 have h := eye_part p A n c bs a 105 m (mapR .i (rI (bs.drop a) 0)) (by rw [posR_mapR, ← hl]; exact rI_pos _) (fun cd k h => rI_nz (mapR_err h))
  (fun W A' c' hc hr => first_i A' (n - a) c' (bs.drop a) (by have := hE.big; omega) m W hr) w hE
 rw [shR_mapR, ← rI_sh] at h
 exact h
theorem part_f (m : Int) : Calls Tryz.prog 96 #[.pointer (some ⟨p, 0, none⟩), .int .u8 102, .int .i64 m] w (PartPost w p A n c bs (mapR (fun x => .f (fkey x)) (rF bs a))) := by
 have hl : (bs.drop a).length = n - a := by rw [List.length_drop, hE.rd.len]
 have h := eye_part p A n c bs a 102 m (mapR (fun x => .f (fkey x)) (rF (bs.drop a) 0)) (by rw [posR_mapR, ← hl]; exact rF_pos _) (fun cd k h => rF_nz (mapR_err h))
  (fun W A' c' hc hr => first_f A' (n - a) c' (bs.drop a) (by have := hE.big; omega) m W hr) w hE
 rw [shR_mapR, ← rF_sh] at h
 exact h
theorem part_s (M : Nat) (hM : M ≤ 1000000) : Calls Tryz.prog 96 #[.pointer (some ⟨p, 0, none⟩), .int .u8 115, .int .i64 (M : Nat)] w (PartPost w p A n c bs (mapR .s (rS M bs a))) := by
 have hl : (bs.drop a).length = n - a := by rw [List.length_drop, hE.rd.len]
 have h := eye_part p A n c bs a 115 (M : Nat) (mapR .s (rS M (bs.drop a) 0)) (by rw [posR_mapR, ← hl]; exact rS_pos _ _) (fun cd k h => rS_nz (mapR_err h))
  (fun W A' c' hc hr => first_s A' (n - a) c' (bs.drop a) (by have := hE.big; omega) hc M hM W hr) w hE
 rw [shR_mapR, ← rS_sh] at h
 exact h
end
theorem fail_new (p : Nat) (A : Option Addr) (n c : Nat) (bs : List UInt8) (a : Nat) (cd : Nat) (w : World) (hE : IsE w p A n c bs a 0) :
  Calls Tryz.prog 62 #[.pointer (some ⟨p, 0, none⟩), .int .i64 (cd : Nat)] w fun e w' => e = .returned (.tuple #[]) ∧ IsE w' p A n c bs a cd ∧ Kept (· = p) w w' := by
 have c2 := hE.blk.cell 2
 have f2 := hE.blk.frozen 2
 have hlt := hE.blk.lt
 have hEH := Lib.hid hE
 go_enter Tryz.func62, Tryz.ntmps62
 go_wp2_with fail
 go_end0
 have hk : Kept (· = p) w (w.setCell ⟨p, 2, none⟩ (.int .i64 (cd : Nat))) := (Kept.refl (fun i => i = p) w).setCell (p := ⟨p, 2, none⟩) (fun _ => rfl) _
 exact ⟨rfl, hEH.out.set2 a cd hEH.out.le hk (Blk.store1 hEH.out.blk 2 _ rfl), hk⟩
theorem fail_old (p : Nat) (A : Option Addr) (n c : Nat) (bs : List UInt8) (a er : Nat) (hz : er ≠ 0) (cd : Int) (w : World) (hE : IsE w p A n c bs a er) :
  Calls Tryz.prog 62 #[.pointer (some ⟨p, 0, none⟩), .int .i64 cd] w fun e w' => e = .returned (.tuple #[]) ∧ w = w' := by
 have c2 := hE.blk.cell 2
 have hlt := hE.blk.lt
 have t1 : (((er : Nat) : Int) == 0) = false := by rw [beq_eq_false_iff_ne]; omega
 go_enter Tryz.func62, Tryz.ntmps62
 go_wp2_with fail
 go_end0
 exact ⟨rfl, rfl⟩
def UptoPost (w : World) (p : Nat) (A : Option Addr) (n c : Nat) (bs : List UInt8) (res : RRes Nat) (e : Ending) (w' : World) : Prop :=
 match res with
 | .ok (x, a) => e = .returned (.int .i64 (x : Nat)) ∧ IsE w' p A n c bs a 0 ∧ Kept (· = p) w w'
 | .error (cd, a) => e = .returned (.int .i64 0) ∧ IsE w' p A n c bs a cd ∧ Kept (· = p) w w'
set_option maxHeartbeats 8000000 in
theorem upto_new (p : Nat) (A : Option Addr) (n c : Nat) (bs : List UInt8) (a M : Nat) (hM : M ≤ 140737488355328) (w : World) (hE : IsE w p A n c bs a 0) :
  Calls Tryz.prog 61 #[.pointer (some ⟨p, 0, none⟩), .int .i64 (M : Nat)] w (UptoPost w p A n c bs (rUpto M bs a)) := by
 have hp0 := hE.blk.lt
 go_enter Tryz.func61, Tryz.ntmps61
 go_wp2_with fail
 refine (part_u p A n c bs a w hE 0).mono ?_
 intro e w1 hP
 cases hU : rU bs a with
 | error er =>
  obtain ⟨cd, a1⟩ := er
  rw [hU] at hP
  obtain ⟨rfl, hE1, hk⟩ := hP
  have hI : Hid (rUpto M bs a = .error (cd, a1)) := by unfold Hid rUpto; rw [hU]
  have hnz := rU_nz hU
  have t1 : (((cd : Nat) : Int) == 0) = false := by rw [beq_eq_false_iff_ne]; simp at hnz; omega
  have t2 : (((cd : Nat) : Int) != 0) = true := by rw [bne_iff_ne]; simp at hnz; omega
  have c2 := hE1.blk.cell 2
  have hlt := hE1.blk.lt
  have hne : ¬ p = w1.heap.size := by omega
  have hE1H := Lib.hid hE1
  have hkH := Lib.hid hk
  clear hE hE1 hk hU hnz
  go_wp2_with fail
  go_ret
  show UptoPost _ _ _ _ _ _ _ _ _
  rw [hI.out]
  exact ⟨rfl, hE1H.out.cln (by (repeat with_reducible first | exact cR _ | assumption | refine cA ?_ _ | refine cD ?_ | refine cN ?_ _ | refine cS ?_ (by first | omega | (simp <;> omega)) _)), by repeat (first | with_reducible refine Kept.alloc ?_ _ | with_reducible exact hkH.out)⟩
 | ok x =>
  obtain ⟨x, a1⟩ := x
  rw [hU] at hP
  have hxl := rU_lt hU
  obtain ⟨rfl, hE1, hk⟩ := hP
  rw [show partCells (.u x) = #[.int .u8 117, .int .u64 (x : Nat), .int .i64 0, .int .u64 0, .string ⟨#[]⟩, .bool false] from rfl]
  have wM : IntKind.u64.wrap ((M : Nat) : Int) = ((M : Nat) : Int) := IntWalk.u64_in _ (by omega)
  have c2 := hE1.blk.cell 2
  have f2 := hE1.blk.frozen 2
  have hlt := hE1.blk.lt
  have hne : ¬ p = w1.heap.size := by omega
  have hne' : ¬ w1.heap.size = p := by omega
  have hE1H := Lib.hid hE1
  have hkH := Lib.hid hk
  by_cases h1 : M < x
  ·have hI : Hid (rUpto M bs a = .error (1, a1)) := by unfold Hid rUpto; simp only [hU]; rw [if_pos h1]
   have t1 : decide ((M : Int) < (x : Int)) = true := decide_eq_true (by omega)
   have t1' : decide (M < x) = true := decide_eq_true h1
   clear hE hE1 hk hU h1
   go_wp2_with fail
   go_ret
   show UptoPost _ _ _ _ _ _ _ _ _
   rw [hI.out]
   have hk2 : Kept (· = p) w1 (w1.setCell ⟨p, 2, none⟩ (.int .i64 1)) := (Kept.refl (fun i => i = p) w1).setCell (p := ⟨p, 2, none⟩) (fun _ => rfl) _
   refine ⟨rfl, ?_, ?_⟩
   ·exact (hE1H.out.set2 a1 1 hE1H.out.le hk2 (Blk.store1 hE1H.out.blk 2 _ rfl)).cln (by (repeat with_reducible first | exact cR _ | assumption | refine cA ?_ _ | refine cD ?_ | refine cN ?_ _ | refine cS ?_ (by first | omega | (simp <;> omega)) _))
   ·refine Kept.alloc ?_ _
    exact hkH.out.setCell (fun _ => rfl) _
  ·have hI : Hid (rUpto M bs a = .ok (x, a1)) := by unfold Hid rUpto; simp only [hU]; rw [if_neg h1]
   have t1 : decide ((M : Int) < (x : Int)) = false := decide_eq_false (by omega)
   have t1' : decide (M < x) = false := decide_eq_false h1
   have wx : IntKind.i64.wrap ((x : Nat) : Int) = ((x : Nat) : Int) := IntWalk.i64_in _ (by omega)
   clear hE hE1 hk hU h1
   go_wp2_with fail
   go_ret
   show UptoPost _ _ _ _ _ _ _ _ _
   rw [hI.out]
   exact ⟨rfl, hE1H.out.cln (by (repeat with_reducible first | exact cR _ | assumption | refine cA ?_ _ | refine cD ?_ | refine cN ?_ _ | refine cS ?_ (by first | omega | (simp <;> omega)) _)), by repeat (first | with_reducible refine Kept.alloc ?_ _ | with_reducible exact hkH.out)⟩
theorem upto_old (p : Nat) (A : Option Addr) (n c : Nat) (bs : List UInt8) (a er : Nat) (hz : er ≠ 0) (M : Int) (w : World) (hE : IsE w p A n c bs a er) :
  Calls Tryz.prog 61 #[.pointer (some ⟨p, 0, none⟩), .int .i64 M] w fun e w' => e = .returned (.int .i64 0) ∧ Cln w w' := by
 have t1 : (((er : Nat) : Int) == 0) = false := by rw [beq_eq_false_iff_ne]; omega
 have t2 : (((er : Nat) : Int) != 0) = true := by rw [bne_iff_ne]; omega
 go_enter Tryz.func61, Tryz.ntmps61
 go_wp2_with fail
 refine (eye_failed p A n c bs a er hz 117 0 w hE).mono ?_
 rintro e w1 ⟨rfl, hq⟩
 have hE1 := hE.cln hq
 have c2 := hE1.blk.cell 2
 have hlt := hE1.blk.lt
 have hne : ¬ p = w1.heap.size := by omega
 have hqH := hq
 clear hE hE1
 go_wp2_with fail
 go_ret
 exact ⟨rfl, cln_trans hqH (by (repeat with_reducible first | exact cR _ | assumption | refine cA ?_ _ | refine cD ?_ | refine cN ?_ _ | refine cS ?_ (by first | omega | (simp <;> omega)) _))⟩
theorem end_full (p : Nat) (A : Option Addr) (n c : Nat) (bs : List UInt8) (er : Nat) (w : World) (hE : IsE w p A n c bs n er) :
  Calls Tryz.prog 64 #[.pointer (some ⟨p, 0, none⟩)] w fun e w' => e = .returned (.tuple #[]) ∧ Cln w w' := by
 have c0 := hE.blk.cell 0; have c1 := hE.blk.cell 1
 have t1 : decide ((n : Int) < (n : Int)) = false := decide_eq_false (by omega)
 clear hE
 go_enter Tryz.func64, Tryz.ntmps64
 go_wp2_with fail
 go_quiet (fail)
 go_wp2_with fail
 go_end0
 exact ⟨rfl, by (repeat with_reducible first | exact cR _ | assumption | refine cA ?_ _ | refine cD ?_ | refine cN ?_ _ | refine cS ?_ (by first | omega | (simp <;> omega)) _)⟩
theorem end_left (p : Nat) (A : Option Addr) (n c : Nat) (bs : List UInt8) (a : Nat) (ha : a < n) (w : World) (hE : IsE w p A n c bs a 0) :
  Calls Tryz.prog 64 #[.pointer (some ⟨p, 0, none⟩)] w fun e w' => e = .returned (.tuple #[]) ∧ IsE w' p A n c bs a 3 ∧ Kept (· = p) w w' := by
 have c0 := hE.blk.cell 0; have c1 := hE.blk.cell 1
 have t1 : decide ((a : Int) < (n : Int)) = true := decide_eq_true (by omega)
 have t1' : decide (a < n) = true := decide_eq_true ha
 have hEH := Lib.hid hE
 clear hE
 go_enter Tryz.func64, Tryz.ntmps64
 go_wp2_with fail
 go_quiet (fail)
 go_wp2_with fail
 refine (fail_new p A n c bs a 3 _ (hEH.out.cln (by (repeat with_reducible first | exact cR _ | assumption | refine cA ?_ _ | refine cD ?_ | refine cN ?_ _ | refine cS ?_ (by first | omega | (simp <;> omega)) _)))).mono ?_
 rintro e w1 ⟨rfl, hE1, hk⟩
 have hE1 := Lib.hid hE1
 have hk := Lib.hid (show Kept (· = p) w w1 from ⟨hk.os, hk.tape, hk.output, hk.size, hk.block⟩)
 go_wp2_with fail
 go_end0
 exact ⟨rfl, hE1.out, hk.out⟩
end Go.Proofs.YtoeoodiifpoomaaGreatDoor
