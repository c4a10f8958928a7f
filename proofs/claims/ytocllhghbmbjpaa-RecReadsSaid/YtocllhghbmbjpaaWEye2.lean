/- The walk of the document's Part: the next part of an Eye that hasn't failed. -/
import Derived.Test.YtocllhghbmbjpaaWEye
import Derived.Deep.RegionWith
set_option linter.unusedSimpArgs false
set_option linter.unusedVariables false
set_option maxRecDepth 20000
namespace Go.Proofs.Ytocllhghbmbjpaa
open Go.RowKit Moi
attribute [local go_sem] toList_str str_size less_ltB store_float
set_option maxHeartbeats 8000000 in
theorem eye_part (p : Nat) (A : Option Addr) (n c : Nat) (bs : List UInt8) (a : Nat) (kind m : Int) (res : RRes MPart) (hpos : posR res ≤ n - a) (hnz : ∀ cd k, res = .error (cd, k) → cd ≠ 0)
    (hF : ∀ (W : World) (A' : Option Addr) (c' : Nat), n - a ≤ c' → RdBytes W A' (n - a) (bs.drop a) → Calls Try.prog 83 #[.slice A' (n - a) c', .int .u8 kind, .int .i64 m] W (FirstPost W res))
    (w : World) (hE : IsE w p A n c bs a 0) :
    Calls Try.prog 71 #[.pointer (some ⟨p, 0, none⟩), .int .u8 kind, .int .i64 m] w (PartPost w p A n c bs (shR a res)) := by
  have hla := hE.le
  have hcap := hE.cap
  have hbig := hE.big
  have hcl0 := Lib.hid (show Cln w (w.alloc (.cells #[.int .u8 0, .int .u64 0, .int .i64 0, .int .u64 0, .string ⟨#[]⟩, .bool false] 96)) from by (repeat (first | (with_reducible exact Below.refl _ _) | (with_reducible assumption) | (with_reducible refine Below.setCell ?_ (by first | omega | (simp; done) | (simp; omega)) _) | (with_reducible refine Below.alloc ?_ (by first | omega | (simp; done) | (simp; omega)) _) | (with_reducible refine Below.drew ?_) | (with_reducible refine below_drewN ?_ _))))
  have hE1 := Lib.hid (hE.cln hcl0.out)
  have hb := hE1.out.blk
  have c0 := hb.cell 0; have c1 := hb.cell 1; have c2 := hb.cell 2
  have hlt := hE.blk.lt
  have hrd := rd_drop (hE1.out.rd) a hE.le hE.cap
  have hrdA : Hid (c = a → RdBytes (w.alloc (.cells #[.int .u8 0, .int .u64 0, .int .i64 0, .int .u64 0, .string ⟨#[]⟩, .bool false] 96)) A (n - a) (bs.drop a)) := fun h => by rw [if_pos h] at hrd; exact hrd
  have hrdB : Hid (¬ c = a → RdBytes (w.alloc (.cells #[.int .u8 0, .int .u64 0, .int .i64 0, .int .u64 0, .string ⟨#[]⟩, .bool false] 96)) (Option.map (fun x => x.add a) A) (n - a) (bs.drop a)) := fun h => by rw [if_neg h] at hrd; exact hrd
  clear hrd hb
  have hb1 : (0 : Int) ≤ (a : Int) := by omega
  have hb2 : (a : Int) ≤ (n : Int) := by omega
  have hb3 : (n : Int) ≤ (c : Int) := by omega
  have hEH := Lib.hid hE
  clear hE
  have hcur0 : Cln (w.alloc (.cells #[.int .u8 0, .int .u64 0, .int .i64 0, .int .u64 0, .string ⟨#[]⟩, .bool false] 96)) (w.alloc (.cells #[.int .u8 0, .int .u64 0, .int .i64 0, .int .u64 0, .string ⟨#[]⟩, .bool false] 96)).drew := Below.drew (Below.refl _ _)
  have hFr : ∀ (W : World) (e : Ending) (w' : World), FirstPost W res e w' → Cln W w' ∧ ∃ (x0 x1 x2 x3 : Int) (x4 : ByteArray) (x5 : Bool) (kk cc : Nat), e = .returned (.tuple #[.agg #[.int .u8 x0, .int .u64 x1, .int .i64 x2, .int .u64 x3, .string x4, .bool x5], .int .i64 (kk : Nat), .int .i64 (cc : Nat)]) ∧ Hid ((∃ pt, res = .ok (pt, kk) ∧ cc = 0 ∧ partCells pt = #[.int .u8 x0, .int .u64 x1, .int .i64 x2, .int .u64 x3, .string x4, .bool x5]) ∨ (res = .error (cc, kk))) := by
    rintro W e w' ⟨hq, hres⟩
    refine ⟨hq, ?_⟩
    cases hR : res with
    | error er =>
      obtain ⟨cd, k⟩ := er
      rw [hR] at hres
      obtain ⟨x0, x1, x2, x3, x4, x5, rfl⟩ := hres
      exact ⟨x0, x1, x2, x3, x4, x5, k, cd, rfl, .inr rfl⟩
    | ok x =>
      obtain ⟨pt, k⟩ := x
      rw [hR] at hres
      obtain ⟨x0, x1, x2, x3, x4, x5, e6⟩ := partCells_typed pt
      have hres : e = .returned (.tuple #[.agg (partCells pt), .int .i64 (k : Nat), .int .i64 0]) := hres
      rw [e6] at hres
      subst hres
      exact ⟨x0, x1, x2, x3, x4, x5, k, 0, rfl, .inl ⟨pt, rfl, rfl, e6⟩⟩
  have hFA : ∀ W : World, Cln (w.alloc (.cells #[.int .u8 0, .int .u64 0, .int .i64 0, .int .u64 0, .string ⟨#[]⟩, .bool false] 96)) W → c = a → Calls Try.prog 83 #[.slice A (n - a) 0, .int .u8 kind, .int .i64 m] W fun e w' => Cln W w' ∧ ∃ (x0 x1 x2 x3 : Int) (x4 : ByteArray) (x5 : Bool) (kk cc : Nat), e = .returned (.tuple #[.agg #[.int .u8 x0, .int .u64 x1, .int .i64 x2, .int .u64 x3, .string x4, .bool x5], .int .i64 (kk : Nat), .int .i64 (cc : Nat)]) ∧ Hid ((∃ pt, res = .ok (pt, kk) ∧ cc = 0 ∧ partCells pt = #[.int .u8 x0, .int .u64 x1, .int .i64 x2, .int .u64 x3, .string x4, .bool x5]) ∨ (res = .error (cc, kk))) :=
    fun W h hca => (hF W A 0 (by omega) ((hrdA.out hca).cln h)).mono (hFr W)
  have hFB : ∀ W : World, Cln (w.alloc (.cells #[.int .u8 0, .int .u64 0, .int .i64 0, .int .u64 0, .string ⟨#[]⟩, .bool false] 96)) W → ¬ c = a → Calls Try.prog 83 #[.slice (Option.map (fun x => x.add a) A) (n - a) (c - a), .int .u8 kind, .int .i64 m] W fun e w' => Cln W w' ∧ ∃ (x0 x1 x2 x3 : Int) (x4 : ByteArray) (x5 : Bool) (kk cc : Nat), e = .returned (.tuple #[.agg #[.int .u8 x0, .int .u64 x1, .int .i64 x2, .int .u64 x3, .string x4, .bool x5], .int .i64 (kk : Nat), .int .i64 (cc : Nat)]) ∧ Hid ((∃ pt, res = .ok (pt, kk) ∧ cc = 0 ∧ partCells pt = #[.int .u8 x0, .int .u64 x1, .int .i64 x2, .int .u64 x3, .string x4, .bool x5]) ∨ (res = .error (cc, kk))) :=
    fun W h hca => (hF W _ (c - a) (by omega) ((hrdB.out hca).cln h)).mono (hFr W)
  have hsz1 : w.heap.size + 1 ≤ (w.alloc (.cells #[.int .u8 0, .int .u64 0, .int .i64 0, .int .u64 0, .string ⟨#[]⟩, .bool false] 96)).drew.heap.size := by show _ ≤ (w.alloc _).heap.size; rw [World.size_alloc]; omega
  have hcur1 : ∀ o : Obj, Cln (w.alloc (.cells #[.int .u8 0, .int .u64 0, .int .i64 0, .int .u64 0, .string ⟨#[]⟩, .bool false] 96)) ((w.alloc (.cells #[.int .u8 0, .int .u64 0, .int .i64 0, .int .u64 0, .string ⟨#[]⟩, .bool false] 96)).alloc o).drew := fun o => Below.drew ((Below.refl _ _).alloc (Nat.le_refl _) o)
  have h00 := Lib.hid (Blk.new w 96 #[.int .u8 0, .int .u64 0, .int .i64 0, .int .u64 0, .string ⟨#[]⟩, .bool false])
  have hNN : Hid (Blk ((w.alloc (.cells #[.int .u8 0, .int .u64 0, .int .i64 0, .int .u64 0, .string ⟨#[]⟩, .bool false] 96)).alloc (.cells #[.int .u8 0, .int .u64 0, .int .i64 0, .int .u64 0, .string ⟨#[]⟩, .bool false] 96)).drew (w.heap.size + 1) 96 #[.int .u8 0, .int .u64 0, .int .i64 0, .int .u64 0, .string ⟨#[]⟩, .bool false]) := by
    have h := (Blk.new (w.alloc (.cells #[.int .u8 0, .int .u64 0, .int .i64 0, .int .u64 0, .string ⟨#[]⟩, .bool false] 96)) 96 #[.int .u8 0, .int .u64 0, .int .i64 0, .int .u64 0, .string ⟨#[]⟩, .bool false]).drew
    rw [World.size_alloc] at h
    exact h
  have hpne : ¬ p = w.heap.size := by omega
  have hpne1 : ¬ p = w.heap.size + 1 := by omega
  by_cases hca : c = a
  · go_enter Try.func71, Try.ntmps71
    go_wp2_with fail
    go_region_with (first
      | (go_at_call 83; with_reducible refine (hFA _ hcur0 hca).mono ?_; rintro e w2 ⟨hq, x0, x1, x2, x3, x4, x5, kk, cc, rfl, hres⟩; have hE2 := Lib.hid (hE1.out.cln (cln_trans hcur0 hq)); have hg2 : w.heap.size + 1 ≤ w2.heap.size := Nat.le_trans hsz1 hq.size; have hcl2 := Lib.hid (cln_trans hcl0.out (cln_trans hcur0 hq)); have h0 := Lib.hid (h00.out.cln (cln_trans hcur0 hq)); have hN := Lib.hid (Blk.new w2 96 #[.int .u8 0, .int .u64 0, .int .i64 0, .int .u64 0, .string ⟨#[]⟩, .bool false]); have cE := hE2.out.blk.cell; have cN := hN.out.cell; have fN := hN.out.frozen; have lN := hN.out.lt)
      | (go_at_call 83; with_reducible refine (hFA _ (hcur1 _) hca).mono ?_; rintro e w2 ⟨hq, x0, x1, x2, x3, x4, x5, kk, cc, rfl, hres⟩; have hE2 := Lib.hid (hE1.out.cln (cln_trans (hcur1 _) hq)); have hcl2 := Lib.hid (cln_trans hcl0.out (cln_trans (hcur1 _) hq)); have h0 := Lib.hid (h00.out.cln (cln_trans (hcur1 _) hq)); have hN := Lib.hid (hNN.out.cln hq); have cE := hE2.out.blk.cell; have cN := hN.out.cell; have fN := hN.out.frozen; have lN := hN.out.lt))
    all_goals
      have hlE := hE2.out.blk.lt
      have fE := hE2.out.blk.frozen
      have l0 := h0.out.lt
      have f0 := h0.out.frozen
      have d0 := h0.out.cell
      have hkk : kk ≤ n - a := by
        rcases hres.out with ⟨pt, hR, _, _⟩ | hR <;> (rw [hR] at hpos; exact hpos)
      have w1 : IntKind.i64.wrap ((a : Int) + (kk : Int)) = (a : Int) + (kk : Int) := IntWalk.i64_in _ (by omega)
      by_cases hz : cc = 0
      case pos =>
        subst hz
        obtain ⟨pt, hR, e6⟩ : ∃ pt, res = .ok (pt, kk) ∧ partCells pt = #[.int .u8 x0, .int .u64 x1, .int .i64 x2, .int .u64 x3, .string x4, .bool x5] := by
          rcases hres.out with ⟨pt, hR, _, e6⟩ | hR
          · exact ⟨pt, hR, e6⟩
          · exact absurd rfl (hnz _ _ hR)
        have hRH := Lib.hid hR
        clear hres hR hF hFA hFB hFr hnz hrdA hrdB hpos
        (try go_wp2_with fail)
        refine bodyPost_ret (v := .agg #[.int .u8 x0, .int .u64 x1, .int .i64 x2, .int .u64 x3, .string x4, .bool x5]) ?_ rfl ?_
        · refine results_cell_row Try.results71 _ _ w.heap.size 96 #[.int .u8 x0, .int .u64 x1, .int .i64 x2, .int .u64 x3, .string x4, .bool x5] (0, 0) _ ?_ ?_ Try.underlying96 ?_ ?_
          · rfl
          · show Blk _ w.heap.size 96 _
            (try with_reducible refine Blk.alloc ?_ _)
            with_reducible refine Blk.store6 (a0 := .int .u8 0) (a1 := .int .u64 0) (a2 := .int .i64 0) (a3 := .int .u64 0) (a4 := .string ⟨#[]⟩) (a5 := .bool false) ?_
            repeat (first | with_reducible refine Blk.far ?_ (by dsimp only; omega) _ | with_reducible exact h0.out | with_reducible exact h0.out.alloc _ | with_reducible refine Blk.drew ?_)
          · rfl
          · exact size_part
        · rw [hRH.out]
          refine ⟨by rw [e6], hEH.out.set2 (a + kk) 0 (by omega) ?_ ?_, ?_⟩
          · repeat (first | with_reducible refine Kept.setCell ?_ (fun hl => by first | rfl | (exfalso; dsimp only at hl; omega)) _ | with_reducible refine Kept.alloc ?_ _ | with_reducible refine Kept.drew ?_ | with_reducible exact Kept.of_below hcl2.out)
          · rw [Int.natCast_add]
            (try with_reducible refine Blk.alloc ?_ _)
            iterate 6 with_reducible refine Blk.far ?_ (by dsimp only; omega) _
            refine Blk.store1 (cs := #[.slice A n c, .int .i64 ((a : Int) + (kk : Int)), .int .i64 ((0 : Nat) : Int)]) ?_ 2 _ rfl
            refine Blk.store1 (cs := #[.slice A n c, .int .i64 (a : Nat), .int .i64 ((0 : Nat) : Int)]) ?_ 1 _ rfl
            repeat (first | with_reducible refine Blk.far ?_ (by dsimp only; omega) _ | with_reducible exact hE2.out.blk | with_reducible exact hE2.out.blk.alloc _ | with_reducible refine Blk.drew ?_)
          · repeat (first | with_reducible refine Kept.setCell ?_ (fun hl => by first | rfl | (exfalso; dsimp only at hl; omega)) _ | with_reducible refine Kept.alloc ?_ _ | with_reducible refine Kept.drew ?_ | with_reducible exact Kept.of_below hcl2.out)
      case neg =>
        have hR : res = .error (cc, kk) := by
          rcases hres.out with ⟨pt, hR, h0, e6⟩ | hR
          · exact absurd h0 hz
          · exact hR
        have t1 : (((cc : Nat) : Int) != 0) = true := by rw [bne_iff_ne]; omega
        have hRH := Lib.hid hR
        clear hres hR hF hFA hFB hFr hnz hrdA hrdB hpos hz
        (try go_wp2_with fail)
        refine bodyPost_ret (v := .agg #[.int .u8 0, .int .u64 0, .int .i64 0, .int .u64 0, .string ⟨#[]⟩, .bool false]) ?_ rfl ?_
        · refine results_cell_row Try.results71 _ _ w.heap.size 96 #[.int .u8 0, .int .u64 0, .int .i64 0, .int .u64 0, .string ⟨#[]⟩, .bool false] (0, 0) _ ?_ ?_ Try.underlying96 ?_ ?_
          · rfl
          · show Blk _ w.heap.size 96 _
            (try with_reducible refine Blk.alloc ?_ _)
            with_reducible refine Blk.store6 (a0 := .int .u8 0) (a1 := .int .u64 0) (a2 := .int .i64 0) (a3 := .int .u64 0) (a4 := .string ⟨#[]⟩) (a5 := .bool false) ?_
            repeat (first | with_reducible refine Blk.far ?_ (by dsimp only; omega) _ | with_reducible exact h0.out | with_reducible exact h0.out.alloc _ | with_reducible refine Blk.drew ?_)
          · rfl
          · exact size_part
        · rw [hRH.out]
          refine ⟨rfl, hEH.out.set2 (a + kk) cc (by omega) ?_ ?_, ?_⟩
          · repeat (first | with_reducible refine Kept.setCell ?_ (fun hl => by first | rfl | (exfalso; dsimp only at hl; omega)) _ | with_reducible refine Kept.alloc ?_ _ | with_reducible refine Kept.drew ?_ | with_reducible exact Kept.of_below hcl2.out)
          · rw [Int.natCast_add]
            (try with_reducible refine Blk.alloc ?_ _)
            iterate 6 with_reducible refine Blk.far ?_ (by dsimp only; omega) _
            refine Blk.store1 (cs := #[.slice A n c, .int .i64 ((a : Int) + (kk : Int)), .int .i64 ((0 : Nat) : Int)]) ?_ 2 _ rfl
            refine Blk.store1 (cs := #[.slice A n c, .int .i64 (a : Nat), .int .i64 ((0 : Nat) : Int)]) ?_ 1 _ rfl
            repeat (first | with_reducible refine Blk.far ?_ (by dsimp only; omega) _ | with_reducible exact hE2.out.blk | with_reducible exact hE2.out.blk.alloc _ | with_reducible refine Blk.drew ?_)
          · repeat (first | with_reducible refine Kept.setCell ?_ (fun hl => by first | rfl | (exfalso; dsimp only at hl; omega)) _ | with_reducible refine Kept.alloc ?_ _ | with_reducible refine Kept.drew ?_ | with_reducible exact Kept.of_below hcl2.out)
  · go_enter Try.func71, Try.ntmps71
    go_wp2_with fail
    go_region_with (first
      | (go_at_call 83; with_reducible refine (hFB _ hcur0 hca).mono ?_; rintro e w2 ⟨hq, x0, x1, x2, x3, x4, x5, kk, cc, rfl, hres⟩; have hE2 := Lib.hid (hE1.out.cln (cln_trans hcur0 hq)); have hg2 : w.heap.size + 1 ≤ w2.heap.size := Nat.le_trans hsz1 hq.size; have hcl2 := Lib.hid (cln_trans hcl0.out (cln_trans hcur0 hq)); have h0 := Lib.hid (h00.out.cln (cln_trans hcur0 hq)); have hN := Lib.hid (Blk.new w2 96 #[.int .u8 0, .int .u64 0, .int .i64 0, .int .u64 0, .string ⟨#[]⟩, .bool false]); have cE := hE2.out.blk.cell; have cN := hN.out.cell; have fN := hN.out.frozen; have lN := hN.out.lt)
      | (go_at_call 83; with_reducible refine (hFB _ (hcur1 _) hca).mono ?_; rintro e w2 ⟨hq, x0, x1, x2, x3, x4, x5, kk, cc, rfl, hres⟩; have hE2 := Lib.hid (hE1.out.cln (cln_trans (hcur1 _) hq)); have hcl2 := Lib.hid (cln_trans hcl0.out (cln_trans (hcur1 _) hq)); have h0 := Lib.hid (h00.out.cln (cln_trans (hcur1 _) hq)); have hN := Lib.hid (hNN.out.cln hq); have cE := hE2.out.blk.cell; have cN := hN.out.cell; have fN := hN.out.frozen; have lN := hN.out.lt))
    all_goals
      have hlE := hE2.out.blk.lt
      have fE := hE2.out.blk.frozen
      have l0 := h0.out.lt
      have f0 := h0.out.frozen
      have d0 := h0.out.cell
      have hkk : kk ≤ n - a := by
        rcases hres.out with ⟨pt, hR, _, _⟩ | hR <;> (rw [hR] at hpos; exact hpos)
      have w1 : IntKind.i64.wrap ((a : Int) + (kk : Int)) = (a : Int) + (kk : Int) := IntWalk.i64_in _ (by omega)
      by_cases hz : cc = 0
      case pos =>
        subst hz
        obtain ⟨pt, hR, e6⟩ : ∃ pt, res = .ok (pt, kk) ∧ partCells pt = #[.int .u8 x0, .int .u64 x1, .int .i64 x2, .int .u64 x3, .string x4, .bool x5] := by
          rcases hres.out with ⟨pt, hR, _, e6⟩ | hR
          · exact ⟨pt, hR, e6⟩
          · exact absurd rfl (hnz _ _ hR)
        have hRH := Lib.hid hR
        clear hres hR hF hFA hFB hFr hnz hrdA hrdB hpos
        (try go_wp2_with fail)
        refine bodyPost_ret (v := .agg #[.int .u8 x0, .int .u64 x1, .int .i64 x2, .int .u64 x3, .string x4, .bool x5]) ?_ rfl ?_
        · refine results_cell_row Try.results71 _ _ w.heap.size 96 #[.int .u8 x0, .int .u64 x1, .int .i64 x2, .int .u64 x3, .string x4, .bool x5] (0, 0) _ ?_ ?_ Try.underlying96 ?_ ?_
          · rfl
          · show Blk _ w.heap.size 96 _
            (try with_reducible refine Blk.alloc ?_ _)
            with_reducible refine Blk.store6 (a0 := .int .u8 0) (a1 := .int .u64 0) (a2 := .int .i64 0) (a3 := .int .u64 0) (a4 := .string ⟨#[]⟩) (a5 := .bool false) ?_
            repeat (first | with_reducible refine Blk.far ?_ (by dsimp only; omega) _ | with_reducible exact h0.out | with_reducible exact h0.out.alloc _ | with_reducible refine Blk.drew ?_)
          · rfl
          · exact size_part
        · rw [hRH.out]
          refine ⟨by rw [e6], hEH.out.set2 (a + kk) 0 (by omega) ?_ ?_, ?_⟩
          · repeat (first | with_reducible refine Kept.setCell ?_ (fun hl => by first | rfl | (exfalso; dsimp only at hl; omega)) _ | with_reducible refine Kept.alloc ?_ _ | with_reducible refine Kept.drew ?_ | with_reducible exact Kept.of_below hcl2.out)
          · rw [Int.natCast_add]
            (try with_reducible refine Blk.alloc ?_ _)
            iterate 6 with_reducible refine Blk.far ?_ (by dsimp only; omega) _
            refine Blk.store1 (cs := #[.slice A n c, .int .i64 ((a : Int) + (kk : Int)), .int .i64 ((0 : Nat) : Int)]) ?_ 2 _ rfl
            refine Blk.store1 (cs := #[.slice A n c, .int .i64 (a : Nat), .int .i64 ((0 : Nat) : Int)]) ?_ 1 _ rfl
            repeat (first | with_reducible refine Blk.far ?_ (by dsimp only; omega) _ | with_reducible exact hE2.out.blk | with_reducible exact hE2.out.blk.alloc _ | with_reducible refine Blk.drew ?_)
          · repeat (first | with_reducible refine Kept.setCell ?_ (fun hl => by first | rfl | (exfalso; dsimp only at hl; omega)) _ | with_reducible refine Kept.alloc ?_ _ | with_reducible refine Kept.drew ?_ | with_reducible exact Kept.of_below hcl2.out)
      case neg =>
        have hR : res = .error (cc, kk) := by
          rcases hres.out with ⟨pt, hR, h0, e6⟩ | hR
          · exact absurd h0 hz
          · exact hR
        have t1 : (((cc : Nat) : Int) != 0) = true := by rw [bne_iff_ne]; omega
        have hRH := Lib.hid hR
        clear hres hR hF hFA hFB hFr hnz hrdA hrdB hpos hz
        (try go_wp2_with fail)
        refine bodyPost_ret (v := .agg #[.int .u8 0, .int .u64 0, .int .i64 0, .int .u64 0, .string ⟨#[]⟩, .bool false]) ?_ rfl ?_
        · refine results_cell_row Try.results71 _ _ w.heap.size 96 #[.int .u8 0, .int .u64 0, .int .i64 0, .int .u64 0, .string ⟨#[]⟩, .bool false] (0, 0) _ ?_ ?_ Try.underlying96 ?_ ?_
          · rfl
          · show Blk _ w.heap.size 96 _
            (try with_reducible refine Blk.alloc ?_ _)
            with_reducible refine Blk.store6 (a0 := .int .u8 0) (a1 := .int .u64 0) (a2 := .int .i64 0) (a3 := .int .u64 0) (a4 := .string ⟨#[]⟩) (a5 := .bool false) ?_
            repeat (first | with_reducible refine Blk.far ?_ (by dsimp only; omega) _ | with_reducible exact h0.out | with_reducible exact h0.out.alloc _ | with_reducible refine Blk.drew ?_)
          · rfl
          · exact size_part
        · rw [hRH.out]
          refine ⟨rfl, hEH.out.set2 (a + kk) cc (by omega) ?_ ?_, ?_⟩
          · repeat (first | with_reducible refine Kept.setCell ?_ (fun hl => by first | rfl | (exfalso; dsimp only at hl; omega)) _ | with_reducible refine Kept.alloc ?_ _ | with_reducible refine Kept.drew ?_ | with_reducible exact Kept.of_below hcl2.out)
          · rw [Int.natCast_add]
            (try with_reducible refine Blk.alloc ?_ _)
            iterate 6 with_reducible refine Blk.far ?_ (by dsimp only; omega) _
            refine Blk.store1 (cs := #[.slice A n c, .int .i64 ((a : Int) + (kk : Int)), .int .i64 ((0 : Nat) : Int)]) ?_ 2 _ rfl
            refine Blk.store1 (cs := #[.slice A n c, .int .i64 (a : Nat), .int .i64 ((0 : Nat) : Int)]) ?_ 1 _ rfl
            repeat (first | with_reducible refine Blk.far ?_ (by dsimp only; omega) _ | with_reducible exact hE2.out.blk | with_reducible exact hE2.out.blk.alloc _ | with_reducible refine Blk.drew ?_)
          · repeat (first | with_reducible refine Kept.setCell ?_ (fun hl => by first | rfl | (exfalso; dsimp only at hl; omega)) _ | with_reducible refine Kept.alloc ?_ _ | with_reducible refine Kept.drew ?_ | with_reducible exact Kept.of_below hcl2.out)
end Go.Proofs.Ytocllhghbmbjpaa
