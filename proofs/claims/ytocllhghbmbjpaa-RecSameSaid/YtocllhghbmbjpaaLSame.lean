/- The law RecSame. (Printed by wip/tools/gen_lsame.py.) -/
import Derived.Test.YtocllhghbmbjpaaWRSame
import Derived.Test.YtocllhghbmbjpaaWSpeaks
import Derived.Test.YtocllhghbmbjpaaWRCheck2
import Derived.Test.YtocllhghbmbjpaaTripRec
import Derived.Deep.RegionHeld3
import Derived.Deep.RegionWith
set_option linter.unusedSimpArgs false
set_option linter.unusedVariables false
set_option maxRecDepth 20000
namespace Go.Proofs.Ytocllhghbmbjpaa
open Go.RowKit Moi
attribute [local go_sem] toList_str str_size less_ltB store_float
theorem sameItems_symm : ∀ l m : List MItem, sameItems l m = sameItems m l
  | [], [] => rfl
  | [], _ :: _ => rfl
  | _ :: _, [] => rfl
  | x :: l, y :: m => by
    have h1 : (x.name == y.name) = (y.name == x.name) := by rw [Bool.eq_iff_iff]; simp; exact ⟨Eq.symm, Eq.symm⟩
    have h2 : fsame x.score y.score = fsame y.score x.score := by unfold fsame; rw [decide_eq_decide]; exact ⟨Eq.symm, Eq.symm⟩
    rw [sameItems, sameItems, h1, h2, sameItems_symm l m]
theorem sameRec_symm (a b : MRec) : sameRec a b = sameRec b a := by
  have h2 : fsame a.real b.real = fsame b.real a.real := by unfold fsame; rw [decide_eq_decide]; exact ⟨Eq.symm, Eq.symm⟩
  unfold sameRec
  rw [h2, sameItems_symm a.list b.list, Bool.beq_comm (a := a.kind), Bool.beq_comm (a := a.num), Bool.beq_comm (a := a.low), Bool.beq_comm (a := a.high), Bool.beq_comm (a := a.cap), Bool.beq_comm (a := a.text)]
theorem bigN_names (r : MRec) (h : bigN r = 0) : ∀ i, (itAt r.list i).name.length ≤ 100 := by
  unfold bigN at h
  split at h
  · cases h
  · rename_i hb
    unfold bigRec at hb
    simp at hb
    intro i
    unfold itAt
    rw [List.getD_eq_getElem?_getD]
    by_cases hi : i < r.list.length
    · rw [List.getElem?_eq_getElem hi, Option.getD_some]
      have := hb.2 _ (List.getElem_mem hi)
      omega
    · rw [List.getElem?_eq_none (by omega)]; decide
theorem add_x (nm : List UInt8) (h : nm.length ≤ 100) (W : World) : (Op.stringOp .add (str nm) ⟨#[120]⟩).run Try.prog W = .ok (.string (str (nm ++ [120]))) W := by
  rw [run_string_add _ (str nm) ⟨#[120]⟩ (by rw [str_size]; omega) (by decide)]
  congr 2
theorem conv_later {W : World} {A : Option Addr} {n : Nat} {bs : List UInt8} (h : RdBytes W A n bs) (c : Nat) : ∀ W', Cln W W' → (convert 33 9 (.slice A n c)).run Try.prog W' = .ok (.string (str bs)) W' :=
  fun W' k => conv_all (h.cln k) c
/-- The clone's list, of which the first items have got other names. -/
structure CloneSt (W : World) (A : Option Addr) (n i lo g6 : Nat) (l : List MItem) : Prop where
  row : 0 < n → ∃ g cur, A = some ⟨g, 0, none⟩ ∧ Blk W g 45 cur ∧ lo ≤ g ∧ g ≠ g6 ∧ ∀ j, i ≤ j → j < n → cur[j * 2 + 1]? = some (.string (str (itAt l j).name))
theorem CloneSt.cln {W W' : World} {A : Option Addr} {n i lo g6 : Nat} {l : List MItem} (h : CloneSt W A n i lo g6 l) (hq : Cln W W') : CloneSt W' A n i lo g6 l := by
  refine ⟨fun h0 => ?_⟩
  obtain ⟨g, cur, e, hb, r⟩ := h.row h0
  exact ⟨g, cur, e, hb.cln hq, r⟩
theorem CloneSt.of_own {W : World} {A : Option Addr} {n c lo g6 : Nat} {l : List MItem} (h : W.ownsRow lo 45 2 (.slice A n c) n (itemVals l)) (hl : l.length = n) (h6 : W.heap.size ≤ g6) : CloneSt W A n 0 lo g6 l := by
  refine ⟨fun h0 => ?_⟩
  rcases h.2 with ⟨_, hn⟩ | ⟨g, cap, cur, hv, hb, hg, hn, hm, hs, ht⟩
  · omega
  · injection hv with h1 h2 h3
    refine ⟨g, cur, h1, hg, hb, ?_, fun j _ hj => ?_⟩
    · have : g < W.heap.size := lt_of_block hg
      omega
    · have h2 := (itemVals_get l j (by omega)).2
      rw [← ht, List.getElem?_take_of_lt (by omega), Array.getElem?_toList] at h2
      exact h2
theorem CloneSt.set {W : World} {A : Option Addr} {n i lo g6 : Nat} {l : List MItem} (h : CloneSt W A n i lo g6 l) (v : Value) {g : Nat} (e : A = some ⟨g, 0, none⟩) : CloneSt (W.setCell ⟨g, i * 2 + 1, none⟩ v) A n (i + 1) lo g6 l := by
  refine ⟨fun h0 => ?_⟩
  obtain ⟨g', cur, e', hb, h1, h2, h3⟩ := h.row h0
  have : g' = g := by rw [e] at e'; injection e' with e'; injection e' with e'; exact e'.symm
  subst this
  refine ⟨g', _, e, hb.set_ (i * 2 + 1) v, h1, h2, fun j hj hjn => ?_⟩
  rw [Array.getElem?_setIfInBounds, if_neg (by omega)]
  exact h3 j (by omega) hjn
/-- What is kept of two records' blocks. -/
theorem rec2Keep {w W W' : World} {p0 p1 p2 p3 p4 p5 p6 p7 p8 p9 p10 p11 p12 p13 p14 p15 : Addr} {v0 v1 v2 v3 v4 v5 v6 v7 v8 v9 v10 v11 v12 v13 v14 v15 : Value} (hq : Cln W W')
    (h : W.cell? p0 = some v0 ∧ W.cell? p1 = some v1 ∧ W.cell? p2 = some v2 ∧ W.cell? p3 = some v3 ∧ W.cell? p4 = some v4 ∧ W.cell? p5 = some v5 ∧ W.cell? p6 = some v6 ∧ W.cell? p7 = some v7 ∧ W.cell? p8 = some v8 ∧ W.cell? p9 = some v9 ∧ W.cell? p10 = some v10 ∧ W.cell? p11 = some v11 ∧ W.cell? p12 = some v12 ∧ W.cell? p13 = some v13 ∧ W.cell? p14 = some v14 ∧ W.cell? p15 = some v15 ∧ Hid (Cln w W)) :
    W'.cell? p0 = some v0 ∧ W'.cell? p1 = some v1 ∧ W'.cell? p2 = some v2 ∧ W'.cell? p3 = some v3 ∧ W'.cell? p4 = some v4 ∧ W'.cell? p5 = some v5 ∧ W'.cell? p6 = some v6 ∧ W'.cell? p7 = some v7 ∧ W'.cell? p8 = some v8 ∧ W'.cell? p9 = some v9 ∧ W'.cell? p10 = some v10 ∧ W'.cell? p11 = some v11 ∧ W'.cell? p12 = some v12 ∧ W'.cell? p13 = some v13 ∧ W'.cell? p14 = some v14 ∧ W'.cell? p15 = some v15 ∧ Hid (Cln w W') := by
  have k := Kept.of_below (S := fun _ => False) hq
  obtain ⟨h0, h1, h2, h3, h4, h5, h6, h7, h8, h9, h10, h11, h12, h13, h14, h15, h16⟩ := h
  exact ⟨k.cell h0 id, k.cell h1 id, k.cell h2 id, k.cell h3 id, k.cell h4 id, k.cell h5 id, k.cell h6 id, k.cell h7 id, k.cell h8 id, k.cell h9 id, k.cell h10 id, k.cell h11 id, k.cell h12 id, k.cell h13 id, k.cell h14 id, k.cell h15 id, Lib.hid (cln_trans h16.out hq)⟩
set_option maxHeartbeats 8000000 in
theorem lSame (a b : MRec) (A B : Option Addr) (n c k d : Nat) (ha : a.WF) (hb : b.WF) (w : World) (hr : RdItems w A n a.list) (hs : RdItems w B k b.list) :
    Calls Try.prog 8 #[recVal a A n c, recVal b B k d] w fun e w' => e = .returned (.bool true) ∧ Cln w w' := by
  have hfa : Hid (a.Full) := ⟨ha, fun x hx => by
    obtain ⟨i, hi, rfl⟩ := List.getElem_of_mem hx
    have := hr.wf i
    simpa [itAt, hi] using this⟩
  have hfb : Hid (b.Full) := ⟨hb, fun x hx => by
    obtain ⟨i, hi, rfl⟩ := List.getElem_of_mem hx
    have := hs.wf i
    simpa [itAt, hi] using this⟩
  have hna : Hid (a.list.length = n) := hr.len
  have hnb : Hid (b.list.length = k) := hs.len
  have hba0 := (Blk.new w 25 #[.int .i64 a.kind, .int .i64 a.num, .int .i64 a.low, .int .i64 a.high, .float .f64 a.real, .int .i64 a.cap, .string (str a.text), .slice A n c]).alloc (.cells #[.int .i64 b.kind, .int .i64 b.num, .int .i64 b.low, .int .i64 b.high, .float .f64 b.real, .int .i64 b.cap, .string (str b.text), .slice B k d] 25)
  have hbb0 := Blk.new (w.alloc (.cells #[.int .i64 a.kind, .int .i64 a.num, .int .i64 a.low, .int .i64 a.high, .float .f64 a.real, .int .i64 a.cap, .string (str a.text), .slice A n c] 25)) 25 #[.int .i64 b.kind, .int .i64 b.num, .int .i64 b.low, .int .i64 b.high, .float .f64 b.real, .int .i64 b.cap, .string (str b.text), .slice B k d]
  have hcl : Cln w ((w.alloc (.cells #[.int .i64 a.kind, .int .i64 a.num, .int .i64 a.low, .int .i64 a.high, .float .f64 a.real, .int .i64 a.cap, .string (str a.text), .slice A n c] 25)).alloc (.cells #[.int .i64 b.kind, .int .i64 b.num, .int .i64 b.low, .int .i64 b.high, .float .f64 b.real, .int .i64 b.cap, .string (str b.text), .slice B k d] 25)) := by (repeat (first | (with_reducible exact Below.refl _ _) | (with_reducible assumption) | (with_reducible refine Below.setCell ?_ (by first | omega | (simp; done) | (simp; omega)) _) | (with_reducible refine Below.alloc ?_ (by first | omega | (simp; done) | (simp; omega)) _) | (with_reducible refine Below.drew ?_) | (with_reducible refine below_drewN ?_ _)))
  simp only [World.size_alloc] at hbb0
  have hra := ha.real; have hrb := hb.real
  have haH := Lib.hid ha; have hbH := Lib.hid hb
  clear ha hb
  have hBlo : Hid (0 < k → ∀ ad, B = some ad → ad.block < w.heap.size) := hs.lo
  have hAlo : Hid (0 < n → ∀ ad, A = some ad → ad.block < w.heap.size) := hr.lo
  unfold recVal
  go_enter Try.func8, Try.ntmps8
  go_wp2_with fail
  refine (speaks_any _).mono ?_; rintro e w1 ⟨rfl, hq⟩
  have hba1 := hba0.cln hq
  have hbb1 := hbb0.cln hq
  have hcl1 := Lib.hid (cln_trans hcl hq)
  have hr1 := Lib.hid (hr.cln hcl1.out)
  have hs1 := Lib.hid (hs.cln hcl1.out)
  clear hba0 hbb0 hcl hq hr hs
  have g0 := hba1.cell 0; have g1 := hba1.cell 1; have g2 := hba1.cell 2; have g3 := hba1.cell 3; have g4 := hba1.cell 4; have g5 := hba1.cell 5; have g6 := hba1.cell 6; have g7 := hba1.cell 7
  have k0 := hbb1.cell 0; have k1 := hbb1.cell 1; have k2 := hbb1.cell 2; have k3 := hbb1.cell 3; have k4 := hbb1.cell 4; have k5 := hbb1.cell 5; have k6 := hbb1.cell 6; have k7 := hbb1.cell 7
  replace hba1 := Lib.hid hba1
  replace hbb1 := Lib.hid hbb1
  have cA : ∀ W : World, (W.cell? ⟨w.heap.size, 0, none⟩ = some (.int .i64 a.kind) ∧ W.cell? ⟨w.heap.size, 1, none⟩ = some (.int .i64 a.num) ∧ W.cell? ⟨w.heap.size, 2, none⟩ = some (.int .i64 a.low) ∧ W.cell? ⟨w.heap.size, 3, none⟩ = some (.int .i64 a.high) ∧ W.cell? ⟨w.heap.size, 4, none⟩ = some (.float .f64 a.real) ∧ W.cell? ⟨w.heap.size, 5, none⟩ = some (.int .i64 a.cap) ∧ W.cell? ⟨w.heap.size, 6, none⟩ = some (.string (str a.text)) ∧ W.cell? ⟨w.heap.size, 7, none⟩ = some (.slice A n c) ∧ W.cell? ⟨w.heap.size + 1, 0, none⟩ = some (.int .i64 b.kind) ∧ W.cell? ⟨w.heap.size + 1, 1, none⟩ = some (.int .i64 b.num) ∧ W.cell? ⟨w.heap.size + 1, 2, none⟩ = some (.int .i64 b.low) ∧ W.cell? ⟨w.heap.size + 1, 3, none⟩ = some (.int .i64 b.high) ∧ W.cell? ⟨w.heap.size + 1, 4, none⟩ = some (.float .f64 b.real) ∧ W.cell? ⟨w.heap.size + 1, 5, none⟩ = some (.int .i64 b.cap) ∧ W.cell? ⟨w.heap.size + 1, 6, none⟩ = some (.string (str b.text)) ∧ W.cell? ⟨w.heap.size + 1, 7, none⟩ = some (.slice B k d) ∧ Hid (Cln w1 W)) → Calls Try.prog 10 #[.agg #[.int .i64 a.kind, .int .i64 a.num, .int .i64 a.low, .int .i64 a.high, .float .f64 a.real, .int .i64 a.cap, .string (str a.text), .slice A n c]] W fun e w' => e = .returned (.int .i64 (bigN a)) ∧ Cln W w' := fun W h => by
    obtain ⟨_, _, _, _, _, _, _, _, _, _, _, _, _, _, _, _, h⟩ := h
    exact big_any a A n c W (hr1.out.cln h.out)
  have cB : ∀ W : World, (W.cell? ⟨w.heap.size, 0, none⟩ = some (.int .i64 a.kind) ∧ W.cell? ⟨w.heap.size, 1, none⟩ = some (.int .i64 a.num) ∧ W.cell? ⟨w.heap.size, 2, none⟩ = some (.int .i64 a.low) ∧ W.cell? ⟨w.heap.size, 3, none⟩ = some (.int .i64 a.high) ∧ W.cell? ⟨w.heap.size, 4, none⟩ = some (.float .f64 a.real) ∧ W.cell? ⟨w.heap.size, 5, none⟩ = some (.int .i64 a.cap) ∧ W.cell? ⟨w.heap.size, 6, none⟩ = some (.string (str a.text)) ∧ W.cell? ⟨w.heap.size, 7, none⟩ = some (.slice A n c) ∧ W.cell? ⟨w.heap.size + 1, 0, none⟩ = some (.int .i64 b.kind) ∧ W.cell? ⟨w.heap.size + 1, 1, none⟩ = some (.int .i64 b.num) ∧ W.cell? ⟨w.heap.size + 1, 2, none⟩ = some (.int .i64 b.low) ∧ W.cell? ⟨w.heap.size + 1, 3, none⟩ = some (.int .i64 b.high) ∧ W.cell? ⟨w.heap.size + 1, 4, none⟩ = some (.float .f64 b.real) ∧ W.cell? ⟨w.heap.size + 1, 5, none⟩ = some (.int .i64 b.cap) ∧ W.cell? ⟨w.heap.size + 1, 6, none⟩ = some (.string (str b.text)) ∧ W.cell? ⟨w.heap.size + 1, 7, none⟩ = some (.slice B k d) ∧ Hid (Cln w1 W)) → Calls Try.prog 10 #[.agg #[.int .i64 b.kind, .int .i64 b.num, .int .i64 b.low, .int .i64 b.high, .float .f64 b.real, .int .i64 b.cap, .string (str b.text), .slice B k d]] W fun e w' => e = .returned (.int .i64 (bigN b)) ∧ Cln W w' := fun W h => by
    obtain ⟨_, _, _, _, _, _, _, _, _, _, _, _, _, _, _, _, h⟩ := h
    exact big_any b B k d W (hs1.out.cln h.out)
  have hbig : Hid (bigN a = 0 ∧ bigN b = 0) ∨ (∃ x y : Int, bigN a = x ∧ bigN b = y ∧ ((x = 0 ∧ y = 1) ∨ (x = 1 ∧ y = 0) ∨ (x = 1 ∧ y = 1))) := by
    rcases bigN_or a with h | h <;> rcases bigN_or b with h2 | h2
    · exact .inl ⟨h, h2⟩
    · exact .inr ⟨0, 1, h, h2, by simp⟩
    · exact .inr ⟨1, 0, h, h2, by simp⟩
    · exact .inr ⟨1, 1, h, h2, by simp⟩
  rcases hbig with hbig | ⟨x, y, hx, hy, hxy⟩
  case inr =>
    rw [hx] at cA; rw [hy] at cB
    clear hx hy
    rcases hxy with ⟨rfl, rfl⟩ | ⟨rfl, rfl⟩ | ⟨rfl, rfl⟩
    all_goals
      go_wp2_with fail
      go_region_held3 (fun W => W.cell? ⟨w.heap.size, 0, none⟩ = some (.int .i64 a.kind) ∧ W.cell? ⟨w.heap.size, 1, none⟩ = some (.int .i64 a.num) ∧ W.cell? ⟨w.heap.size, 2, none⟩ = some (.int .i64 a.low) ∧ W.cell? ⟨w.heap.size, 3, none⟩ = some (.int .i64 a.high) ∧ W.cell? ⟨w.heap.size, 4, none⟩ = some (.float .f64 a.real) ∧ W.cell? ⟨w.heap.size, 5, none⟩ = some (.int .i64 a.cap) ∧ W.cell? ⟨w.heap.size, 6, none⟩ = some (.string (str a.text)) ∧ W.cell? ⟨w.heap.size, 7, none⟩ = some (.slice A n c) ∧ W.cell? ⟨w.heap.size + 1, 0, none⟩ = some (.int .i64 b.kind) ∧ W.cell? ⟨w.heap.size + 1, 1, none⟩ = some (.int .i64 b.num) ∧ W.cell? ⟨w.heap.size + 1, 2, none⟩ = some (.int .i64 b.low) ∧ W.cell? ⟨w.heap.size + 1, 3, none⟩ = some (.int .i64 b.high) ∧ W.cell? ⟨w.heap.size + 1, 4, none⟩ = some (.float .f64 b.real) ∧ W.cell? ⟨w.heap.size + 1, 5, none⟩ = some (.int .i64 b.cap) ∧ W.cell? ⟨w.heap.size + 1, 6, none⟩ = some (.string (str b.text)) ∧ W.cell? ⟨w.heap.size + 1, 7, none⟩ = some (.slice B k d) ∧ Hid (Cln w1 W))
        (first | exact rec2Keep hq (by assumption) | exact ⟨g0, g1, g2, g3, g4, g5, g6, g7, k0, k1, k2, k3, k4, k5, k6, k7, Lib.hid (Below.drew (Below.refl _ _))⟩)
        (first
          | (go_at_call 10; with_reducible refine (cA _ (by assumption)).mono ?_; rintro e w' ⟨rfl, hq⟩)
          | (go_at_call 10; with_reducible refine (cB _ (by assumption)).mono ?_; rintro e w' ⟨rfl, hq⟩))
      rename_i hS
      have hfin := cln_trans hcl1.out hS.2.2.2.2.2.2.2.2.2.2.2.2.2.2.2.2.out
      clear hS
      go_wp2_with fail
      go_ret
      exact ⟨rfl, hfin⟩
  obtain ⟨hn100, _⟩ := bigN_le a hbig.out.1
  obtain ⟨hk100, _⟩ := bigN_le b hbig.out.2
  rw [hna.out] at hn100
  rw [hnb.out] at hk100
  rw [hbig.out.1] at cA; rw [hbig.out.2] at cB
  go_wp2_with fail
  go_region_held3 (fun W => W.cell? ⟨w.heap.size, 0, none⟩ = some (.int .i64 a.kind) ∧ W.cell? ⟨w.heap.size, 1, none⟩ = some (.int .i64 a.num) ∧ W.cell? ⟨w.heap.size, 2, none⟩ = some (.int .i64 a.low) ∧ W.cell? ⟨w.heap.size, 3, none⟩ = some (.int .i64 a.high) ∧ W.cell? ⟨w.heap.size, 4, none⟩ = some (.float .f64 a.real) ∧ W.cell? ⟨w.heap.size, 5, none⟩ = some (.int .i64 a.cap) ∧ W.cell? ⟨w.heap.size, 6, none⟩ = some (.string (str a.text)) ∧ W.cell? ⟨w.heap.size, 7, none⟩ = some (.slice A n c) ∧ W.cell? ⟨w.heap.size + 1, 0, none⟩ = some (.int .i64 b.kind) ∧ W.cell? ⟨w.heap.size + 1, 1, none⟩ = some (.int .i64 b.num) ∧ W.cell? ⟨w.heap.size + 1, 2, none⟩ = some (.int .i64 b.low) ∧ W.cell? ⟨w.heap.size + 1, 3, none⟩ = some (.int .i64 b.high) ∧ W.cell? ⟨w.heap.size + 1, 4, none⟩ = some (.float .f64 b.real) ∧ W.cell? ⟨w.heap.size + 1, 5, none⟩ = some (.int .i64 b.cap) ∧ W.cell? ⟨w.heap.size + 1, 6, none⟩ = some (.string (str b.text)) ∧ W.cell? ⟨w.heap.size + 1, 7, none⟩ = some (.slice B k d) ∧ Hid (Cln w1 W))
    (first | exact rec2Keep hq (by assumption) | exact ⟨g0, g1, g2, g3, g4, g5, g6, g7, k0, k1, k2, k3, k4, k5, k6, k7, Lib.hid (Below.drew (Below.refl _ _))⟩)
    (first
      | (go_at_call 10; with_reducible refine (cA _ (by assumption)).mono ?_; rintro e w' ⟨rfl, hq⟩)
      | (go_at_call 10; with_reducible refine (cB _ (by assumption)).mono ?_; rintro e w' ⟨rfl, hq⟩))
  rename_i hS
  have hq2 := hS.2.2.2.2.2.2.2.2.2.2.2.2.2.2.2.2.out
  have hnames : Hid (∀ i, (itAt a.list i).name.length ≤ 100) := bigN_names a hbig.out.1
  clear hS cA cB g0 g1 g2 g3 g4 g5 g6 g7 k0 k1 k2 k3 k4 k5 k6 k7 hbig
  have hba2 := hba1.out.cln hq2
  have hbb2 := hbb1.out.cln hq2
  have hr2 := hr1.out.cln hq2
  have hs2 := hs1.out.cln hq2
  have hcl2 := cln_trans hcl1.out hq2
  clear hba1 hbb1 hr1 hs1 hcl1 hq2
  have hss : ∀ s : Bool, (s != s) = false := fun s => by cases s <;> rfl
  generalize hsm : sameRec a b = sm
  have hsm' : Hid (sameRec b a = sm) := by unfold Hid; rw [sameRec_symm b a, hsm]
  have hsmn := hss sm
  clear hss
  have g0 := hba2.cell 0; have g1 := hba2.cell 1; have g2 := hba2.cell 2; have g3 := hba2.cell 3; have g4 := hba2.cell 4; have g5 := hba2.cell 5; have g6 := hba2.cell 6; have g7 := hba2.cell 7; have k0 := hbb2.cell 0; have k1 := hbb2.cell 1; have k2 := hbb2.cell 2; have k3 := hbb2.cell 3; have k4 := hbb2.cell 4; have k5 := hbb2.cell 5; have k6 := hbb2.cell 6; have k7 := hbb2.cell 7
  replace hba2 := Lib.hid hba2; replace hbb2 := Lib.hid hbb2
  have hsmH := Lib.hid hsm
  clear hsm
  go_wp2_with fail
  refine (recsame_any a b A B n c k d _ hr2 hs2 (by omega) (by omega) hra hrb).mono ?_; rintro e w3 ⟨rfl, hq⟩
  rw [hsmH.out]
  clear g0 g1 g2 g3 g4 g5 g6 g7 k0 k1 k2 k3 k4 k5 k6 k7
  have hba3 := hba2.out.cln hq; have hbb3 := hbb2.out.cln hq
  have hr3 := hr2.cln hq; have hs3 := hs2.cln hq
  have hcl3 := cln_trans hcl2 hq
  clear hba2 hbb2 hr2 hs2 hcl2 hq
  have g0 := hba3.cell 0; have g1 := hba3.cell 1; have g2 := hba3.cell 2; have g3 := hba3.cell 3; have g4 := hba3.cell 4; have g5 := hba3.cell 5; have g6 := hba3.cell 6; have g7 := hba3.cell 7; have k0 := hbb3.cell 0; have k1 := hbb3.cell 1; have k2 := hbb3.cell 2; have k3 := hbb3.cell 3; have k4 := hbb3.cell 4; have k5 := hbb3.cell 5; have k6 := hbb3.cell 6; have k7 := hbb3.cell 7
  replace hba3 := Lib.hid hba3; replace hbb3 := Lib.hid hbb3
  go_wp2_with fail
  refine (clone_any a A n c _ hr3 (by omega)).mono ?_; rintro e w4 ⟨A', c', rfl, hown, hq⟩
  clear g0 g1 g2 g3 g4 g5 g6 g7 k0 k1 k2 k3 k4 k5 k6 k7
  have hba4 := hba3.out.cln hq; have hbb4 := hbb3.out.cln hq
  have hr4 := hr3.cln hq; have hs4 := hs3.cln hq
  have hcl4 := cln_trans hcl3 hq
  have hlo : w.heap.size + 2 ≤ w4.heap.size := by have := hbb4.lt; omega
  have hC4 := CloneSt.of_own (own_base hown (show w.heap.size + 2 ≤ _ from by have := hbb3.out.lt; omega)) hna.out (Nat.le_refl _)
  have hC4' := own_items hown hr3.wf
  clear hba3 hbb3 hr3 hs3 hcl3 hq hown
  have g0 := hba4.cell 0; have g1 := hba4.cell 1; have g2 := hba4.cell 2; have g3 := hba4.cell 3; have g4 := hba4.cell 4; have g5 := hba4.cell 5; have g6 := hba4.cell 6; have g7 := hba4.cell 7; have k0 := hbb4.cell 0; have k1 := hbb4.cell 1; have k2 := hbb4.cell 2; have k3 := hbb4.cell 3; have k4 := hbb4.cell 4; have k5 := hbb4.cell 5; have k6 := hbb4.cell 6; have k7 := hbb4.cell 7
  replace hba4 := Lib.hid hba4; replace hbb4 := Lib.hid hbb4
  replace hr4 := Lib.hid hr4; replace hs4 := Lib.hid hs4; replace hcl4 := Lib.hid hcl4
  replace hC4 := Lib.hid hC4; have hC4' := Lib.hid hC4'
  have hne0 : ¬ w.heap.size = w4.heap.size := by omega
  have hne0' : ¬ w4.heap.size = w.heap.size := by omega
  have hne1 : ¬ w.heap.size + 1 = w4.heap.size := by omega
  have hne1' : ¬ w4.heap.size = w.heap.size + 1 := by omega
  have hlt0 : w.heap.size < w4.heap.size := by omega
  have hlt1 : w.heap.size + 1 < w4.heap.size := by omega
  unfold recVal
  go_wp2_with fail
  clear g0 g1 g2 g3 g4 g5 g6 g7 k0 k1 k2 k3 k4 k5 k6 k7
  refine (same_any a b A B n c k d _ (hr4.out.cln (by (repeat (first | (with_reducible exact Below.refl _ _) | (with_reducible assumption) | (with_reducible refine Below.setCell ?_ (by first | omega | (simp; done) | (simp; omega)) _) | (with_reducible refine Below.alloc ?_ (by first | omega | (simp; done) | (simp; omega)) _) | (with_reducible refine Below.drew ?_) | (with_reducible refine below_drewN ?_ _))))) (hs4.out.cln (by (repeat (first | (with_reducible exact Below.refl _ _) | (with_reducible assumption) | (with_reducible refine Below.setCell ?_ (by first | omega | (simp; done) | (simp; omega)) _) | (with_reducible refine Below.alloc ?_ (by first | omega | (simp; done) | (simp; omega)) _) | (with_reducible refine Below.drew ?_) | (with_reducible refine below_drewN ?_ _))))) (by omega) (by omega) hra hrb).mono ?_; rintro e w6 ⟨rfl, hq⟩
  have hcl6 : Cln w4 w6 := cln_trans (by (repeat (first | (with_reducible exact Below.refl _ _) | (with_reducible assumption) | (with_reducible refine Below.setCell ?_ (by first | omega | (simp; done) | (simp; omega)) _) | (with_reducible refine Below.alloc ?_ (by first | omega | (simp; done) | (simp; omega)) _) | (with_reducible refine Below.drew ?_) | (with_reducible refine below_drewN ?_ _)))) hq
  have hbc6 := (Blk.new w4 25 #[.int .i64 a.kind, .int .i64 a.num, .int .i64 a.low, .int .i64 a.high, .float .f64 a.real, .int .i64 a.cap, .string (str a.text), .slice A' n c']).cln hq
  rw [hsmH.out]
  have hba6 := hba4.out.cln hcl6; have hbb6 := hbb4.out.cln hcl6
  have hr6 := hr4.out.cln hcl6; have hs6 := hs4.out.cln hcl6
  have hclw6 := cln_trans hcl4.out hcl6
  have hC6 := hC4.out.cln hcl6
  have hC6' := hC4'.out.cln hcl6
  clear hq hcl6 hba4 hbb4 hr4 hs4 hcl4 hC4 hC4'
  have g0 := hba6.cell 0; have g1 := hba6.cell 1; have g2 := hba6.cell 2; have g3 := hba6.cell 3; have g4 := hba6.cell 4; have g5 := hba6.cell 5; have g6 := hba6.cell 6; have g7 := hba6.cell 7; have k0 := hbb6.cell 0; have k1 := hbb6.cell 1; have k2 := hbb6.cell 2; have k3 := hbb6.cell 3; have k4 := hbb6.cell 4; have k5 := hbb6.cell 5; have k6 := hbb6.cell 6; have k7 := hbb6.cell 7
  replace hba6 := Lib.hid hba6; replace hbb6 := Lib.hid hbb6; replace hbc6 := Lib.hid hbc6
  go_wp2_with fail
  clear g0 g1 g2 g3 g4 g5 g6 g7 k0 k1 k2 k3 k4 k5 k6 k7
  refine (same_any b a B A k d n c _ hs6 hr6 (by omega) (by omega) hrb hra).mono ?_; rintro e w7 ⟨rfl, hq⟩
  rw [hsm'.out]
  have hba7 := hba6.out.cln hq; have hbb7 := hbb6.out.cln hq; have hbc7 := hbc6.out.cln hq
  have hr7 := hr6.cln hq; have hs7 := hs6.cln hq
  have hcl7 := cln_trans hclw6 hq
  have hC7 := hC6.cln hq; have hC7' := hC6'.cln hq
  clear hba6 hbb6 hbc6 hr6 hs6 hclw6 hC6 hC6' hq
  have g0 := hba7.cell 0; have g1 := hba7.cell 1; have g2 := hba7.cell 2; have g3 := hba7.cell 3; have g4 := hba7.cell 4; have g5 := hba7.cell 5; have g6 := hba7.cell 6; have g7 := hba7.cell 7; have k0 := hbc7.cell 0; have k1 := hbc7.cell 1; have k2 := hbc7.cell 2; have k3 := hbc7.cell 3; have k4 := hbc7.cell 4; have k5 := hbc7.cell 5; have k6 := hbc7.cell 6; have k7 := hbc7.cell 7
  replace hba7 := Lib.hid hba7; replace hbb7 := Lib.hid hbb7; replace hbc7 := Lib.hid hbc7
  go_wp2_with fail
  clear g0 g1 g2 g3 g4 g5 g6 g7 k0 k1 k2 k3 k4 k5 k6 k7
  refine (same_any a a A A' n c n c' _ hr7 hC7' (by omega) (by omega) hra hra).mono ?_; rintro e w8 ⟨rfl, hq⟩
  rw [sameRec_refl]
  have hba8 := Lib.hid (hba7.out.cln hq); have hbb8 := Lib.hid (hbb7.out.cln hq); have hbc8 := hbc7.out.cln hq
  have hr8 := Lib.hid (hr7.cln hq); have hs8 := Lib.hid (hs7.cln hq)
  have hcl8 := Lib.hid (cln_trans hcl7 hq)
  have hC8 := Lib.hid (hC7.cln hq)
  clear hba7 hbb7 hbc7 hr7 hs7 hcl7 hC7 hC7' hq
  have q7 := hbc8.cell 7
  replace hbc8 := Lib.hid hbc8
  have hg6 : w.heap.size + 2 ≤ w4.heap.size := hlo
  clear hne0 hne0' hne1 hne1' hlt0 hlt1
  go_wp2_with fail
  go_loopw [42] (fun v wr => ∃ i : Nat, i ≤ n ∧ v = .int .i64 (i : Nat) ∧ Hid (Cln w wr) ∧ Hid (Blk wr w.heap.size 25 #[.int .i64 a.kind, .int .i64 a.num, .int .i64 a.low, .int .i64 a.high, .float .f64 a.real, .int .i64 a.cap, .string (str a.text), .slice A n c]) ∧ Hid (Blk wr (w.heap.size + 1) 25 #[.int .i64 b.kind, .int .i64 b.num, .int .i64 b.low, .int .i64 b.high, .float .f64 b.real, .int .i64 b.cap, .string (str b.text), .slice B k d]) ∧ Hid (Blk wr w4.heap.size 25 #[.int .i64 a.kind, .int .i64 a.num, .int .i64 a.low, .int .i64 a.high, .float .f64 a.real, .int .i64 a.cap, .string (str a.text), .slice A' n c']) ∧ Hid (RdItems wr A n a.list) ∧ Hid (RdItems wr B k b.list) ∧ Hid (CloneSt wr A' n i (w.heap.size + 2) w4.heap.size a.list)) (fun v _ => (n - intOf v).toNat)
  case atStart => exact ⟨0, Nat.zero_le _, rfl, Lib.hid (cln_trans hcl8.out (by (repeat (first | (with_reducible exact Below.refl _ _) | (with_reducible assumption) | (with_reducible refine Below.setCell ?_ (by first | omega | (simp; done) | (simp; omega)) _) | (with_reducible refine Below.alloc ?_ (by first | omega | (simp; done) | (simp; omega)) _) | (with_reducible refine Below.drew ?_) | (with_reducible refine below_drewN ?_ _))))), Lib.hid (hba8.out.cln (by (repeat (first | (with_reducible exact Below.refl _ _) | (with_reducible assumption) | (with_reducible refine Below.setCell ?_ (by first | omega | (simp; done) | (simp; omega)) _) | (with_reducible refine Below.alloc ?_ (by first | omega | (simp; done) | (simp; omega)) _) | (with_reducible refine Below.drew ?_) | (with_reducible refine below_drewN ?_ _))))), Lib.hid (hbb8.out.cln (by (repeat (first | (with_reducible exact Below.refl _ _) | (with_reducible assumption) | (with_reducible refine Below.setCell ?_ (by first | omega | (simp; done) | (simp; omega)) _) | (with_reducible refine Below.alloc ?_ (by first | omega | (simp; done) | (simp; omega)) _) | (with_reducible refine Below.drew ?_) | (with_reducible refine below_drewN ?_ _))))), Lib.hid (hbc8.out.cln (by (repeat (first | (with_reducible exact Below.refl _ _) | (with_reducible assumption) | (with_reducible refine Below.setCell ?_ (by first | omega | (simp; done) | (simp; omega)) _) | (with_reducible refine Below.alloc ?_ (by first | omega | (simp; done) | (simp; omega)) _) | (with_reducible refine Below.drew ?_) | (with_reducible refine below_drewN ?_ _))))), Lib.hid (hr8.out.cln (by (repeat (first | (with_reducible exact Below.refl _ _) | (with_reducible assumption) | (with_reducible refine Below.setCell ?_ (by first | omega | (simp; done) | (simp; omega)) _) | (with_reducible refine Below.alloc ?_ (by first | omega | (simp; done) | (simp; omega)) _) | (with_reducible refine Below.drew ?_) | (with_reducible refine below_drewN ?_ _))))), Lib.hid (hs8.out.cln (by (repeat (first | (with_reducible exact Below.refl _ _) | (with_reducible assumption) | (with_reducible refine Below.setCell ?_ (by first | omega | (simp; done) | (simp; omega)) _) | (with_reducible refine Below.alloc ?_ (by first | omega | (simp; done) | (simp; omega)) _) | (with_reducible refine Below.drew ?_) | (with_reducible refine below_drewN ?_ _))))), Lib.hid (hC8.out.cln (by (repeat (first | (with_reducible exact Below.refl _ _) | (with_reducible assumption) | (with_reducible refine Below.setCell ?_ (by first | omega | (simp; done) | (simp; omega)) _) | (with_reducible refine Below.alloc ?_ (by first | omega | (simp; done) | (simp; omega)) _) | (with_reducible refine Below.drew ?_) | (with_reducible refine below_drewN ?_ _)))))⟩
  case round =>
    obtain ⟨i, hi, rfl, hcl, hA, hB, hC, hr, hs, hQ⟩ := hrel
    clear hcl8 hba8 hbb8 hbc8 hr8 hs8 hC8 q7
    by_cases hlt : i < n
    · obtain ⟨g, cur, rfl, hbk, hlo2, hgne, hnm⟩ := hQ.out.row (by omega)
      have hc1 := hbk.cell (i * 2 + 1)
      rw [hnm i (Nat.le_refl _) hlt] at hc1
      have hf1 := hbk.frozen (i * 2 + 1)
      have hglt := hbk.lt
      have c7 := hC.out.cell 7
      have a7 := hA.out.cell 7
      obtain ⟨b1, o1, rfl, hblt, hcell⟩ := hr.out.cells (by omega)
      have hb1 := hAlo.out (by omega) _ rfl
      dsimp only at hb1
      obtain ⟨_, hd1⟩ := hcell i hlt
      have hx1 : ¬ b1 = g := by omega
      have hx1' : ¬ g = b1 := by omega
      have hx2 : ¬ w.heap.size = g := by omega
      have hx2' : ¬ g = w.heap.size := by omega
      have hx3 : ¬ w4.heap.size = g := by omega
      have hx3' : ¬ g = w4.heap.size := by omega
      have hx4 : ¬ w.heap.size + 1 = g := by omega
      replace hbk := Lib.hid hbk
      replace hnm := Lib.hid hnm
      replace hlo2 := Lib.hid hlo2
      clear hcell
      have hadd := add_x _ (hnames.out i)
      have hl100 := hnames.out i
      generalize (itAt a.list i).name = nm at *
      have heq : (nm == nm ++ [120]) = false := by rw [beq_eq_false_iff_ne]; intro h; have := congrArg List.length h; simp at this
      have hsz : ¬ (9223372036854775807 < nm.length + 1) := by omega
      have hsz1 : ByteArray.size ⟨#[120]⟩ = 1 := rfl
      go_wp2_with (simp only [hadd])
      go_quiet (fail)
      go_wp2_with fail
      have hgge : w.heap.size ≤ g := by have := hlo2.out; omega
      have hclu := hcl.out
      have hkp : ∀ v : Value, Kept (fun j => j = g) wr (wr.setCell ⟨g, i * 2 + 1, none⟩ v) := fun v => (Kept.refl (fun j => j = g) wr).setCell (p := ⟨g, i * 2 + 1, none⟩) (fun _ => rfl) v
      go_roundw
      case rel =>
        exact ⟨i + 1, hlt, by go_num, Lib.hid (by (repeat (first | (with_reducible exact Below.refl _ _) | (with_reducible assumption) | (with_reducible refine Below.setCell ?_ (by first | omega | (simp; done) | (simp; omega)) _) | (with_reducible refine Below.alloc ?_ (by first | omega | (simp; done) | (simp; omega)) _) | (with_reducible refine Below.drew ?_) | (with_reducible refine below_drewN ?_ _)))), Lib.hid (hA.out.far hx2 _), Lib.hid (hB.out.far hx4 _), Lib.hid (hC.out.far hx3 _), Lib.hid (hr.out.kept0 (S := fun j => j = g) ((hkp _).drewN _) (fun h0 ad e _ => by have := hAlo.out h0 ad e; intro hh; have hh : ad.block = g := hh; omega)),
          Lib.hid (hs.out.kept0 (S := fun j => j = g) ((hkp _).drewN _) (fun h0 ad e _ => by have := hBlo.out h0 ad e; intro hh; have hh : ad.block = g := hh; omega)), Lib.hid ((hQ.out.set _ rfl).cln (by (repeat (first | (with_reducible exact Below.refl _ _) | (with_reducible assumption) | (with_reducible refine Below.setCell ?_ (by first | omega | (simp; done) | (simp; omega)) _) | (with_reducible refine Below.alloc ?_ (by first | omega | (simp; done) | (simp; omega)) _) | (with_reducible refine Below.drew ?_) | (with_reducible refine below_drewN ?_ _)))))⟩
      case measure => simp [intOf]; omega
    · obtain rfl : i = n := by omega
      have t2 : decide ((i : Int) < (i : Int)) = false := decide_eq_false (by omega)
      clear hC hQ hAlo hBlo
      have hr' := hr.out; have hs' := hs.out
      have g0 := hA.out.cell 0; have g1 := hA.out.cell 1; have g2 := hA.out.cell 2; have g3 := hA.out.cell 3; have g4 := hA.out.cell 4; have g5 := hA.out.cell 5; have g6 := hA.out.cell 6; have g7 := hA.out.cell 7; have k0 := hB.out.cell 0; have k1 := hB.out.cell 1; have k2 := hB.out.cell 2; have k3 := hB.out.cell 3; have k4 := hB.out.cell 4; have k5 := hB.out.cell 5; have k6 := hB.out.cell 6; have k7 := hB.out.cell 7
      go_wp2_with fail
      refine (rcheck_any a A i c (by omega) haH.out _ hr').mono ?_; rintro e w9 ⟨rfl, hq⟩
      clear g0 g1 g2 g3 g4 g5 g6 g7 k0 k1 k2 k3 k4 k5 k6 k7
      have hA9 := Lib.hid (hA.out.cln hq); have hB9 := Lib.hid (hB.out.cln hq)
      have hr9 := Lib.hid (hr'.cln hq); have hs9 := Lib.hid (hs'.cln hq)
      have hcl9 := Lib.hid (cln_trans hcl.out hq)
      clear hA hB hr hs hcl hr' hs' hq
      by_cases hca : checkRec a = 0
      case neg =>
        have t3 : (((checkRec a : Nat) : Int) != 0) = true := by rw [bne_iff_ne]; omega
        go_wp2_with fail
        go_ret
        exact ⟨rfl, hcl9.out⟩
      have t3 : (((checkRec a : Nat) : Int) != 0) = false := by rw [hca]; rfl
      have hcaH := Lib.hid hca
      clear hca
      have g0 := hA9.out.cell 0; have g1 := hA9.out.cell 1; have g2 := hA9.out.cell 2; have g3 := hA9.out.cell 3; have g4 := hA9.out.cell 4; have g5 := hA9.out.cell 5; have g6 := hA9.out.cell 6; have g7 := hA9.out.cell 7; have k0 := hB9.out.cell 0; have k1 := hB9.out.cell 1; have k2 := hB9.out.cell 2; have k3 := hB9.out.cell 3; have k4 := hB9.out.cell 4; have k5 := hB9.out.cell 5; have k6 := hB9.out.cell 6; have k7 := hB9.out.cell 7
      go_wp2_with fail
      refine (rcheck_any b B k d (by omega) hbH.out _ hs9.out).mono ?_; rintro e w10 ⟨rfl, hq⟩
      clear g0 g1 g2 g3 g4 g5 g6 g7 k0 k1 k2 k3 k4 k5 k6 k7
      have hA10 := Lib.hid (hA9.out.cln hq); have hB10 := Lib.hid (hB9.out.cln hq)
      have hr10 := Lib.hid (hr9.out.cln hq); have hs10 := Lib.hid (hs9.out.cln hq)
      have hcl10 := Lib.hid (cln_trans hcl9.out hq)
      clear hA9 hB9 hr9 hs9 hcl9 hq
      by_cases hcb : checkRec b = 0
      case neg =>
        have t4 : (((checkRec b : Nat) : Int) != 0) = true := by rw [bne_iff_ne]; omega
        go_wp2_with fail
        go_ret
        exact ⟨rfl, hcl10.out⟩
      have t4 : (((checkRec b : Nat) : Int) != 0) = false := by rw [hcb]; rfl
      have hcbH := Lib.hid hcb
      clear hcb
      have hfin : Hid ((wRec a == wRec b) = sm) := by
        unfold Hid
        have := wRec_inj hfa.out hfb.out hcaH.out hcbH.out
        rw [hsmH.out] at this
        rw [Bool.eq_iff_iff, beq_iff_eq]; exact this
      have g0 := hA10.out.cell 0; have g1 := hA10.out.cell 1; have g2 := hA10.out.cell 2; have g3 := hA10.out.cell 3; have g4 := hA10.out.cell 4; have g5 := hA10.out.cell 5; have g6 := hA10.out.cell 6; have g7 := hA10.out.cell 7; have k0 := hB10.out.cell 0; have k1 := hB10.out.cell 1; have k2 := hB10.out.cell 2; have k3 := hB10.out.cell 3; have k4 := hB10.out.cell 4; have k5 := hB10.out.cell 5; have k6 := hB10.out.cell 6; have k7 := hB10.out.cell 7
      have ea : recBytes a = wRec a := by unfold recBytes; rw [if_pos hcaH.out]
      have eb : recBytes b = wRec b := by unfold recBytes; rw [if_pos hcbH.out]
      have cA : ∀ W : World, Cln w10 W → Calls Try.prog 14 #[.agg #[.int .i64 a.kind, .int .i64 a.num, .int .i64 a.low, .int .i64 a.high, .float .f64 a.real, .int .i64 a.cap, .string (str a.text), .slice A i c]] W fun e w' => ∃ A' c' m, e = .returned (.slice A' m c') ∧ (∀ W', Cln w' W' → (convert 33 9 (.slice A' m c')).run Try.prog W' = .ok (.string (str (wRec a))) W') ∧ Cln W w' := fun W h => by
        refine (bytes_rec a haH.out A i c (by omega) W (hr10.out.cln h)).mono ?_
        rintro e w' ⟨A', c', m, hm, rfl, hown, hq⟩
        rw [ea] at hown
        exact ⟨A', c', m, rfl, conv_later (newBytes_ok hown).1 c', hq⟩
      have cB : ∀ W : World, Cln w10 W → Calls Try.prog 14 #[.agg #[.int .i64 b.kind, .int .i64 b.num, .int .i64 b.low, .int .i64 b.high, .float .f64 b.real, .int .i64 b.cap, .string (str b.text), .slice B k d]] W fun e w' => ∃ A' c' m, e = .returned (.slice A' m c') ∧ (∀ W', Cln w' W' → (convert 33 9 (.slice A' m c')).run Try.prog W' = .ok (.string (str (wRec b))) W') ∧ Cln W w' := fun W h => by
        refine (bytes_rec b hbH.out B k d (by omega) W (hs10.out.cln h)).mono ?_
        rintro e w' ⟨A', c', m, hm, rfl, hown, hq⟩
        rw [eb] at hown
        exact ⟨A', c', m, rfl, conv_later (newBytes_ok hown).1 c', hq⟩
      clear hfa hfb hcaH hcbH hsm' hsmn hsmH t2 t3 hnames hna hnb ea eb hr10 hs10
      go_wp2_with fail
      go_region_with (first
        | (go_at_call 14; with_reducible refine (cA _ ?_).mono ?_; (all_goals first | exact Below.drew (Below.refl _ _) | exact cln_trans (Below.drew (Below.refl _ _)) (by assumption) | skip); rintro e w' ⟨A', c', m, rfl, hva, hq⟩; have uA := (hA10.out.cln (by first | exact cln_trans (Below.drew (Below.refl _ _)) (by assumption) | exact cln_trans (cln_trans (Below.drew (Below.refl _ _)) (by assumption)) (by assumption))).cell; have uB := (hB10.out.cln (by first | exact cln_trans (Below.drew (Below.refl _ _)) (by assumption) | exact cln_trans (cln_trans (Below.drew (Below.refl _ _)) (by assumption)) (by assumption))).cell)
        | (go_at_call 14; with_reducible refine (cB _ ?_).mono ?_; (all_goals first | exact Below.drew (Below.refl _ _) | exact cln_trans (Below.drew (Below.refl _ _)) (by assumption) | skip); rintro e w' ⟨A', c', m, rfl, hva, hq⟩; have uA := (hA10.out.cln (by first | exact cln_trans (Below.drew (Below.refl _ _)) (by assumption) | exact cln_trans (cln_trans (Below.drew (Below.refl _ _)) (by assumption)) (by assumption))).cell; have uB := (hB10.out.cln (by first | exact cln_trans (Below.drew (Below.refl _ _)) (by assumption) | exact cln_trans (cln_trans (Below.drew (Below.refl _ _)) (by assumption)) (by assumption))).cell)
        | simp only [hva _ (by first | exact Below.refl _ _ | assumption)])
      all_goals
        (try go_wp2_with fail)
        go_ret
        refine ⟨ret_bool ?_, ?_⟩
        · rw [hfin.out]; cases sm <;> rfl
        · exact cln_trans hcl10.out (cln_trans (cln_trans (Below.drew (Below.refl _ _)) (by assumption)) (by assumption))
end Go.Proofs.Ytocllhghbmbjpaa
