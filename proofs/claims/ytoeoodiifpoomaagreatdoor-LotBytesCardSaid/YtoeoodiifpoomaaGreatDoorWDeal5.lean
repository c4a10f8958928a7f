/- The document's Parts and Bytes of deals. (Printed by wip/tools/gen_lot3.py.) -/
import Derived.Test.YtoeoodiifpoomaaGreatDoorWAct9
import Derived.Test.YtoeoodiifpoomaaGreatDoorOwns
set_option linter.unusedSimpArgs false
set_option linter.unusedVariables false
set_option maxRecDepth 20000
namespace Go.Proofs.YtoeoodiifpoomaaGreatDoor
open Go.RowKit Moi
attribute [local go_sem] toList_str str_size less_ltB store_float
def dealParts (l : List MAct) : List MPart := .u l.length :: l.flatMap fun a => actParts a.kind.toNat a
theorem kind_nat {a : MAct} (h : checkAct a = 0) : a.kind = ((a.kind.toNat : Nat) : Int) := by have := (act_ok h).1; omega
theorem catActs_parts : ∀ l : List MAct, (∀ a ∈ l, checkAct a = 0) → catParts (l.flatMap fun a => actParts a.kind.toNat a) = l.flatMap wAct
  | [], _ => rfl
  | a :: l, h => by
    have h1 := catParts_act a.kind.toNat a (kind_nat (h a (List.mem_cons_self ..)))
    have h2 := catActs_parts l fun x hx => h x (List.mem_cons_of_mem _ hx)
    unfold catParts at h1 h2 ⊢
    rw [List.flatMap_cons, List.flatMap_cons, List.flatMap_append, h1, h2]
theorem catParts_deal (l : List MAct) (h : ∀ a ∈ l, checkAct a = 0) : catParts (dealParts l) = wDeal l := by
  have h2 := catActs_parts l h
  unfold dealParts wDeal
  unfold catParts at h2 ⊢
  rw [List.flatMap_cons, h2]; rfl
theorem actsParts_len : ∀ l : List MAct, (∀ a ∈ l, checkAct a = 0) → (l.flatMap fun a => actParts a.kind.toNat a).length ≤ 2000 * l.length
  | [], _ => by simp
  | a :: l, h => by
    have h1 := actParts_len (kind_nat (h a (List.mem_cons_self ..))) (h a (List.mem_cons_self ..))
    have h2 := actsParts_len l fun x hx => h x (List.mem_cons_of_mem _ hx)
    simp only [List.flatMap_cons, List.length_append, List.length_cons]
    omega
theorem dealParts_len {l : List MAct} (h : ∀ a ∈ l, checkAct a = 0) (h2 : l.length ≤ 12) : (dealParts l).length ≤ 24001 := by
  have := actsParts_len l h
  unfold dealParts
  rw [List.length_cons]; omega
theorem dealParts_wf {l : List MAct} (h : ∀ a ∈ l, checkAct a = 0) (h2 : l.length ≤ 12) (hf : ∀ a ∈ l, FullA a) : ∀ p ∈ dealParts l, p.WF := by
  intro p hp
  rcases List.mem_cons.1 hp with rfl | hp
  · show l.length < _; omega
  · obtain ⟨a, ha, hp⟩ := List.mem_flatMap.1 hp
    exact actParts_wf (kind_nat (h a ha)) (h a ha) (hf a ha) p hp
theorem actParts_pos (k : Nat) (a : MAct) : 0 < (actParts k a).length := by unfold actParts; simp
theorem dealParts_take (l : List MAct) (i : Nat) (h : i < l.length) : (MPart.u l.length :: (l.take (i + 1)).flatMap fun a => actParts a.kind.toNat a) = (MPart.u l.length :: (l.take i).flatMap fun a => actParts a.kind.toNat a) ++ actParts (actAt l i).kind.toNat (actAt l i) := by
  have : l.take (i + 1) = l.take i ++ [actAt l i] := by
    rw [List.take_add_one, List.getElem?_eq_getElem h]; simp [actAt, List.getD, h]
  rw [this]; simp
set_option maxHeartbeats 4000000 in
theorem dparts_any (l : List MAct) (hck : ∀ a ∈ l, checkAct a = 0) (A : Option Addr) (n c : Nat) (hn : n ≤ 12) (w : World) (hr : RdActs w A n l) :
    Calls Tryz.prog 81 #[.agg #[.slice A n c]] w (NewParts w (dealParts l)) := by
  have hlen := hr.len
  have hwr : IntKind.u64.wrap (n : Int) = (n : Int) := IntWalk.u64_in _ (by omega)
  have hd0 := Blk.new w 48 #[.slice A n c]
  have ho0 := World.ownsRow_lit (base := w.heap.size + 1) (e := 132) (size := 6) (w.alloc (.cells #[.slice A n c] 48)) #[.int .u8 117, .int .u64 (n : Nat), .int .i64 0, .int .u64 0, .string ⟨#[]⟩, .bool false] 1 (by rw [World.size_alloc]; omega) (by decide) rfl
  rw [World.size_alloc] at ho0
  have hO0 : Hid (((w.alloc (.cells #[.slice A n c] 48)).alloc (.cells #[.int .u8 117, .int .u64 (n : Nat), .int .i64 0, .int .u64 0, .string ⟨#[]⟩, .bool false] 132)).ownsRow (w.heap.size + 1) 132 6 (.slice (some ⟨w.heap.size + 1, 0, none⟩) 1 1) 1 (partVals (MPart.u l.length :: (l.take 0).flatMap fun a => actParts a.kind.toNat a))) := by
    unfold Hid; rw [hlen]; exact ho0
  have hC0 : Hid (Cln (w.alloc (.cells #[.slice A n c] 48)) ((w.alloc (.cells #[.slice A n c] 48)).alloc (.cells #[.int .u8 117, .int .u64 (n : Nat), .int .i64 0, .int .u64 0, .string ⟨#[]⟩, .bool false] 132))) := by unfold Hid; (repeat (first | (with_reducible exact Below.refl _ _) | (with_reducible assumption) | (with_reducible refine Below.setCell ?_ (by first | omega | (simp; done) | (simp; omega)) _) | (with_reducible refine Below.alloc ?_ (by first | omega | (simp; done) | (simp; omega)) _) | (with_reducible refine Below.drew ?_) | (with_reducible refine below_drewN ?_ _)))
  have hd0' := Lib.hid hd0
  have hbx : Hid (Cln w (w.alloc (.cells #[.slice A n c] 48))) := by unfold Hid; (repeat (first | (with_reducible exact Below.refl _ _) | (with_reducible assumption) | (with_reducible refine Below.setCell ?_ (by first | omega | (simp; done) | (simp; omega)) _) | (with_reducible refine Below.alloc ?_ (by first | omega | (simp; done) | (simp; omega)) _) | (with_reducible refine Below.drew ?_) | (with_reducible refine below_drewN ?_ _)))
  have hgr : Hid (∀ (w5 w6 : World) (g : Option Nat), Cln (w.alloc (.cells #[.slice A n c] 48)) w5 → w5.grownBy w6 g → (∀ q, g = some q → w.heap.size + 1 ≤ q) → Cln (w.alloc (.cells #[.slice A n c] 48)) w6) := fun w5 w6 g h hg hq =>
    ((Kept.of_below (S := fun j => w.heap.size + 1 ≤ j) h).trans ((Kept.refl _ w5).grown hg (fun q hq' _ => hq q hq'))).toBelow (Nat.le_refl _) (fun i hi h2 => by simp at hi; omega)
  have hpl := Lib.hid (actsParts_len l hck)
  clear ho0
  have hdc := hd0.cell
  have hdl := hd0.lt
  clear hd0
  go_enter Tryz.func81, Tryz.ntmps81
  go_wp2_with (simp only [hwr])
  clear hdc hdl
  go_loopw [3, 4] (fun vv v wr => ∃ (i N : Nat) (A2 : Option Addr) (c2 : Nat), i ≤ n ∧ vv = .slice A2 N c2 ∧ v = .int .i64 (i : Nat) ∧ Hid (Cln (w.alloc (.cells #[.slice A n c] 48)) wr) ∧ Hid (N = 1 + ((l.take i).flatMap fun a => actParts a.kind.toNat a).length) ∧ Hid (wr.ownsRow (w.heap.size + 1) 132 6 (.slice A2 N c2) N (partVals (MPart.u l.length :: (l.take i).flatMap fun a => actParts a.kind.toNat a)))) (fun _ v _ => (n - intOf v).toNat)
  case atStart => exact ⟨0, 1, _, _, Nat.zero_le _, rfl, rfl, hC0, by simp [Hid], hO0⟩
  case round =>
    clear hC0 hO0
    obtain ⟨i, N, A2, c2, hi, rfl, rfl, hcl0, hN, hO⟩ := hrel
    have hcl := Lib.hid (cln_trans hbx.out hcl0.out)
    have hdb := hd0'.out.cln hcl0.out
    have hdd := hdb.cell
    have hdl := hdb.lt
    by_cases hlt : i < n
    · have t3 : decide ((i : Int) < (n : Int)) = true := decide_eq_true (by omega)
      obtain ⟨b, o, rfl, hblt, hcell⟩ := hr.rows (by omega)
      obtain ⟨Ai, ni, ci, hc0⟩ := hcell i hlt
      clear hcell
      have hc := hc0.cln hcl.out
      have hwf := Lib.hid hc0.wf
      have hblt2 : b < wr.heap.size := by have := hcl.out.size; omega
      have hca := Lib.hid (hck _ (actAt_mem l i (by omega)))
      have htk := Lib.hid (dealParts_take l i (by omega))
      have hNb : N ≤ 24001 := by
        have h1 := actsParts_len (l.take i) fun a ha => hck a (List.mem_of_mem_take ha)
        rw [List.length_take] at h1
        have := hN.out; omega
      have hN2 : Hid (1 + ((l.take (i + 1)).flatMap fun a => actParts a.kind.toNat a).length = N + (actParts (actAt l i).kind.toNat (actAt l i)).length) := by
        have h1 := congrArg List.length htk.out
        rw [List.length_append, List.length_cons, List.length_cons] at h1
        unfold Hid; have := hN.out; omega
      have hal := actParts_len (kind_nat hca.out) hca.out
      clear hc0 hN
      generalize actAt l i = r at hc hwf hca htk hN2 hal
      have f0 := hc.c0; have f1 := hc.c1; have f2 := hc.c2; have f3 := hc.c3; have f4 := hc.c4; have f5 := hc.c5; have f6 := hc.c6; have f7 := hc.c7; have f8 := hc.c8; have f9 := hc.c9; have f10 := hc.c10; have f11 := hc.c11; have f12 := hc.c12; have f13 := hc.c13
      have hit := Lib.hid hc.it
      clear hc
      go_wp2_with fail
      refine (aparts_any r r.kind.toNat (kind_nat hca.out) hca.out hwf.out Ai ni ci _ (hit.out.cln (by (repeat (first | (with_reducible exact Below.refl _ _) | (with_reducible assumption) | (with_reducible refine Below.setCell ?_ (by first | omega | (simp; done) | (simp; omega)) _) | (with_reducible refine Below.alloc ?_ (by first | omega | (simp; done) | (simp; omega)) _) | (with_reducible refine Below.drew ?_) | (with_reducible refine below_drewN ?_ _)))))).mono ?_
      rintro e w5 ⟨A5, c5, n5, rfl, hrd, hq⟩
      clear f0 f1 f2 f3 f4 f5 f6 f7 f8 f9 f10 f11 f12 f13
      have hln5 := hrd.len
      have h05 : 0 < n5 := by have := actParts_pos r.kind.toNat r; omega
      have hO5 := own_cln hO.out hq
      have hcl5 := cln_trans hcl0.out hq
      have hsz5 : w.heap.size + 1 ≤ w5.heap.size := by have := hcl5.size; simpa using this
      replace hln5 := Lib.hid hln5
      replace hdb := Lib.hid (hd0'.out.cln hcl5)
      clear hdd hdl hq hit hO hcl0 hcl
      have hdd := hdb.out.cell
      have hdl := hdb.out.lt
      simp only []
      rename_i hKK
      refine hKK _ _ ?_
      refine wpList_catR rfl _ _ rfl rfl rfl hO5 hrd h05 (by have := hln5.out; omega) hsz5 ?_
      intro A6 c6 w6 hown6 hg6
      rw [← htk.out] at hown6
      have hcl6 := Lib.hid (hgr.out _ _ _ hcl5 hg6 (fun q hq => own_lo hO5 q hq))
      replace hown6 := Lib.hid hown6
      clear hdd hdl hg6 hcl5 hO5 hrd hdb hKK
      go_wp2_with fail
      go_roundw
      case rel => exact ⟨i + 1, _, A6, c6, hlt, rfl, by go_num, hcl6, by unfold Hid; rw [hN2.out, hln5.out], hown6⟩
      case measure => simp [intOf]; omega
    · obtain rfl : i = n := by omega
      have t3 : decide ((i : Int) < (i : Int)) = false := decide_eq_false (by omega)
      rw [List.take_of_length_le (by omega)] at hO
      go_wp2_with fail
      go_ret
      exact ⟨A2, c2, N, rfl, own_parts hO.out, hcl.out⟩
set_option maxHeartbeats 4000000 in
theorem rdbytes_any (l : List MAct) (hck : ∀ a ∈ l, checkAct a = 0) (A : Option Addr) (n c : Nat) (hn : n ≤ 12) (w : World) (hr : RdActs w A n l) :
    Calls Tryz.prog 40 #[.agg #[.slice A n c]] w (NewBytes w (wDeal l)) := by
  have hlen := hr.len
  have hwf := Lib.hid (dealParts_wf hck (by omega) hr.full)
  have hln := dealParts_len hck (by omega)
  have hcat := Lib.hid (catParts_deal l hck)
  have hsum : Hid ((catParts (dealParts l)).length ≤ 100000000) := by
    have h4 := wActs_len l fun a ha => ⟨hck a ha, (hr.full a ha).wf⟩
    have h5 := wU_len10 l.length (by omega)
    unfold Hid; rw [hcat.out, wDeal, List.length_append]; omega
  go_enter Tryz.func40, Tryz.ntmps40
  go_wp2_with fail
  refine (dparts_any l hck A n c hn _ (hr.cln (by (repeat (first | (with_reducible exact Below.refl _ _) | (with_reducible assumption) | (with_reducible refine Below.setCell ?_ (by first | omega | (simp; done) | (simp; omega)) _) | (with_reducible refine Below.alloc ?_ (by first | omega | (simp; done) | (simp; omega)) _) | (with_reducible refine Below.drew ?_) | (with_reducible refine below_drewN ?_ _)))))).mono ?_; rintro e w2 ⟨A2, c2, n2, rfl, hrd, hq⟩
  have hcl := Lib.hid (show Cln w w2 from cln_trans (by (repeat (first | (with_reducible exact Below.refl _ _) | (with_reducible assumption) | (with_reducible refine Below.setCell ?_ (by first | omega | (simp; done) | (simp; omega)) _) | (with_reducible refine Below.alloc ?_ (by first | omega | (simp; done) | (simp; omega)) _) | (with_reducible refine Below.drew ?_) | (with_reducible refine below_drewN ?_ _)))) hq)
  have hl2 := hrd.len
  have hn2 : n2 ≤ 24001 := by omega
  replace hl2 := Lib.hid hl2
  clear hq
  go_wp2_with fail
  refine (write_any (dealParts l) A2 n2 c2 (by omega) (fun i hi => hwf.out _ (partAt_mem (by rw [hl2.out]; exact hi))) hsum.out _ hrd).mono ?_
  rintro e w3 ⟨A3, c3, m, hm, rfl, hown, hq⟩
  rw [hcat.out] at hm hown
  replace hown := Lib.hid (own_base hown hcl.out.size)
  replace hq := Lib.hid (cln_trans hcl.out hq)
  go_wp2_with fail
  go_ret
  exact ⟨A3, c3, m, hm, rfl, hown.out, hq.out⟩
end Go.Proofs.YtoeoodiifpoomaaGreatDoor
