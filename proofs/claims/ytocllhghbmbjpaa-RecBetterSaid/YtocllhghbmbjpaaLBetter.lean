/- The law RecBetter. -/
import Derived.Test.YtocllhghbmbjpaaWSpeaks
import Derived.Test.YtocllhghbmbjpaaWAhead
import Derived.Test.YtocllhghbmbjpaaBetter
import Derived.Deep.RegionHeld3
set_option linter.unusedSimpArgs false
set_option linter.unusedVariables false
set_option maxRecDepth 20000
namespace Go.Proofs.Ytocllhghbmbjpaa
open Go.RowKit Moi
attribute [local go_sem] toList_str str_size less_ltB store_float

theorem heldKeep {w W W' : World} {p0 p1 p2 p3 p4 p5 : Addr} {v0 v1 v2 v3 v4 v5 : Value} (hq : Cln W W')
    (h : W.cell? p0 = some v0 ∧ W.cell? p1 = some v1 ∧ W.cell? p2 = some v2 ∧ W.cell? p3 = some v3 ∧ W.cell? p4 = some v4 ∧ W.cell? p5 = some v5 ∧ Hid (Cln w W)) :
    W'.cell? p0 = some v0 ∧ W'.cell? p1 = some v1 ∧ W'.cell? p2 = some v2 ∧ W'.cell? p3 = some v3 ∧ W'.cell? p4 = some v4 ∧ W'.cell? p5 = some v5 ∧ Hid (Cln w W') := by
  have k := Kept.of_below (S := fun _ => False) hq
  obtain ⟨h0, h1, h2, h3, h4, h5, h6⟩ := h
  exact ⟨k.cell h0 id, k.cell h1 id, k.cell h2 id, k.cell h3 id, k.cell h4 id, k.cell h5 id, Lib.hid (cln_trans h6.out hq)⟩
set_option maxHeartbeats 2000000 in
theorem lBetter (a b c : MItem) (ha : a.score < 18446744073709551616) (hb : b.score < 18446744073709551616) (hc : c.score < 18446744073709551616) (w : World) :
    Calls Try.prog 6 #[itemVal a, itemVal b, itemVal c] w fun e w' => e = .returned (.bool true) ∧ Cln w w' := by
  unfold itemVal
  have hb0 := ((Blk.new w 45 #[.float .f64 a.score, .string (str a.name)]).alloc (.cells #[.float .f64 b.score, .string (str b.name)] 45)).alloc (.cells #[.float .f64 c.score, .string (str c.name)] 45)
  have hb1 := (Blk.new (w.alloc (.cells #[.float .f64 a.score, .string (str a.name)] 45)) 45 #[.float .f64 b.score, .string (str b.name)]).alloc (.cells #[.float .f64 c.score, .string (str c.name)] 45)
  have hb2 := Blk.new ((w.alloc (.cells #[.float .f64 a.score, .string (str a.name)] 45)).alloc (.cells #[.float .f64 b.score, .string (str b.name)] 45)) 45 #[.float .f64 c.score, .string (str c.name)]
  have hcl : Cln w (((w.alloc (.cells #[.float .f64 a.score, .string (str a.name)] 45)).alloc (.cells #[.float .f64 b.score, .string (str b.name)] 45)).alloc (.cells #[.float .f64 c.score, .string (str c.name)] 45)) := by (repeat (first | (with_reducible exact Below.refl _ _) | (with_reducible assumption) | (with_reducible refine Below.setCell ?_ (by first | omega | (simp; done) | (simp; omega)) _) | (with_reducible refine Below.alloc ?_ (by first | omega | (simp; done) | (simp; omega)) _) | (with_reducible refine Below.drew ?_) | (with_reducible refine below_drewN ?_ _)))
  simp only [World.size_alloc] at hb1 hb2
  go_enter Try.func6, Try.ntmps6
  go_wp2_with fail
  refine (speaks_any _).mono ?_; rintro e w1 ⟨rfl, hq⟩
  have hb0' := hb0.cln hq
  have hb1' := hb1.cln hq
  have hb2' := hb2.cln hq
  have hcl1 := cln_trans hcl hq
  clear hb0 hb1 hb2 hcl hq
  go_wp2_with fail
  have h00 := hb0'.cell 0
  have h01 := hb0'.cell 1
  have h10 := hb1'.cell 0
  have h11 := hb1'.cell 1
  have h20 := hb2'.cell 0
  have h21 := hb2'.cell 1
  have hAB : ∀ W : World, Calls Try.prog 19 #[.agg #[.float .f64 a.score, .string (str a.name)], .agg #[.float .f64 b.score, .string (str b.name)]] W fun e w' => e = .returned (.bool (better a b)) ∧ Cln W w' := fun W => better_any a b ha hb W
  have hBA : ∀ W : World, Calls Try.prog 19 #[.agg #[.float .f64 b.score, .string (str b.name)], .agg #[.float .f64 a.score, .string (str a.name)]] W fun e w' => e = .returned (.bool (better b a)) ∧ Cln W w' := fun W => better_any b a hb ha W
  clear hb0' hb1' hb2'
  have hcl1' := Lib.hid hcl1
  clear hcl1
  go_region_held3 (fun W => W.cell? ⟨w.heap.size, 0, none⟩ = some (.float .f64 a.score) ∧ W.cell? ⟨w.heap.size, 1, none⟩ = some (.string (str a.name)) ∧ W.cell? ⟨w.heap.size + 1, 0, none⟩ = some (.float .f64 b.score) ∧ W.cell? ⟨w.heap.size + 1, 1, none⟩ = some (.string (str b.name)) ∧ W.cell? ⟨w.heap.size + 1 + 1, 0, none⟩ = some (.float .f64 c.score) ∧ W.cell? ⟨w.heap.size + 1 + 1, 1, none⟩ = some (.string (str c.name)) ∧ Hid (Cln w W))
    (first | exact heldKeep hq (by assumption) | exact ⟨h00, h01, h10, h11, h20, h21, Lib.hid (Below.drew hcl1'.out)⟩)
    (first
      | (go_at_call 19; with_reducible refine (hAB _).mono ?_; rintro e w' ⟨rfl, hq⟩)
      | (go_at_call 19; with_reducible refine (hBA _).mono ?_; rintro e w' ⟨rfl, hq⟩))
  rename_i hS
  obtain ⟨l1, l2, l3⟩ := better_law a b c
  have cAB : ∀ W : World, Calls Try.prog 20 #[.agg #[.float .f64 a.score, .string (str a.name)], .agg #[.float .f64 b.score, .string (str b.name)]] W fun e w' => e = .returned (.bool (better a b)) ∧ Cln W w' := fun W => ahead_any a b ha hb W
  have cBA : ∀ W : World, Calls Try.prog 20 #[.agg #[.float .f64 b.score, .string (str b.name)], .agg #[.float .f64 a.score, .string (str a.name)]] W fun e w' => e = .returned (.bool (better b a)) ∧ Cln W w' := fun W => ahead_any b a hb ha W
  have cAA : ∀ W : World, Calls Try.prog 19 #[.agg #[.float .f64 a.score, .string (str a.name)], .agg #[.float .f64 a.score, .string (str a.name)]] W fun e w' => e = .returned (.bool false) ∧ Cln W w' := fun W => l2 ▸ better_any a a ha ha W
  have cBC : ∀ W : World, Calls Try.prog 19 #[.agg #[.float .f64 b.score, .string (str b.name)], .agg #[.float .f64 c.score, .string (str c.name)]] W fun e w' => e = .returned (.bool (better b c)) ∧ Cln W w' := fun W => better_any b c hb hc W
  have cAC : ∀ W : World, Calls Try.prog 19 #[.agg #[.float .f64 a.score, .string (str a.name)], .agg #[.float .f64 c.score, .string (str c.name)]] W fun e w' => e = .returned (.bool (better a c)) ∧ Cln W w' := fun W => better_any a c ha hc W
  clear hAB hBA l2 h00 h01 h10 h11 h20 h21 hcl1' hq
  generalize better a b = x at *
  generalize better b a = y at *
  generalize better b c = z at *
  generalize better a c = t at *
  cases x with
  | false =>
    clear l3 l1 cBC cAC
    cases y with
    | false =>
      have h0 := hS.1; have h1 := hS.2.1; have h2 := hS.2.2.1; have h3 := hS.2.2.2.1; have h4 := hS.2.2.2.2.1; have h5 := hS.2.2.2.2.2.1
      have hS' := Lib.hid hS
      clear hS
      go_wp2_with fail
      refine (cAB _).mono ?_; rintro e w8 ⟨rfl, hq⟩
      have hS := heldKeep hq hS'.out
      clear hS' hq h0 h1 h2 h3 h4 h5
      have h0 := hS.1; have h1 := hS.2.1; have h2 := hS.2.2.1; have h3 := hS.2.2.2.1; have h4 := hS.2.2.2.2.1; have h5 := hS.2.2.2.2.2.1
      have hS' := Lib.hid hS
      clear hS
      go_wp2_with fail
      refine (cBA _).mono ?_; rintro e w8 ⟨rfl, hq⟩
      have hS := heldKeep hq hS'.out
      clear hS' hq h0 h1 h2 h3 h4 h5
      have h0 := hS.1; have h1 := hS.2.1; have h2 := hS.2.2.1; have h3 := hS.2.2.2.1; have h4 := hS.2.2.2.2.1; have h5 := hS.2.2.2.2.2.1
      have hS' := Lib.hid hS
      clear hS
      go_wp2_with fail
      refine (cAA _).mono ?_; rintro e w8 ⟨rfl, hq⟩
      have hS := heldKeep hq hS'.out
      clear hS' hq h0 h1 h2 h3 h4 h5
      have h0 := hS.1; have h1 := hS.2.1; have h2 := hS.2.2.1; have h3 := hS.2.2.2.1; have h4 := hS.2.2.2.2.1; have h5 := hS.2.2.2.2.2.1
      have hcl := hS.2.2.2.2.2.2.out
      clear hS
      go_wp2_with fail
      go_ret
      exact ⟨rfl, hcl⟩
    | true =>
      have h0 := hS.1; have h1 := hS.2.1; have h2 := hS.2.2.1; have h3 := hS.2.2.2.1; have h4 := hS.2.2.2.2.1; have h5 := hS.2.2.2.2.2.1
      have hS' := Lib.hid hS
      clear hS
      go_wp2_with fail
      refine (cAB _).mono ?_; rintro e w8 ⟨rfl, hq⟩
      have hS := heldKeep hq hS'.out
      clear hS' hq h0 h1 h2 h3 h4 h5
      have h0 := hS.1; have h1 := hS.2.1; have h2 := hS.2.2.1; have h3 := hS.2.2.2.1; have h4 := hS.2.2.2.2.1; have h5 := hS.2.2.2.2.2.1
      have hS' := Lib.hid hS
      clear hS
      go_wp2_with fail
      refine (cBA _).mono ?_; rintro e w8 ⟨rfl, hq⟩
      have hS := heldKeep hq hS'.out
      clear hS' hq h0 h1 h2 h3 h4 h5
      have h0 := hS.1; have h1 := hS.2.1; have h2 := hS.2.2.1; have h3 := hS.2.2.2.1; have h4 := hS.2.2.2.2.1; have h5 := hS.2.2.2.2.2.1
      have hS' := Lib.hid hS
      clear hS
      go_wp2_with fail
      refine (cAA _).mono ?_; rintro e w8 ⟨rfl, hq⟩
      have hS := heldKeep hq hS'.out
      clear hS' hq h0 h1 h2 h3 h4 h5
      have h0 := hS.1; have h1 := hS.2.1; have h2 := hS.2.2.1; have h3 := hS.2.2.2.1; have h4 := hS.2.2.2.2.1; have h5 := hS.2.2.2.2.2.1
      have hcl := hS.2.2.2.2.2.2.out
      clear hS
      go_wp2_with fail
      go_ret
      exact ⟨rfl, hcl⟩
  | true =>
    have hy : y = false := by simpa using l1
    subst hy
    clear l1
    cases z with
    | false =>
      clear l3 cAC
      have h0 := hS.1; have h1 := hS.2.1; have h2 := hS.2.2.1; have h3 := hS.2.2.2.1; have h4 := hS.2.2.2.2.1; have h5 := hS.2.2.2.2.2.1
      have hS' := Lib.hid hS
      clear hS
      go_wp2_with fail
      refine (cAB _).mono ?_; rintro e w8 ⟨rfl, hq⟩
      have hS := heldKeep hq hS'.out
      clear hS' hq h0 h1 h2 h3 h4 h5
      have h0 := hS.1; have h1 := hS.2.1; have h2 := hS.2.2.1; have h3 := hS.2.2.2.1; have h4 := hS.2.2.2.2.1; have h5 := hS.2.2.2.2.2.1
      have hS' := Lib.hid hS
      clear hS
      go_wp2_with fail
      refine (cBA _).mono ?_; rintro e w8 ⟨rfl, hq⟩
      have hS := heldKeep hq hS'.out
      clear hS' hq h0 h1 h2 h3 h4 h5
      have h0 := hS.1; have h1 := hS.2.1; have h2 := hS.2.2.1; have h3 := hS.2.2.2.1; have h4 := hS.2.2.2.2.1; have h5 := hS.2.2.2.2.2.1
      have hS' := Lib.hid hS
      clear hS
      go_wp2_with fail
      refine (cAA _).mono ?_; rintro e w8 ⟨rfl, hq⟩
      have hS := heldKeep hq hS'.out
      clear hS' hq h0 h1 h2 h3 h4 h5
      have h0 := hS.1; have h1 := hS.2.1; have h2 := hS.2.2.1; have h3 := hS.2.2.2.1; have h4 := hS.2.2.2.2.1; have h5 := hS.2.2.2.2.2.1
      have hS' := Lib.hid hS
      clear hS
      go_wp2_with fail
      refine (cBC _).mono ?_; rintro e w8 ⟨rfl, hq⟩
      have hS := heldKeep hq hS'.out
      clear hS' hq h0 h1 h2 h3 h4 h5
      have h0 := hS.1; have h1 := hS.2.1; have h2 := hS.2.2.1; have h3 := hS.2.2.2.1; have h4 := hS.2.2.2.2.1; have h5 := hS.2.2.2.2.2.1
      have hcl := hS.2.2.2.2.2.2.out
      clear hS
      go_wp2_with fail
      go_ret
      exact ⟨rfl, hcl⟩
    | true =>
      have ht : t = true := by simpa using l3
      subst ht
      clear l3
      have h0 := hS.1; have h1 := hS.2.1; have h2 := hS.2.2.1; have h3 := hS.2.2.2.1; have h4 := hS.2.2.2.2.1; have h5 := hS.2.2.2.2.2.1
      have hS' := Lib.hid hS
      clear hS
      go_wp2_with fail
      refine (cAB _).mono ?_; rintro e w8 ⟨rfl, hq⟩
      have hS := heldKeep hq hS'.out
      clear hS' hq h0 h1 h2 h3 h4 h5
      have h0 := hS.1; have h1 := hS.2.1; have h2 := hS.2.2.1; have h3 := hS.2.2.2.1; have h4 := hS.2.2.2.2.1; have h5 := hS.2.2.2.2.2.1
      have hS' := Lib.hid hS
      clear hS
      go_wp2_with fail
      refine (cBA _).mono ?_; rintro e w8 ⟨rfl, hq⟩
      have hS := heldKeep hq hS'.out
      clear hS' hq h0 h1 h2 h3 h4 h5
      have h0 := hS.1; have h1 := hS.2.1; have h2 := hS.2.2.1; have h3 := hS.2.2.2.1; have h4 := hS.2.2.2.2.1; have h5 := hS.2.2.2.2.2.1
      have hS' := Lib.hid hS
      clear hS
      go_wp2_with fail
      refine (cAA _).mono ?_; rintro e w8 ⟨rfl, hq⟩
      have hS := heldKeep hq hS'.out
      clear hS' hq h0 h1 h2 h3 h4 h5
      have h0 := hS.1; have h1 := hS.2.1; have h2 := hS.2.2.1; have h3 := hS.2.2.2.1; have h4 := hS.2.2.2.2.1; have h5 := hS.2.2.2.2.2.1
      have hS' := Lib.hid hS
      clear hS
      go_wp2_with fail
      refine (cBC _).mono ?_; rintro e w8 ⟨rfl, hq⟩
      have hS := heldKeep hq hS'.out
      clear hS' hq h0 h1 h2 h3 h4 h5
      have h0 := hS.1; have h1 := hS.2.1; have h2 := hS.2.2.1; have h3 := hS.2.2.2.1; have h4 := hS.2.2.2.2.1; have h5 := hS.2.2.2.2.2.1
      have hS' := Lib.hid hS
      clear hS
      go_wp2_with fail
      refine (cAC _).mono ?_; rintro e w8 ⟨rfl, hq⟩
      have hS := heldKeep hq hS'.out
      clear hS' hq h0 h1 h2 h3 h4 h5
      have h0 := hS.1; have h1 := hS.2.1; have h2 := hS.2.2.1; have h3 := hS.2.2.2.1; have h4 := hS.2.2.2.2.1; have h5 := hS.2.2.2.2.2.1
      have hcl := hS.2.2.2.2.2.2.out
      clear hS
      go_wp2_with fail
      go_ret
      exact ⟨rfl, hcl⟩
end Go.Proofs.Ytocllhghbmbjpaa
