/- The law WalKeeps. (Printed by wip/tools/gen_lwalkeeps.py.) -/
import Derived.Test.YtbemnfbndjolpaaGreatDoorWWSp
import Derived.Test.YtbemnfbndjolpaaGreatDoorWLot3
import Derived.Test.YtbemnfbndjolpaaGreatDoorWCrash0
import Derived.Test.YtbemnfbndjolpaaGreatDoorWBig20
set_option linter.unusedSimpArgs false
set_option linter.unusedVariables false
set_option maxRecDepth 20000
namespace Go.Proofs.YtbemnfbndjolpaaGreatDoor
open Go.RowKit Moi
theorem kp_len {α β : Type} {f : α → β} {q : List α} {xs : List β} (h : q.map f = xs) : q.length = xs.length := by rw [← h, List.length_map]
theorem kp_norm {x : MLot} (h : (checkLot x).1 = 0) : sameLot (normL x) x = true ∧ Mod (normL x).deals ∧ Mod x.deals ∧ (normL x).deals.length ≤ 140737488355328 := by
 have hk := (lot_ok h).2.2.2.1
 have hl := (lot_ok h).2.2.1
 refine ⟨by simp [sameLot, normL, sameDeals_norm _ hk], mod_of (fun d hd => ?_), mod_of hk, ?_⟩
 ·obtain ⟨d', hd', rfl⟩ : ∃ d', d' ∈ x.deals ∧ d'.map norm = d := by simpa [normL, normDeals] using hd
  exact deal_norm (hk d' hd')
 ·have : (normL x).deals.length = x.deals.length := by simp [normL, normDeals]
  omega
theorem own_type {w : World} {base e sz n k : Nat} {v : Value} {xs : List Value} (h : w.ownsRow base e sz v n xs) (hk : v.ownBlock = some k) : ∃ cs, Blk w k e cs := by
 rcases h.2 with ⟨h1, _⟩ | ⟨g, cap, cur, h1, _, hg, _⟩
 ·rw [h1] at hk; simp [Value.ownBlock] at hk
 ·rw [h1] at hk
  have : g = k := by simpa [Value.ownBlock] using hk
  subst this; exact ⟨cur, hg⟩
theorem own_lstep {S : Nat → Prop} {W W' : World} {lo pb base e sz n : Nat} {d : MDisk} {v : Value} {xs : List Value} (h : W.ownsRow base e sz v n xs) (hs : LStep S pb W W') (hd : IsDisk W lo pb d) (ht : e ≠ 72 ∧ e ≠ 79 ∧ e ≠ 103) (hS : ∀ k cs, Blk W k e cs → ¬ S k) : W'.ownsRow base e sz v n xs :=
 dk_same h fun k hk => by
  obtain ⟨cs, hb⟩ := own_type h hk
  exact hs.kept.block k hb.lt (fun e => e.elim (hd.other hb ht) (hS k cs hb))
theorem LogOn.grown {w0 W W' : World} {lo pb : Nat} {d : MDisk} {fr ln : Nat} {es : List (List UInt8)} {B n : Nat} {v : Value} {xs : List Value} {o : Obj} (h : LogOn w0 W lo pb d fr ln es B) (hown : W.ownsRow w0.heap.size 38 2 v n xs) (hg : (W.alloc o).grownBy W' v.ownBlock) : LogOn w0 W' lo pb d fr ln es B := by
 have hk : Kept (fun k => v.ownBlock = some k) W W' := ((Kept.refl (fun k => v.ownBlock = some k) W).alloc o).grown hg (fun k e _ => e)
 refine ⟨h.cln.trans (Below.mono (hk.toBelow (B := w0.heap.size) h.cln.size (fun i hi e => absurd (own_ge hown i e).1 (Nat.not_le.2 hi))) (Nat.le_refl _)), h.low, h.disk.kept hk (fun i hi e => ?_), h.roll, h.up, h.left, h.wr, h.pend⟩
 obtain ⟨cs, hb⟩ := own_type hown e
 exact h.disk.other hb (by decide) hi
theorem LogAt.grown {W W' : World} {lo pb rb xb fr ln a n base : Nat} {next : Int} {v : Value} {xs : List Value} {o : Obj} (h : LogAt W lo pb rb xb fr ln a next) (hown : W.ownsRow base 38 2 v n xs) (hg : (W.alloc o).grownBy W' v.ownBlock) : LogAt W' lo pb rb xb fr ln a next :=
 ⟨h.rlo, h.xlo, grown_blk (hown.alloc o) hg (h.rblk.alloc o) (by decide), grown_blk (hown.alloc o) hg (h.xblk.alloc o) (by decide)⟩
structure KpSt (w wr : World) (lo pb rb xb ab rm : Nat) (from_ : Int) (i : Nat) (q : List LQ) (nl L : Nat) (A : Option Addr) (c : Nat) : Prop where
 on : ∃ d B, LogOn w wr lo pb d 0 rm ((q.map LQ.x).map wLot) B ∧ d.pend = [] ∧ B ≤ 64 * i
 at_ : LogAt wr lo pb rb xb 0 rm (layS ((q.map LQ.x).map wLot)).length (from_ + (nl : Int))
 area : Blk wr ab 29 #[.int .i64 0, .int .i64 (rm : Nat)]
 own : wr.ownsRow w.heap.size 38 2 (.slice A nl c) nl (q.flatMap LQ.vals)
 its : ∀ y ∈ q, RdDeals w y.A y.n y.x.deals
 ok : LotsOk from_ (q.map LQ.x)
 nl_ : nl = q.length
 le : nl ≤ i
 left : L = rm - (layS ((q.map LQ.x).map wLot)).length
theorem KpSt.cln_ {w wr w' : World} {lo pb rb xb ab rm : Nat} {from_ : Int} {i : Nat} {q : List LQ} {nl L : Nat} {A : Option Addr} {c : Nat} (h : KpSt w wr lo pb rb xb ab rm from_ i q nl L A c) (k : Cln wr w') : KpSt w w' lo pb rb xb ab rm from_ i q nl L A c :=
 ⟨(by obtain ⟨d, B, h1, h2⟩ := h.on; exact ⟨d, B, h1.cln_ k, h2⟩), h.at_.cln_ k, h.area.cln k, dk_same h.own (fun i hi => k.block i (dk_ge h.own i hi).2), h.its, h.ok, h.nl_, h.le, h.left⟩
theorem KpSt.step {w wr : World} {lo pb rb xb ab rm : Nat} {from_ : Int} {i : Nat} {q : List LQ} {nl L : Nat} {A : Option Addr} {c : Nat} (h : KpSt w wr lo pb rb xb ab rm from_ i q nl L A c) : KpSt w wr lo pb rb xb ab rm from_ (i + 1) q nl L A c :=
 ⟨(by obtain ⟨d, B, h1, h2, h3⟩ := h.on; exact ⟨d, B, h1, h2, by omega⟩), h.at_, h.area, h.own, h.its, h.ok, h.nl_, Nat.le_succ_of_le h.le, h.left⟩
structure KpMid (w wr : World) (lo pb rb xb ab rm : Nat) (from_ : Int) (i : Nat) (q : List LQ) (nl L : Nat) (A : Option Addr) (c : Nat) (y : MLot) : Prop where
 on : ∃ d B, LogOn w wr lo pb d 0 rm ((q.map LQ.x).map wLot ++ [wLot y]) B ∧ d.pend = [] ∧ B ≤ 64 * (i + 1)
 at_ : LogAt wr lo pb rb xb 0 rm (layS ((q.map LQ.x).map wLot ++ [wLot y])).length (y.num + 1)
 area : Blk wr ab 29 #[.int .i64 0, .int .i64 (rm : Nat)]
 own : wr.ownsRow w.heap.size 38 2 (.slice A nl c) nl (q.flatMap LQ.vals)
 its : ∀ y ∈ q, RdDeals w y.A y.n y.x.deals
 ok : LotsOk from_ (q.map LQ.x)
 nl_ : nl = q.length
 le : nl ≤ i
 left : L = rm - (layS ((q.map LQ.x).map wLot)).length
theorem KpMid.cln_ {w wr w' : World} {lo pb rb xb ab rm : Nat} {from_ : Int} {i : Nat} {q : List LQ} {nl L : Nat} {A : Option Addr} {c : Nat} {y : MLot} (h : KpMid w wr lo pb rb xb ab rm from_ i q nl L A c y) (k : Cln wr w') : KpMid w w' lo pb rb xb ab rm from_ i q nl L A c y :=
 ⟨(by obtain ⟨d, B, h1, h2⟩ := h.on; exact ⟨d, B, h1.cln_ k, h2⟩), h.at_.cln_ k, h.area.cln k, dk_same h.own (fun i hi => k.block i (dk_ge h.own i hi).2), h.its, h.ok, h.nl_, h.le, h.left⟩
theorem KpMid.push {w wr w' : World} {lo pb rb xb ab rm : Nat} {from_ : Int} {i : Nat} {q : List LQ} {nl L : Nat} {A : Option Addr} {c : Nat} {y : MLot} (h : KpMid w wr lo pb rb xb ab rm from_ i q nl L A c y) {D A7 : Option Addr} {k cD c7 : Nat} {o : Obj}
  (hown : w'.ownsRow w.heap.size 38 2 (.slice A7 (nl + 1) c7) (nl + 1) (q.flatMap LQ.vals ++ [.int .i64 y.num, .slice D k cD])) (hg : (wr.alloc o).grownBy w' (Value.slice A nl c).ownBlock) (hr : RdDeals w D k y.deals) (hc : (checkLot y).1 = 0) (hnum : y.num = from_ + (nl : Int)) (L2 : Nat) (hL : L2 = L - needS (wLot y).length) :
  KpSt w w' lo pb rb xb ab rm from_ (i + 1) (q ++ [(⟨y, D, k, cD⟩ : LQ)]) (nl + 1) L2 A7 c7 := by
 have hmap : ((q ++ [(⟨y, D, k, cD⟩ : LQ)]).map LQ.x).map wLot = (q.map LQ.x).map wLot ++ [wLot y] := by simp
 have hlay : (layS ((q.map LQ.x).map wLot ++ [wLot y])).length = (layS ((q.map LQ.x).map wLot)).length + needS (wLot y).length := by rw [lay_append, List.length_append]; simp [layS, secs_len]
 obtain ⟨d, B, h1, h2, h3⟩ := h.on
 refine ⟨⟨d, B, by rw [hmap]; exact h1.grown h.own hg, h2, h3⟩, ?_, grown_blk (h.own.alloc o) hg (h.area.alloc o) (by decide), by rw [← lqVals_snoc]; exact hown, ?_, ?_, by rw [List.length_append, h.nl_]; rfl, Nat.succ_le_succ h.le, ?_⟩
 ·have := h.at_.grown h.own hg
  rw [hnum] at this
  rw [hmap]
  have e : from_ + ((nl + 1 : Nat) : Int) = from_ + (nl : Int) + 1 := by omega
  rw [e]; exact this
 ·intro z hz
  rcases List.mem_append.1 hz with hz | hz
  ·exact h.its z hz
  ·obtain rfl : z = ⟨y, D, k, cD⟩ := by simpa using hz
   exact hr
 ·rw [List.map_append]
  exact h.ok.snoc hc (by rw [hnum, List.length_map, h.nl_]) hr.full
 ·rw [hmap, hlay, hL, h.left]; omega
theorem kp_nums {from_ : Int} {nl i n : Nat} (h1 : 1 ≤ from_) (h2 : from_ ≤ 1099511627776) (h : nl ≤ i) (hi : i < n) (hn : n ≤ 12) : wrap64 (from_ + (nl : Int)) = from_ + (nl : Int) ∧ wrap64 (from_ + ((nl : Int) + 1)) = from_ + (nl : Int) + 1 ∧ wrap64 (from_ + (nl : Int) - 1) = from_ + (nl : Int) - 1 ∧ (nl + 1) * 32 ≤ 140737488355328 ∧ 64 * i ≤ 900000 := by
 refine ⟨by unfold wrap64; omega, by unfold wrap64; omega, by unfold wrap64; omega, by omega, by omega⟩
theorem kp_fin {from_ : Int} {nl i : Nat} (h1 : 1 ≤ from_) (h2 : from_ ≤ 1099511627776) (h : nl ≤ i) (hn : i ≤ 12) : wrap64 (from_ + (nl : Int)) = from_ + (nl : Int) ∧ 64 * i ≤ 900000 ∧ nl ≤ 140737488355328 := by
 refine ⟨by unfold wrap64; omega, by omega, by omega⟩
theorem lift_lt {a b : Nat} (h : a < b) : decide ((a : Int) < (b : Int)) = true ∧ decide (a < b) = true := ⟨decide_eq_true (by omega), decide_eq_true h⟩
theorem lift_nlt {a b : Nat} (h : ¬ a < b) : decide ((a : Int) < (b : Int)) = false ∧ decide (a < b) = false := ⟨decide_eq_false (by omega), decide_eq_false h⟩
theorem sub_wrap {a b : Nat} (h : b ≤ a) (ha : a ≤ 4096) : wrap64 ((a : Int) - (b : Int)) = ((a - b : Nat) : Int) := by unfold wrap64; omega
theorem c_f {z : Nat} (h : ¬ z = 0) : (((z : Nat) : Int) == 0) = false := by rw [beq_eq_false_iff_ne]; omega
set_option maxHeartbeats 8000000 in
theorem lWalKeeps (from_ room : Int) (ll : List (List (List MAct))) (A : Option Addr) (n c : Nat) (w : World) (hK : KindsAt w) (hr : RdDs w A n ll) :
  Calls Tryz.prog 5 #[.int .i64 from_, .int .i64 room, .slice A n c] w fun e w' => e = .returned (.bool true) ∧ Cln w w' := by
 have cSp := sp_wal w hK
 have hKH := Lib.hid hK; have hrH := Lib.hid hr
 clear hK hr
 go_enter Tryz.func5, Tryz.ntmps5
 go_wp2_with fail
 refine cSp.mono ?_; rintro e w1 ⟨rfl, hq⟩
 have hcl1 := Lib.hid hq
 clear cSp hq
 have cBig := bigW_any ll A n c w1 (hrH.out.cln hcl1.out)
 go_wp2_with fail
 refine cBig.mono ?_; rintro e w2 ⟨rfl, hq⟩
 have hcl2 := Lib.hid (cln_trans hcl1.out hq)
 clear cBig hq hcl1
 cases hb : bigW ll with
 | true =>
  clear hb
  go_wp2_with fail
  go_ret
  exact ⟨rfl, hcl2.out⟩
 | false =>
 obtain ⟨hn12, hbig0⟩ := bigW_le hb
 rw [hrH.out.len] at hn12
 replace hbig0 := Lib.hid hbig0
 have hn12H := Lib.hid hn12
 have hn4 : Hid (n ≤ 4096) := Nat.le_trans hn12 (by decide)
 clear hb hn12
 by_cases hr1 : room < 1
 ·have t1 : decide (room < 1) = true := decide_eq_true hr1
  clear hr1
  go_wp2_with fail
  go_ret
  exact ⟨rfl, hcl2.out⟩
 have t1 : decide (room < 1) = false := decide_eq_false hr1
 by_cases hr2 : 200 < room
 ·have t2 : decide (200 < room) = true := decide_eq_true hr2
  clear hr1 hr2
  go_wp2_with fail
  go_ret
  exact ⟨rfl, hcl2.out⟩
 have t2 : decide (200 < room) = false := decide_eq_false hr2
 obtain ⟨rm, rfl⟩ : ∃ rm : Nat, room = (rm : Int) := ⟨room.toNat, by omega⟩
 have m1 : 1 ≤ rm := by omega
 have m2 : rm ≤ 200 := by omega
 have m4 := Lib.hid (Nat.le_trans m2 (show 200 ≤ 4096 by decide))
 have cN := lg_new w w2 hcl2.out rm 0 rm m1 m4.out (by rw [Nat.zero_add]; exact Nat.le_refl _)
 replace m1 := Lib.hid m1; replace m2 := Lib.hid m2
 clear hr1 hr2
 go_wp2_with fail
 refine cN.mono ?_
 clear cN
 rintro e w3' ⟨pb, rfl, hL⟩
 obtain ⟨w3, hw3⟩ : ∃ w3, w3 = w2 := ⟨_, rfl⟩
 rw [← hw3] at hL
 replace hw3 := Lib.hid hw3
 obtain ⟨ab, hab⟩ : ∃ ab, ab = w3'.heap.size := ⟨_, rfl⟩
 have hL4 := Lib.hid (hL.cln_ (W' := w3'.alloc (.cells #[.int .i64 0, .int .i64 (rm : Nat)] 29)) (by (repeat with_reducible first | exact cR _ | assumption | refine cA ?_ _ | refine cD ?_ | refine cN ?_ _ | refine cS ?_ (by first | omega | (simp <;> omega)) _)))
 have hb4 := Blk.new w3' 29 #[.int .i64 0, .int .i64 (rm : Nat)]
 have c0 := hb4.cell 0; have c1 := hb4.cell 1; have cl := hb4.lt
 rw [← hab] at hb4
 replace hb4 := Lib.hid hb4
 clear hL hcl2
 by_cases hf : from_ < 1 ∨ 1099511627776 < from_
 ·have cO := wl_open_bad (W := w3'.alloc (.cells #[.int .i64 0, .int .i64 (rm : Nat)] 29)) (.pointer (some ⟨pb, 0, none⟩)) 0 rm from_ hf
  replace hab := Lib.hid hab
  have cO' : Calls Tryz.prog 12 #[.pointer (some ⟨pb, 0, none⟩), .agg #[.int .i64 0, .int .i64 (rm : Nat)], .int .i64 from_] (w3'.alloc (.cells #[.int .i64 0, .int .i64 (rm : Nat)] 29)) _ := cO
  clear cO
  by_cases hf1 : from_ < 1
  ·have t3 : decide (from_ < 1) = true := decide_eq_true hf1
   clear hf hf1
   go_wp2_with fail
   refine cO'.mono ?_
   clear cO'
   rintro e w4 ⟨rfl, hq⟩
   have hend := Lib.hid (cln_trans hL4.out.cln hq)
   clear hq c0 c1 cl
   go_wp2_with fail
   go_ret
   exact ⟨rfl, hend.out⟩
  ·have t3 : decide (from_ < 1) = false := decide_eq_false hf1
   have t4 : decide (1099511627776 < from_) = true := decide_eq_true (by omega)
   clear hf hf1
   go_wp2_with fail
   refine cO'.mono ?_
   clear cO'
   rintro e w4 ⟨rfl, hq⟩
   have hend := Lib.hid (cln_trans hL4.out.cln hq)
   clear hq c0 c1 cl
   go_wp2_with fail
   go_ret
   exact ⟨rfl, hend.out⟩
 have hf1 : 1 ≤ from_ := by omega
 have hf2 : from_ ≤ 1099511627776 := by omega
 have t3 : decide (from_ < 1) = false := decide_eq_false (by omega)
 have t4 : decide (1099511627776 < from_) = false := decide_eq_false (by omega)
 have cO : Calls Tryz.prog 12 #[.pointer (some ⟨pb, 0, none⟩), .agg #[.int .i64 0, .int .i64 (rm : Nat)], .int .i64 from_] (w3'.alloc (.cells #[.int .i64 0, .int .i64 (rm : Nat)] 29)) _ := lg_open hL4.out hKH.out m1.out (by decide) from_ hf1 hf2
 replace hf1 := Lib.hid hf1; replace hf2 := Lib.hid hf2
 replace hab := Lib.hid hab
 clear hf
 go_wp2_with fail
 refine cO.mono ?_
 clear cO c0 c1 cl
 rintro e w5 ⟨hL5, hS5, hM⟩
 obtain ⟨xb, rb, Az, nz, cz, q, rfl, hq, ⟨b0, hb0, hO, hd0⟩, hX5⟩ := hM
 obtain rfl : q = [] := by simpa using hq
 obtain rfl : nz = 0 := by have := OwnLots.len hO; simpa using this.symm
 have hb5 := Lib.hid (hS5.blk hL4.out.disk hb4.out (by decide))
 have hQ5 : Hid (KpSt w w5 w3.heap.size pb rb xb ab rm from_ 0 [] 0 rm none 0) :=
  ⟨⟨_, 0, hL5, rfl, Nat.le_refl _⟩, hX5, hb5.out, World.ownsRow_nil _ _ _ _, (fun _ h => by cases h), LotsOk.nil _, rfl, Nat.le_refl _, rfl⟩
 clear hO hb0 hd0 hS5 hL4 hL5 hb4 hb5 hq hX5
 rw [← hab.out]
 go_wp2_with fail
 go_loopw [73, 13, 14] (fun v u x wr => ∃ (i : Nat) (q : List LQ) (nl L : Nat) (A1 : Option Addr) (c1 : Nat), i ≤ n ∧ v = .int .i64 (i : Nat) ∧ u = .slice A1 nl c1 ∧ x = .int .i64 (L : Nat) ∧ Hid (KpSt w wr w3.heap.size pb rb xb ab rm from_ i q nl L A1 c1)) (fun v _ _ _ => (n - intOf v).toNat)
 case atStart => exact ⟨0, [], 0, rm, none, 0, Nat.zero_le _, rfl, rfl, rfl, hQ5⟩
 case round =>
  clear hQ5
  obtain ⟨i, q, nl, L, Aw, cw, hi, rfl, rfl, rfl, hQ6⟩ := hrel
  by_cases hin : i < n
  ·have ti : decide ((i : Int) < (n : Int)) = true := decide_eq_true (by omega)
   have ig1 : (0 : Int) ≤ (i : Int) := by omega
   have ig2 : (i : Int) < (n : Int) := by omega
   obtain ⟨d6, B6, hL6, hp6, hB6⟩ := hQ6.out.on
   have hil : i < ll.length := by rw [hrH.out.len]; exact hin
   obtain ⟨g, o, D, k, c', rfl, ga, hra⟩ := hrH.out.at_ i ll[i] (List.getElem?_eq_getElem hil)
   have hb1 := hbig0.out ll[i] (List.getElem_mem _)
   have ga6 := (Kept.of_below (S := fun _ => False) hL6.cln).cell ga id
   have gl := World.block_lt_of_cell? _ _ ga6
   generalize ll[i] = x at hra hb1
   have hmod := Lib.hid (bigL_mod hb1)
   have hrx := Lib.hid hra
   obtain ⟨n1, n2, n3, hb32, hBn⟩ := kp_nums hf1.out hf2.out hQ6.out.le hin hn12H.out
   obtain ⟨fn, hfn⟩ : ∃ fn, fn = from_ + (nl : Int) := ⟨_, rfl⟩
   have hfn1 : from_ + ((nl + 1 : Nat) : Int) = fn + 1 := by rw [hfn]; omega
   replace n1 := n1.trans hfn.symm
   replace n2 : wrap64 (from_ + ((nl : Int) + 1)) = fn + 1 := n2.trans (by rw [hfn])
   rw [← hfn] at n3
   obtain ⟨fm, hfm⟩ : ∃ fm, fm = fn - 1 := ⟨_, rfl⟩
   replace n3 := n3.trans hfm.symm
   have ne1 : fm ≠ fn := by omega
   have ne2 : fm ≠ fn + 1 := by omega
   replace ne1 := Lib.hid ne1; replace ne2 := Lib.hid ne2; replace hfn := Lib.hid hfn; replace hfn1 := Lib.hid hfn1; replace hfm := Lib.hid hfm
   replace hin := Lib.hid hin
   have hB9 := Lib.hid (Nat.le_trans hB6 hBn)
   have hB6' := Lib.hid hB6
   have hob := Lib.hid (fun g hg => (own_ge hQ6.out.own g hg).2)
   obtain ⟨c, rfl⟩ : ∃ c, c = c' := ⟨_, rfl⟩
   have hk7 : Cln wr (wr.alloc (.cells #[.int .i64 fn, .slice D k c] 38)) := by (repeat with_reducible first | exact cR _ | assumption | refine cA ?_ _ | refine cD ?_ | refine cN ?_ _ | refine cS ?_ (by first | omega | (simp <;> omega)) _)
   have hL7 := Lib.hid (hL6.cln_ hk7)
   have hX7 : Hid (LogAt (wr.alloc (.cells #[.int .i64 fn, .slice D k c] 38)) w3.heap.size pb rb xb 0 rm (layS ((q.map LQ.x).map wLot)).length fn) := by have := hQ6.out.at_.cln_ hk7; rw [← hfn.out] at this; exact this
   have hQ7 := Lib.hid (hQ6.out.cln_ hk7)
   have bo7 := Lib.hid (Blk.new wr 38 #[.int .i64 fn, .slice D k c])
   replace hb32 := Lib.hid hb32
   clear hra hb1 ga hil hi hL6 hB6 hBn hQ6 hk7
   have l0 := bo7.out.cell 0; have l1 := bo7.out.cell 1; have ll := bo7.out.lt
   obtain ⟨bx, hbx⟩ : ∃ bx, bx = wr.heap.size := ⟨_, rfl⟩
   replace hbx := Lib.hid hbx
   by_cases hck : (checkLot ⟨fn, x⟩).1 = 0
   rotate_left
   ·have cP : Calls Tryz.prog 16 #[.pointer (some ⟨xb, 0, none⟩), .agg #[.int .i64 fn, .slice D k c]] (wr.alloc (.cells #[.int .i64 fn, .slice D k c] 38)) _ := lg_put_bad ⟨fn, x⟩ hL7.out hX7.out hKH.out D k c hmod.out (hrx.out.cln hL7.out.cln) hck
    generalize hce : (checkLot ⟨fn, x⟩).1 = code at hck cP
    have tc := c_f hck
    replace hck := Lib.hid hck; replace hce := Lib.hid hce
    go_wp2_with fail
    refine cP.mono ?_
    clear cP l0 l1 ll ga6 gl ig1 ig2
    rintro e w9 ⟨rfl, hq9⟩
    have hQ9 := Lib.hid ((hQ7.out.cln_ hq9).step); have bo9 := Lib.hid (bo7.out.cln hq9)
    have hcw := Lib.hid (cln_trans hL7.out.cln hq9)
    clear hq9 hL7 hX7 hQ7 bo7
    have cC := rlcheck_any ⟨fn, x⟩ D k c hmod.out w9 (hKH.out.cln (hcw.out)) (hrx.out.cln hcw.out)
    have l0 := bo9.out.cell 0; have l1 := bo9.out.cell 1; have ll := bo9.out.lt
    rw [hce.out] at cC
    go_wp2_with fail
    refine cC.mono ?_
    clear cC l0 l1 ll
    rintro e w10 ⟨rfl, hq10⟩
    have hQ10 := Lib.hid (hQ9.out.cln_ hq10); have bo10 := Lib.hid (bo9.out.cln hq10)
    replace hcw := Lib.hid (cln_trans hcw.out hq10)
    clear hq10 hQ9 bo9
    obtain ⟨dz, Bz, hLz, hpz, hBz⟩ := hQ10.out.on
    have cLf : Calls Tryz.prog 21 #[.pointer (some ⟨xb, 0, none⟩)] w10 fun e w' => e = .returned (.int .i64 (L : Nat)) ∧ Cln w10 w' := by
     have h := lg_left hLz hQ10.out.at_
     rw [← hQ10.out.left] at h
     exact h
    clear hLz hpz hBz
    go_wp2_with fail
    refine cLf.mono ?_
    clear cLf
    rintro e w11 ⟨rfl, hq11⟩
    have hQ11 := Lib.hid (hQ10.out.cln_ hq11); have bo11 := Lib.hid (bo10.out.cln hq11)
    clear hq11 hQ10 bo10
    have cNx : Calls Tryz.prog 20 #[.pointer (some ⟨xb, 0, none⟩)] w11 fun e w' => e = .returned (.int .i64 fn) ∧ Cln w11 w' := by
     have h := lg_next hQ11.out.at_
     rw [← hfn.out] at h
     exact h
    go_wp2_with fail
    refine cNx.mono ?_
    clear cNx
    rintro e w12 ⟨rfl, hq12⟩
    have hQ12 := Lib.hid (hQ11.out.cln_ hq12); have bo12 := Lib.hid (bo11.out.cln hq12)
    clear hq12 hQ11 bo11
    have cPn : Calls Tryz.prog 16 #[.pointer (some ⟨xb, 0, none⟩), .agg #[.int .i64 fm, .slice none 0 0]] w12 _ := lg_put_num hQ12.out.at_ (num := fm) (by rw [← hfn.out]; exact ne1.out) none 0 0
    have l0 := bo12.out.cell 0; have ll := bo12.out.lt
    go_wp2_with fail
    refine cPn.mono ?_
    clear cPn l0 ll
    rintro e w13 ⟨rfl, hq13⟩
    have hQ13 := Lib.hid (hQ12.out.cln_ hq13)
    clear hq13 hQ12 bo12
    go_wp2_with fail
    have tw := wrap_succ i n hin.out hn4.out
    go_roundw
    case rel => exact ⟨i + 1, q, nl, L, Aw, cw, hin.out, by first | (rw [tw]; rfl) | rfl, rfl, rfl, hQ13⟩
    case measure => first | (rw [tw]; exact meas_lt _ _ hin.out) | exact meas_lt _ _ hin.out
   ·have h48 := Lib.hid (lot_ok hck).2.2.2.2.1
    have hdk := Lib.hid (lot_ok hck).2.2.2.1
    have hn1 := Lib.hid (lot_ok hck).1
    have hn2 := Lib.hid (lot_ok hck).2.1
    have hk32 : Hid (k ≤ 32) := by have h1 := (lot_ok hck).2.2.1; have h2 := hrx.out.len; unfold Hid; rw [← h2]; exact h1
    obtain ⟨NS, hNS⟩ : ∃ z, z = needS (wLot ⟨fn, x⟩).length := ⟨_, rfl⟩
    replace hNS := Lib.hid hNS
    by_cases hnf : L < NS
    ·have cP : Calls Tryz.prog 16 #[.pointer (some ⟨xb, 0, none⟩), .agg #[.int .i64 fn, .slice D k c]] (wr.alloc (.cells #[.int .i64 fn, .slice D k c] 38)) _ := lg_put_full ⟨fn, x⟩ hL7.out hX7.out hKH.out D k c hmod.out (hrx.out.cln hL7.out.cln) hck (by rw [← hNS.out, ← hQ7.out.left]; exact hnf)
     obtain ⟨tn, tn'⟩ := lift_lt hnf
     replace hck := Lib.hid hck; replace hnf := Lib.hid hnf
     go_wp2_with fail
     refine cP.mono ?_
     clear cP l0 l1 ll ga6 gl ig1 ig2
     rintro e w9 ⟨rfl, hq9⟩
     have hQ9 := Lib.hid ((hQ7.out.cln_ hq9).step); have bo9 := Lib.hid (bo7.out.cln hq9)
     have hcw := Lib.hid (cln_trans hL7.out.cln hq9)
     clear hq9 hL7 hX7 hQ7 bo7
     have cC := rlcheck_any ⟨fn, x⟩ D k c hmod.out w9 (hKH.out.cln (hcw.out)) (hrx.out.cln hcw.out)
     have l0 := bo9.out.cell 0; have l1 := bo9.out.cell 1; have ll := bo9.out.lt
     rw [(lot_ok hck.out).2.2.2.2.2] at cC
     go_wp2_with fail
     refine cC.mono ?_
     clear cC l0 l1 ll
     rintro e w10 ⟨rfl, hq10⟩
     have hQ10 := Lib.hid (hQ9.out.cln_ hq10); have bo10 := Lib.hid (bo9.out.cln hq10)
     replace hcw := Lib.hid (cln_trans hcw.out hq10)
     clear hq10 hQ9 bo9
     have cRB := rlbytes_any ⟨fn, x⟩ hn1.out hn2.out hdk.out D k c hk32.out w10 (hKH.out.cln hcw.out) (hrx.out.cln hcw.out)
     have l0 := bo10.out.cell 0; have l1 := bo10.out.cell 1; have ll := bo10.out.lt
     go_wp2_with fail
     refine cRB.mono ?_
     clear cRB l0 l1 ll
     rintro e w11 ⟨Ab, cb, nb, hnb, rfl, hownb, hq11⟩
     have hQ11 := Lib.hid (hQ10.out.cln_ hq11); have bo11 := Lib.hid (bo10.out.cln hq11)
     replace hcw := Lib.hid (cln_trans hcw.out hq11)
     clear hq11 hQ10 bo10 hownb
     have cRN : Calls Tryz.prog 17 #[.int .i64 (nb : Nat)] w11 fun e w' => e = .returned (.int .i64 (NS : Nat)) ∧ Cln w11 w' := by
      have h := rneed nb (Nat.le_trans (Nat.le_of_eq hnb.out) (Nat.le_trans h48.out (by decide))) w11
      rw [show needS nb = NS from by rw [hnb.out, hNS.out]] at h
      exact h
     go_wp2_with fail
     refine cRN.mono ?_
     clear cRN
     rintro e w12 ⟨rfl, hq12⟩
     have hQ12 := Lib.hid (hQ11.out.cln_ hq12); have bo12 := Lib.hid (bo11.out.cln hq12)
     replace hcw := Lib.hid (cln_trans hcw.out hq12)
     clear hq12 hQ11 bo11
     obtain ⟨dz, Bz, hLz, hpz, hBz⟩ := hQ12.out.on
     have cLf : Calls Tryz.prog 21 #[.pointer (some ⟨xb, 0, none⟩)] w12 fun e w' => e = .returned (.int .i64 (L : Nat)) ∧ Cln w12 w' := by
      have h := lg_left hLz hQ12.out.at_
      rw [← hQ12.out.left] at h
      exact h
     clear hLz hpz hBz
     go_wp2_with fail
     refine cLf.mono ?_
     clear cLf
     rintro e w13 ⟨rfl, hq13⟩
     have hQ13 := Lib.hid (hQ12.out.cln_ hq13); have bo13 := Lib.hid (bo12.out.cln hq13)
     clear hq13 hQ12 bo12
     have cNx : Calls Tryz.prog 20 #[.pointer (some ⟨xb, 0, none⟩)] w13 fun e w' => e = .returned (.int .i64 fn) ∧ Cln w13 w' := by
      have h := lg_next hQ13.out.at_
      rw [← hfn.out] at h
      exact h
     go_wp2_with fail
     refine cNx.mono ?_
     clear cNx
     rintro e w14 ⟨rfl, hq14⟩
     have hQ14 := Lib.hid (hQ13.out.cln_ hq14); have bo14 := Lib.hid (bo13.out.cln hq14)
     clear hq14 hQ13 bo13
     have cPn : Calls Tryz.prog 16 #[.pointer (some ⟨xb, 0, none⟩), .agg #[.int .i64 fm, .slice none 0 0]] w14 _ := lg_put_num hQ14.out.at_ (num := fm) (by rw [← hfn.out]; exact ne1.out) none 0 0
     have l0 := bo14.out.cell 0; have ll := bo14.out.lt
     go_wp2_with fail
     refine cPn.mono ?_
     clear cPn l0 ll
     rintro e w15 ⟨rfl, hq15⟩
     have hQ15 := Lib.hid (hQ14.out.cln_ hq15)
     clear hq15 hQ14 bo14
     go_wp2_with fail
     have tw := wrap_succ i n hin.out hn4.out
     go_roundw
     case rel => exact ⟨i + 1, q, nl, L, Aw, cw, hin.out, by first | (rw [tw]; rfl) | rfl, rfl, rfl, hQ15⟩
     case measure => first | (rw [tw]; exact meas_lt _ _ hin.out) | exact meas_lt _ _ hin.out
    ·have cP : Calls Tryz.prog 16 #[.pointer (some ⟨xb, 0, none⟩), .agg #[.int .i64 fn, .slice D k c]] (wr.alloc (.cells #[.int .i64 fn, .slice D k c] 38)) _ := lg_put ⟨fn, x⟩ hL7.out hX7.out hKH.out hB9.out D k c hmod.out (hrx.out.cln hL7.out.cln) hck (by rw [← hNS.out, ← hQ7.out.left]; exact Nat.not_lt.1 hnf)
     obtain ⟨tn, tn'⟩ := lift_nlt hnf
     have hLle : L ≤ 4096 := by rw [hQ7.out.left]; exact Nat.le_trans (Nat.sub_le _ _) m4.out
     have tsub := sub_wrap (Nat.not_lt.1 hnf) hLle
     obtain ⟨L2, hL2⟩ : ∃ z, z = L - NS := ⟨_, rfl⟩
     rw [← hL2] at tsub
     replace hL2 := Lib.hid hL2
     replace hck := Lib.hid hck; replace hnf := Lib.hid hnf
     clear hLle
     go_wp2_with fail
     refine cP.mono ?_
     clear cP l0 l1 ll ga6 gl ig1 ig2
     rintro e w9 ⟨rfl, hSp, hXq, dq, hLq, hpq⟩
     have hcw := Lib.hid hLq.cln
     have hQ9 : Hid (KpMid w w9 w3.heap.size pb rb xb ab rm from_ i q nl L Aw cw ⟨fn, x⟩) :=
      ⟨⟨dq, B6 + 64, hLq, hpq, by have := hB6'.out; omega⟩, hXq, hSp.blk hL7.out.disk hQ7.out.area (by decide) (fun e => by rcases e with e | e; exact Blk.ne_ hQ7.out.area hX7.out.rblk (by decide) e; exact Blk.ne_ hQ7.out.area hX7.out.xblk (by decide) e),
       own_lstep hQ7.out.own hSp hL7.out.disk (by decide) (fun k cs hb e => by rcases e with e | e; exact Blk.ne_ hb hX7.out.rblk (by decide) e; exact Blk.ne_ hb hX7.out.xblk (by decide) e), hQ7.out.its, hQ7.out.ok, hQ7.out.nl_, hQ7.out.le, hQ7.out.left⟩
     have bo9 := Lib.hid (hSp.blk hL7.out.disk bo7.out (by decide) (fun e => by rcases e with e | e; exact Blk.ne_ bo7.out hX7.out.rblk (by decide) e; exact Blk.ne_ bo7.out hX7.out.xblk (by decide) e))
     clear hSp hXq hLq hpq hL7 hX7 hQ7 bo7
     have cC := rlcheck_any ⟨fn, x⟩ D k c hmod.out w9 (hKH.out.cln (hcw.out)) (hrx.out.cln hcw.out)
     have l0 := bo9.out.cell 0; have l1 := bo9.out.cell 1; have ll := bo9.out.lt
     rw [(lot_ok hck.out).2.2.2.2.2] at cC
     go_wp2_with fail
     refine cC.mono ?_
     clear cC l0 l1 ll
     rintro e w10 ⟨rfl, hq10⟩
     have hQ10 := Lib.hid (hQ9.out.cln_ hq10); have bo10 := Lib.hid (bo9.out.cln hq10)
     replace hcw := Lib.hid (cln_trans hcw.out hq10)
     clear hq10 hQ9 bo9
     have cRB := rlbytes_any ⟨fn, x⟩ hn1.out hn2.out hdk.out D k c hk32.out w10 (hKH.out.cln hcw.out) (hrx.out.cln hcw.out)
     have l0 := bo10.out.cell 0; have l1 := bo10.out.cell 1; have ll := bo10.out.lt
     go_wp2_with fail
     refine cRB.mono ?_
     clear cRB l0 l1 ll
     rintro e w11 ⟨Ab, cb, nb, hnb, rfl, hownb, hq11⟩
     have hQ11 := Lib.hid (hQ10.out.cln_ hq11); have bo11 := Lib.hid (bo10.out.cln hq11)
     replace hcw := Lib.hid (cln_trans hcw.out hq11)
     clear hq11 hQ10 bo10 hownb
     have cRN : Calls Tryz.prog 17 #[.int .i64 (nb : Nat)] w11 fun e w' => e = .returned (.int .i64 (NS : Nat)) ∧ Cln w11 w' := by
      have h := rneed nb (Nat.le_trans (Nat.le_of_eq hnb.out) (Nat.le_trans h48.out (by decide))) w11
      rw [show needS nb = NS from by rw [hnb.out, hNS.out]] at h
      exact h
     go_wp2_with fail
     refine cRN.mono ?_
     clear cRN
     rintro e w12 ⟨rfl, hq12⟩
     have hQ12 := Lib.hid (hQ11.out.cln_ hq12); have bo12 := Lib.hid (bo11.out.cln hq12)
     replace hcw := Lib.hid (cln_trans hcw.out hq12)
     clear hq12 hQ11 bo11
     obtain ⟨i0, hi0, hz0, hz1, hz2⟩ := info_parts Tryz.info38
     have l0 := bo12.out.cell 0; have l1 := bo12.out.cell 1; have ll := bo12.out.lt
     have hW12 : w.heap.size ≤ w12.heap.size := hcw.out.size
     go_wp2_with (with_reducible refine stop_app rfl ?_)
     refine Hid.out ?_
     show wpList _ _ _ _ _ _
     refine wpList_pushAt rfl _ _ 42 rfl w.heap.size 38 i0 (.agg #[.int .i64 0, .slice none 0 0]) 2 32 Tryz.underlying42 hi0 hz0 hz1 hz2 rfl (by decide) (by decide) (.slice Aw nl cw) nl (q.flatMap LQ.vals) [.int .i64 fn, .slice D k c] rfl (by simp [Value.oneCell']) rfl rfl hQ12.out.own hb32.out hW12 ?_
     intro v' w13 hown13 hgr13 hv13
     obtain ⟨A7, c7, rfl, _, _⟩ := own_form hown13
     have hQ13 := Lib.hid (hQ12.out.push hown13 hgr13 hrx.out hck.out hfn.out L2 (by rw [hL2.out, hNS.out]))
     have bo13 : Hid (Blk w13 wr.heap.size 38 #[.int .i64 fn, .slice D k c]) := (hgr13.block wr.heap.size (by have := bo12.out.lt; simp; omega) (fun e => absurd (hob.out wr.heap.size e.symm) (Nat.lt_irrefl _))).trans (bo12.out.alloc _)
     clear hown13 hgr13 hv13 hQ12 bo12 hcw hi0 hz0 hz1 hz2 hW12 l0 l1 ll
     obtain ⟨dz, Bz, hLz, hpz, hBz⟩ := hQ13.out.on
     have cLf : Calls Tryz.prog 21 #[.pointer (some ⟨xb, 0, none⟩)] w13 fun e w' => e = .returned (.int .i64 (L2 : Nat)) ∧ Cln w13 w' := by
      have h := lg_left hLz hQ13.out.at_
      rw [← hQ13.out.left] at h
      exact h
     clear hLz hpz hBz
     go_wp2_with fail
     refine cLf.mono ?_
     clear cLf
     rintro e w14 ⟨rfl, hq14⟩
     have hQ14 := Lib.hid (hQ13.out.cln_ hq14); have bo14 := Lib.hid (bo13.out.cln hq14)
     clear hq14 hQ13 bo13
     have cNx : Calls Tryz.prog 20 #[.pointer (some ⟨xb, 0, none⟩)] w14 fun e w' => e = .returned (.int .i64 (fn + 1)) ∧ Cln w14 w' := by
      have h := lg_next hQ14.out.at_
      rw [hfn1.out] at h
      exact h
     go_wp2_with fail
     refine cNx.mono ?_
     clear cNx
     rintro e w15 ⟨rfl, hq15⟩
     have hQ15 := Lib.hid (hQ14.out.cln_ hq15); have bo15 := Lib.hid (bo14.out.cln hq15)
     clear hq15 hQ14 bo14
     have cPn : Calls Tryz.prog 16 #[.pointer (some ⟨xb, 0, none⟩), .agg #[.int .i64 fm, .slice none 0 0]] w15 _ := lg_put_num hQ15.out.at_ (num := fm) (by rw [hfn1.out]; exact ne2.out) none 0 0
     have l0 := bo15.out.cell 0; have ll := bo15.out.lt
     go_wp2_with fail
     refine cPn.mono ?_
     clear cPn l0 ll
     rintro e w16 ⟨rfl, hq16⟩
     have hQ16 := Lib.hid (hQ15.out.cln_ hq16)
     clear hq16 hQ15 bo15
     go_wp2_with fail
     have tw := wrap_succ i n hin.out hn4.out
     go_roundw
     case rel => exact ⟨i + 1, (q ++ [(⟨⟨fn, x⟩, D, k, c⟩ : LQ)]), (nl + 1), L2, A7, c7, hin.out, by first | (rw [tw]; rfl) | rfl, rfl, rfl, hQ16⟩
     case measure => first | (rw [tw]; exact meas_lt _ _ hin.out) | exact meas_lt _ _ hin.out
  ·obtain rfl : n = i := by omega
   have ti : decide ((n : Int) < (n : Int)) = false := decide_eq_false (by omega)
   obtain ⟨d6, B6, hL6, hp6, hB6⟩ := hQ6.out.on
   have cK := dk_crash0 hL6.disk hp6
   obtain ⟨k1, k2, k3⟩ := kp_fin hf1.out hf2.out hQ6.out.le hn12H.out
   have hdq : (⟨d6.firm, [], 0, false, d6.writes⟩ : MDisk) = d6 := by
    have e1 := hL6.left; have e2 := hL6.up
    cases d6; simp at hp6 e1 e2; simp [hp6, e1, e2]
   have hB9 := Lib.hid (Nat.le_trans hB6 k2)
   have hL6H := Lib.hid hL6; have hdqH := Lib.hid hdq
   replace k3 := Lib.hid k3
   clear hL6 hp6 hB6 hdq k2
   go_wp2_with fail
   refine cK.mono ?_
   clear cK
   rintro e w7 ⟨rfl, hD7, hS7⟩
   rw [hdqH.out] at hD7
   have hL7 : Hid (LogOn w w7 w3.heap.size pb d6 0 rm ((q.map LQ.x).map wLot) B6) := ⟨hS7.cln hL6H.out.disk hL6H.out.cln hL6H.out.low, hL6H.out.low, hD7, hL6H.out.roll, hL6H.out.up, hL6H.out.left, hL6H.out.wr, hL6H.out.pend⟩
   have own7 := Lib.hid (own_lstep hQ6.out.own (LStep.of_d (S := fun _ => False) hS7) hL6H.out.disk (by decide) (fun _ _ _ e => e))
   have hb7 := Lib.hid (hS7.blk hL6H.out.disk hQ6.out.area (by decide))
   have cO : Calls Tryz.prog 12 #[.pointer (some ⟨pb, 0, none⟩), .agg #[.int .i64 0, .int .i64 (rm : Nat)], .int .i64 from_] w7 _ := lg_open hL7.out hKH.out m1.out hB9.out from_ hf1.out hf2.out
   have c0 := hb7.out.cell 0; have c1 := hb7.out.cell 1; have cl := hb7.out.lt
   clear hD7 hS7 hL6H
   go_wp2_with fail
   refine cO.mono ?_
   clear cO c0 c1 cl
   rintro e w8 ⟨hL8, hS8, hM⟩
   rw [hQ6.out.ok.open_] at hM
   obtain ⟨xb2, rb2, A2, n2, c2, q2, rfl, hq2, ⟨b2, _, hO2, _⟩, hX8⟩ := hM
   have hn2 : n2 = nl := by
    have h1 := OwnLots.len hO2; have h2 := kp_len hq2; have h3 := hQ6.out.nl_
    rw [List.length_map, List.length_map] at h2
    omega
   subst hn2
   have own8 := own_lstep own7.out (LStep.of_d (S := fun _ => False) hS8) hL7.out.disk (by decide) (fun _ _ _ e => e)
   have hrm := hO2.rdls
   rw [hq2] at hrm
   have hrw := rdls_own own8 (fun x hx => (hQ6.out.its x hx).cln hL8.cln)
   have cS := same20_any _ _ A2 Aw n2 c2 cw w8 hrm hrw k3.out (fun j x y hx hy => by
    rw [List.getElem?_map, hy] at hx
    have hxy : x = normL y := by simpa using hx.symm
    subst hxy
    exact kp_norm (hQ6.out.ok j y hy).1)
   have hL8H := Lib.hid hL8; have hX8H := Lib.hid hX8
   have hleft := Lib.hid hQ6.out.left
   clear hL8 hX8 hS8 own8 hrm hrw hO2 hq2 own7 hb7 hL7 hQ6
   go_wp2_with fail
   refine cS.mono ?_
   clear cS
   rintro e w9 ⟨rfl, hq9⟩
   have hL9 := Lib.hid (hL8H.out.cln_ hq9); have hX9 := Lib.hid (hX8H.out.cln_ hq9)
   clear hL8H hX8H hq9
   have cNx := lg_next hX9.out
   go_wp2_with fail
   refine cNx.mono ?_
   clear cNx
   rintro e w10 ⟨rfl, hq10⟩
   have hL10 := Lib.hid (hL9.out.cln_ hq10); have hX10 := Lib.hid (hX9.out.cln_ hq10)
   clear hL9 hX9 hq10
   have cLf : Calls Tryz.prog 21 #[.pointer (some ⟨xb2, 0, none⟩)] w10 fun e w' => e = .returned (.int .i64 (L : Nat)) ∧ Cln w10 w' := by
    have h := lg_left hL10.out hX10.out
    rw [← hleft.out] at h
    exact h
   go_wp2_with fail
   refine cLf.mono ?_
   clear cLf
   rintro e w11 ⟨rfl, hq11⟩
   have hend := Lib.hid (cln_trans hL10.out.cln hq11)
   clear hq11 hL10 hX10
   go_wp2_with fail
   go_ret
   exact ⟨rfl, hend.out⟩
end Go.Proofs.YtbemnfbndjolpaaGreatDoor
