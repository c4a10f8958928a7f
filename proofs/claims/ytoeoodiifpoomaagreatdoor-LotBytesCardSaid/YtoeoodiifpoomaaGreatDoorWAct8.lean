/- The walks of the document's Parts and Bytes of acts. (Printed by wip/tools/gen_act8.py.) -/
import Derived.Test.YtoeoodiifpoomaaGreatDoorWAct4
import Derived.Test.YtoeoodiifpoomaaGreatDoorWAct5
import Derived.Test.YtoeoodiifpoomaaGreatDoorWActR
import Derived.Test.YtoeoodiifpoomaaGreatDoorWRBytes
import Derived.Test.YtoeoodiifpoomaaGreatDoorRows2
set_option linter.unusedSimpArgs false
set_option linter.unusedVariables false
set_option maxRecDepth 20000
namespace Moi
def actParts (k : Nat) (a : MAct) : List MPart := [.u k, .b a.must, .s a.key] ++ ((if hasF k 110 then [.i a.n] else []) ++ ((if hasF k 120 then [.f (fkey a.x)] else []) ++ ((if hasF k 115 then [.s a.s] else []) ++ (if hasF k 109 then recParts a.make else []))))
end Moi
namespace Go.Proofs.YtoeoodiifpoomaaGreatDoor
open Go.RowKit Moi
attribute [local go_sem] toList_str str_size less_ltB store_float
theorem catParts_act (k : Nat) (a : MAct) (hk : a.kind = (k : Int)) : catParts (actParts k a) = wAct a := by
  unfold actParts wAct catParts
  rw [hk, Int.toNat_natCast]
  simp only [List.flatMap_append, List.flatMap_cons, List.flatMap_nil, wPart, List.append_nil, List.append_assoc]
  have e : ∀ (b : Bool) (l : List MPart) (r : List UInt8), l.flatMap wPart = r → (if b then l else []).flatMap wPart = if b then r else [] := by
    intro b l r h; cases b
    · rfl
    · exact h
  rw [e _ _ (wI a.n) (by simp [wPart]), e _ _ (wF a.x) (by simp [wPart, wF]), e _ _ (wS a.s) (by simp [wPart]), e _ _ (wRec a.make) (catParts_rec a.make)]
section
variable {w : World} {base n m c : Nat} {v : Value} {l1 l2 : List MPart} {A : Option Addr}
theorem run_catR (t : TypeId) (hown : w.ownsRow base 132 6 v n (partVals l1)) (hr : RdParts w A m l2) (h0 : 0 < m) (hb : n + m ≤ 1000000) (hbase : base ≤ w.heap.size) :
    ∃ A' c' w', (Builtin.append_ #[97, 97] t #[v, .slice A m c]).run Tryz.prog w = .ok (.slice A' (n + m) c') w' ∧ w'.ownsRow base 132 6 (.slice A' (n + m) c') (n + m) (partVals (l1 ++ l2)) ∧ w.grownBy w' v.ownBlock := by
  obtain ⟨i0, hi, hz0, hz1, hz2⟩ := info_parts Tryz.info132
  have hm := hr.len
  have hl : (partVals l2).length = m * 6 := by rw [partVals_length, hm]
  obtain ⟨b, o, rfl, hblt, hcell⟩ := hr.rows h0
  have hsrc : ∀ j u, (partVals l2)[j]? = some u → w.cell? ((⟨b, o, none⟩ : Addr).add j) = some u := by
    intro j u hu
    have hjl : j < m * 6 := by rw [← hl]; exact (List.getElem?_eq_some_iff.1 hu).1
    have hadd : (⟨b, o, none⟩ : Addr).add j = ⟨b, o + j, none⟩ := by unfold Addr.add; split <;> simp_all
    have e : j = j / 6 * 6 + j % 6 := by omega
    have h1 := hcell (j / 6) (by omega) (j % 6) (by omega)
    have h2 := partVals_get l2 (j / 6) (by omega) (j % 6) (by omega)
    rw [← e] at h2
    rw [hadd, show o + j = o + j / 6 * 6 + j % 6 from by omega, h1, ← h2, hu]
  obtain ⟨v', w', h1, h2, h3, _⟩ := run_append_own w base 97 t 132 i0 (.agg #[.int .u8 0, .int .u64 0, .int .i64 0, .int .u64 0, .string ⟨#[]⟩, .bool false]) 6 56 Tryz.underlying97 hi hz0 hz1 hz2 rfl (by decide) v n (partVals l1) hown ⟨b, o, none⟩ m c (partVals l2) hl hsrc (partVals_one_cell _) (by simp only [maxLen]; omega) (by omega) hbase
  obtain ⟨A', c', rfl, _⟩ := own_form h2
  exact ⟨A', c', w', h1, by rw [partVals_append]; exact h2, h3⟩
variable {ops : Array Oper} {rest : List Oper} {o : Oper} {a : Act} {K : Act → World → Prop} {Q : Exit → Act → World → Prop} {E : Prop}
theorem wp_catR (s x : Operand) (ho : o.op = .call { callee := .builtin .append, args := #[s, x], argTypes := #[97, 97] }) (hs : a.eval s = v) (hx : a.eval x = .slice A m c)
    (hown : w.ownsRow base 132 6 v n (partVals l1)) (hr : RdParts w A m l2) (h0 : 0 < m) (hb : n + m ≤ 1000000) (hbase : base ≤ w.heap.size)
    (h : ∀ A' c' w', w'.ownsRow base 132 6 (.slice A' (n + m) c') (n + m) (partVals (l1 ++ l2)) → w.grownBy w' v.ownBlock → K (a.put o.dst (.slice A' (n + m) c')) w') : o.wp Tryz.prog a w K Q := by
  obtain ⟨A', c', w', h1, h2, h3⟩ := run_catR (c := c) o.type hown hr h0 hb hbase
  unfold Oper.wp execOp
  simp only [ho, resolve, invoke, builtin, Sem.run_bind, Sem.run_pure, Result.andThen_ok, List.map_toArray, List.map_cons, List.map_nil, hs, hx, h1]
  exact h A' c' w' h2 h3
theorem wpList_catR (hgd : o.guard = none) (s x : Operand) (ho : o.op = .call { callee := .builtin .append, args := #[s, x], argTypes := #[97, 97] }) (hs : a.eval s = v) (hx : a.eval x = .slice A m c)
    (hown : w.ownsRow base 132 6 v n (partVals l1)) (hr : RdParts w A m l2) (h0 : 0 < m) (hb : n + m ≤ 1000000) (hbase : base ≤ w.heap.size)
    (h : ∀ A' c' w', w'.ownsRow base 132 6 (.slice A' (n + m) c') (n + m) (partVals (l1 ++ l2)) → w.grownBy w' v.ownBlock → wpList Tryz.prog ops Q rest (a.put o.dst (.slice A' (n + m) c')) w') :
    wpList Tryz.prog ops Q (o :: rest) a w :=
  wpList_plain hgd fun _ hK => wp_catR s x ho hs hx hown hr h0 hb hbase fun A' c' w' h2 h3 => hK _ _ (h A' c' w' h2 h3)
end
/-- What stands while the parts are laid. -/
structure PSt (w0 : World) (cs : Array Value) (A : Option Addr) (n : Nat) (its : List MItem) (wk : World) (v : Value) (nn : Nat) (l : List MPart) : Prop where
  cl : Cln w0 wk
  b : Blk wk w0.heap.size 90 cs
  own : wk.ownsRow (w0.heap.size + 1) 132 6 v nn (partVals l)
  it : RdItems wk A n its
  lo : 0 < n → ∀ ad, A = some ad → ad.block < w0.heap.size
section
variable {w0 : World} {cs : Array Value} {A : Option Addr} {n : Nat} {its : List MItem} {wk w' w5 : World} {v : Value} {nn : Nat} {l l2 : List MPart}
theorem PSt.cln (h : PSt w0 cs A n its wk v nn l) (k : Cln wk w') : PSt w0 cs A n its w' v nn l :=
  ⟨cln_trans h.cl k, h.b.cln k, own_cln h.own k, h.it.cln k, h.lo⟩
theorem PSt.lit (h : PSt w0 cs A n its wk v nn l) (o : Obj) : PSt w0 cs A n its (wk.alloc o) v nn l := h.cln ((Below.refl _ _).alloc (Nat.le_refl _) o)
theorem PSt.grow (h : PSt w0 cs A n its wk v nn l) {A5 : Option Addr} {c5 m : Nat} (hown : w5.ownsRow (w0.heap.size + 1) 132 6 (.slice A5 m c5) m (partVals l2)) (hg : wk.grownBy w5 v.ownBlock) : PSt w0 cs A n its w5 (.slice A5 m c5) m l2 := by
  have hk : Kept (fun j => w0.heap.size + 1 ≤ j) wk w5 := (Kept.refl _ wk).grown hg (fun q hq _ => own_lo h.own q hq)
  refine ⟨?_, h.b.kept hk (by omega), hown, h.it.kept0 hk (fun h0 ad e _ => by have := h.lo h0 ad e; omega), h.lo⟩
  exact ((Kept.of_below (S := fun j => w0.heap.size + 1 ≤ j) h.cl).trans hk).toBelow (Nat.le_refl _) (fun i hi h2 => by omega)
end
set_option maxHeartbeats 8000000 in
theorem aparts_none (a : MAct) (k : Nat) (hk1 : 1 ≤ k ∧ k ≤ 21) (hN : hasF (k : Int) 110 = false) (hX : hasF (k : Int) 120 = false) (hS : hasF (k : Int) 115 = false) (hM : hasF (k : Int) 109 = false) (he : k ≠ 1)
    (hx : a.x < 18446744073709551616) (hmk : True) (hwf : a.make.WF) (A : Option Addr) (n c : Nat) (w : World) (hr : RdItems w A n a.make.list) :
    Calls Tryz.prog 116 #[.agg #[.int .i64 (k : Int), .string (str a.key), .int .i64 a.n, .float .f64 a.x, .string (str a.s), .int .i64 a.make.kind, .int .i64 a.make.num, .int .i64 a.make.low, .int .i64 a.make.high, .float .f64 a.make.real, .int .i64 a.make.cap, .string (str a.make.text), .slice A n c, .bool a.must]] w (NewParts w (actParts k a)) := by
  have f110 : ∀ W, Calls Tryz.prog 106 #[.int .i64 (k : Int), .int .u8 110] W fun e w' => e = .returned (.bool false) ∧ Cln W w' := fun W => hN ▸ rhas_any k 110 W
  have f120 : ∀ W, Calls Tryz.prog 106 #[.int .i64 (k : Int), .int .u8 120] W fun e w' => e = .returned (.bool false) ∧ Cln W w' := fun W => hX ▸ rhas_any k 120 W
  have f115 : ∀ W, Calls Tryz.prog 106 #[.int .i64 (k : Int), .int .u8 115] W fun e w' => e = .returned (.bool false) ∧ Cln W w' := fun W => hS ▸ rhas_any k 115 W
  have t1 : ((k : Int) == 1) = false := by rw [beq_eq_false_iff_ne]; omega
  replace he := Lib.hid he
  have hu : IntKind.u64.wrap (k : Int) = (k : Int) := IntWalk.u64_in _ (by omega)
  have hP : Hid (actParts k a = [.u k, .b a.must, .s a.key]) := by unfold Hid actParts; rw [hN, hX, hS, hM]; simp
  have hcl0 : Cln w (w.alloc (.cells #[.int .i64 (k : Int), .string (str a.key), .int .i64 a.n, .float .f64 a.x, .string (str a.s), .int .i64 a.make.kind, .int .i64 a.make.num, .int .i64 a.make.low, .int .i64 a.make.high, .float .f64 a.make.real, .int .i64 a.make.cap, .string (str a.make.text), .slice A n c, .bool a.must] 90)) := by (repeat (first | (with_reducible exact Below.refl _ _) | (with_reducible assumption) | (with_reducible refine Below.setCell ?_ (by first | omega | (simp; done) | (simp; omega)) _) | (with_reducible refine Below.alloc ?_ (by first | omega | (simp; done) | (simp; omega)) _) | (with_reducible refine Below.drew ?_) | (with_reducible refine below_drewN ?_ _)))
  have hb0 := Blk.new w 90 #[.int .i64 (k : Int), .string (str a.key), .int .i64 a.n, .float .f64 a.x, .string (str a.s), .int .i64 a.make.kind, .int .i64 a.make.num, .int .i64 a.make.low, .int .i64 a.make.high, .float .f64 a.make.real, .int .i64 a.make.cap, .string (str a.make.text), .slice A n c, .bool a.must]
  have u0 := hb0.cell; have l0 := hb0.lt
  have st0 : PSt w #[.int .i64 (k : Int), .string (str a.key), .int .i64 a.n, .float .f64 a.x, .string (str a.s), .int .i64 a.make.kind, .int .i64 a.make.num, .int .i64 a.make.low, .int .i64 a.make.high, .float .f64 a.make.real, .int .i64 a.make.cap, .string (str a.make.text), .slice A n c, .bool a.must] A n a.make.list ((w.alloc (.cells #[.int .i64 (k : Int), .string (str a.key), .int .i64 a.n, .float .f64 a.x, .string (str a.s), .int .i64 a.make.kind, .int .i64 a.make.num, .int .i64 a.make.low, .int .i64 a.make.high, .float .f64 a.make.real, .int .i64 a.make.cap, .string (str a.make.text), .slice A n c, .bool a.must] 90)).alloc (.cells #[.int .u8 117, .int .u64 (k : Nat), .int .i64 0, .int .u64 0, .string ⟨#[]⟩, .bool false, .int .u8 98, .int .u64 0, .int .i64 0, .int .u64 0, .string ⟨#[]⟩, .bool a.must, .int .u8 115, .int .u64 0, .int .i64 0, .int .u64 0, .string (str a.key), .bool false] 132)) (.slice (some ⟨w.heap.size + 1, 0, none⟩) 3 3) 3 [.u k, .b a.must, .s a.key] := by
    refine ⟨by (repeat (first | (with_reducible exact Below.refl _ _) | (with_reducible assumption) | (with_reducible refine Below.setCell ?_ (by first | omega | (simp; done) | (simp; omega)) _) | (with_reducible refine Below.alloc ?_ (by first | omega | (simp; done) | (simp; omega)) _) | (with_reducible refine Below.drew ?_) | (with_reducible refine below_drewN ?_ _))), hb0.alloc _, ?_, hr.cln (by (repeat (first | (with_reducible exact Below.refl _ _) | (with_reducible assumption) | (with_reducible refine Below.setCell ?_ (by first | omega | (simp; done) | (simp; omega)) _) | (with_reducible refine Below.alloc ?_ (by first | omega | (simp; done) | (simp; omega)) _) | (with_reducible refine Below.drew ?_) | (with_reducible refine below_drewN ?_ _)))), fun h0 => hr.lo h0⟩
    have := World.ownsRow_lit (base := w.heap.size + 1) (e := 132) (size := 6) (w.alloc (.cells #[.int .i64 (k : Int), .string (str a.key), .int .i64 a.n, .float .f64 a.x, .string (str a.s), .int .i64 a.make.kind, .int .i64 a.make.num, .int .i64 a.make.low, .int .i64 a.make.high, .float .f64 a.make.real, .int .i64 a.make.cap, .string (str a.make.text), .slice A n c, .bool a.must] 90)) #[.int .u8 117, .int .u64 (k : Nat), .int .i64 0, .int .u64 0, .string ⟨#[]⟩, .bool false, .int .u8 98, .int .u64 0, .int .i64 0, .int .u64 0, .string ⟨#[]⟩, .bool a.must, .int .u8 115, .int .u64 0, .int .i64 0, .int .u64 0, .string (str a.key), .bool false] 3 (by rw [World.size_alloc]; omega) (by decide) rfl
    rw [World.size_alloc] at this
    exact this
  replace st0 := Lib.hid st0
  clear hN hX hS hM hcl0 hr hb0
  go_enter Tryz.func116, Tryz.ntmps116
  go_wp2_with (simp only [hu])
  clear u0 l0
  refine (f110 _).mono ?_; rintro e v0 ⟨rfl, hq⟩
  have st1 := Lib.hid (st0.out.cln hq)
  clear hq st0
  have u1 := st1.out.b.cell; have l1 := st1.out.b.lt
  go_wp2_with fail
  clear u1 l1
  refine (f120 _).mono ?_; rintro e v1 ⟨rfl, hq⟩
  have st2 := Lib.hid (st1.out.cln hq)
  clear hq st1
  have u2 := st2.out.b.cell; have l2 := st2.out.b.lt
  go_wp2_with fail
  clear u2 l2
  refine (f115 _).mono ?_; rintro e v2 ⟨rfl, hq⟩
  have st3 := Lib.hid (st2.out.cln hq)
  clear hq st2
  have u3 := st3.out.b.cell; have l3 := st3.out.b.lt
  go_wp2_with fail
  go_ret
  refine ⟨_, _, _, rfl, ?_, st3.out.cl⟩
  rw [hP.out]
  exact own_parts st3.out.own
set_option maxHeartbeats 8000000 in
theorem aparts_make (a : MAct) (k : Nat) (hk1 : 1 ≤ k ∧ k ≤ 21) (hN : hasF (k : Int) 110 = false) (hX : hasF (k : Int) 120 = false) (hS : hasF (k : Int) 115 = false) (hM : hasF (k : Int) 109 = true) (he : k = 1)
    (hx : a.x < 18446744073709551616) (hmk : checkRec a.make = 0) (hwf : a.make.WF) (A : Option Addr) (n c : Nat) (w : World) (hr : RdItems w A n a.make.list) :
    Calls Tryz.prog 116 #[.agg #[.int .i64 (k : Int), .string (str a.key), .int .i64 a.n, .float .f64 a.x, .string (str a.s), .int .i64 a.make.kind, .int .i64 a.make.num, .int .i64 a.make.low, .int .i64 a.make.high, .float .f64 a.make.real, .int .i64 a.make.cap, .string (str a.make.text), .slice A n c, .bool a.must]] w (NewParts w (actParts k a)) := by
  have f110 : ∀ W, Calls Tryz.prog 106 #[.int .i64 (k : Int), .int .u8 110] W fun e w' => e = .returned (.bool false) ∧ Cln W w' := fun W => hN ▸ rhas_any k 110 W
  have f120 : ∀ W, Calls Tryz.prog 106 #[.int .i64 (k : Int), .int .u8 120] W fun e w' => e = .returned (.bool false) ∧ Cln W w' := fun W => hX ▸ rhas_any k 120 W
  have f115 : ∀ W, Calls Tryz.prog 106 #[.int .i64 (k : Int), .int .u8 115] W fun e w' => e = .returned (.bool false) ∧ Cln W w' := fun W => hS ▸ rhas_any k 115 W
  have t1 : ((k : Int) == 1) = true := by rw [beq_iff_eq]; omega
  replace he := Lib.hid he
  have hu : IntKind.u64.wrap (k : Int) = (k : Int) := IntWalk.u64_in _ (by omega)
  have hP : Hid (actParts k a = [.u k, .b a.must, .s a.key] ++ recParts a.make) := by unfold Hid actParts; rw [hN, hX, hS, hM]; simp
  have hcl0 : Cln w (w.alloc (.cells #[.int .i64 (k : Int), .string (str a.key), .int .i64 a.n, .float .f64 a.x, .string (str a.s), .int .i64 a.make.kind, .int .i64 a.make.num, .int .i64 a.make.low, .int .i64 a.make.high, .float .f64 a.make.real, .int .i64 a.make.cap, .string (str a.make.text), .slice A n c, .bool a.must] 90)) := by (repeat (first | (with_reducible exact Below.refl _ _) | (with_reducible assumption) | (with_reducible refine Below.setCell ?_ (by first | omega | (simp; done) | (simp; omega)) _) | (with_reducible refine Below.alloc ?_ (by first | omega | (simp; done) | (simp; omega)) _) | (with_reducible refine Below.drew ?_) | (with_reducible refine below_drewN ?_ _)))
  have hb0 := Blk.new w 90 #[.int .i64 (k : Int), .string (str a.key), .int .i64 a.n, .float .f64 a.x, .string (str a.s), .int .i64 a.make.kind, .int .i64 a.make.num, .int .i64 a.make.low, .int .i64 a.make.high, .float .f64 a.make.real, .int .i64 a.make.cap, .string (str a.make.text), .slice A n c, .bool a.must]
  have u0 := hb0.cell; have l0 := hb0.lt
  have st0 : PSt w #[.int .i64 (k : Int), .string (str a.key), .int .i64 a.n, .float .f64 a.x, .string (str a.s), .int .i64 a.make.kind, .int .i64 a.make.num, .int .i64 a.make.low, .int .i64 a.make.high, .float .f64 a.make.real, .int .i64 a.make.cap, .string (str a.make.text), .slice A n c, .bool a.must] A n a.make.list ((w.alloc (.cells #[.int .i64 (k : Int), .string (str a.key), .int .i64 a.n, .float .f64 a.x, .string (str a.s), .int .i64 a.make.kind, .int .i64 a.make.num, .int .i64 a.make.low, .int .i64 a.make.high, .float .f64 a.make.real, .int .i64 a.make.cap, .string (str a.make.text), .slice A n c, .bool a.must] 90)).alloc (.cells #[.int .u8 117, .int .u64 (k : Nat), .int .i64 0, .int .u64 0, .string ⟨#[]⟩, .bool false, .int .u8 98, .int .u64 0, .int .i64 0, .int .u64 0, .string ⟨#[]⟩, .bool a.must, .int .u8 115, .int .u64 0, .int .i64 0, .int .u64 0, .string (str a.key), .bool false] 132)) (.slice (some ⟨w.heap.size + 1, 0, none⟩) 3 3) 3 [.u k, .b a.must, .s a.key] := by
    refine ⟨by (repeat (first | (with_reducible exact Below.refl _ _) | (with_reducible assumption) | (with_reducible refine Below.setCell ?_ (by first | omega | (simp; done) | (simp; omega)) _) | (with_reducible refine Below.alloc ?_ (by first | omega | (simp; done) | (simp; omega)) _) | (with_reducible refine Below.drew ?_) | (with_reducible refine below_drewN ?_ _))), hb0.alloc _, ?_, hr.cln (by (repeat (first | (with_reducible exact Below.refl _ _) | (with_reducible assumption) | (with_reducible refine Below.setCell ?_ (by first | omega | (simp; done) | (simp; omega)) _) | (with_reducible refine Below.alloc ?_ (by first | omega | (simp; done) | (simp; omega)) _) | (with_reducible refine Below.drew ?_) | (with_reducible refine below_drewN ?_ _)))), fun h0 => hr.lo h0⟩
    have := World.ownsRow_lit (base := w.heap.size + 1) (e := 132) (size := 6) (w.alloc (.cells #[.int .i64 (k : Int), .string (str a.key), .int .i64 a.n, .float .f64 a.x, .string (str a.s), .int .i64 a.make.kind, .int .i64 a.make.num, .int .i64 a.make.low, .int .i64 a.make.high, .float .f64 a.make.real, .int .i64 a.make.cap, .string (str a.make.text), .slice A n c, .bool a.must] 90)) #[.int .u8 117, .int .u64 (k : Nat), .int .i64 0, .int .u64 0, .string ⟨#[]⟩, .bool false, .int .u8 98, .int .u64 0, .int .i64 0, .int .u64 0, .string ⟨#[]⟩, .bool a.must, .int .u8 115, .int .u64 0, .int .i64 0, .int .u64 0, .string (str a.key), .bool false] 3 (by rw [World.size_alloc]; omega) (by decide) rfl
    rw [World.size_alloc] at this
    exact this
  replace st0 := Lib.hid st0
  clear hN hX hS hM hcl0 hr hb0
  go_enter Tryz.func116, Tryz.ntmps116
  go_wp2_with (simp only [hu])
  clear u0 l0
  refine (f110 _).mono ?_; rintro e v0 ⟨rfl, hq⟩
  have st1 := Lib.hid (st0.out.cln hq)
  clear hq st0
  have u1 := st1.out.b.cell; have l1 := st1.out.b.lt
  go_wp2_with fail
  clear u1 l1
  refine (f120 _).mono ?_; rintro e v1 ⟨rfl, hq⟩
  have st2 := Lib.hid (st1.out.cln hq)
  clear hq st1
  have u2 := st2.out.b.cell; have l2 := st2.out.b.lt
  go_wp2_with fail
  clear u2 l2
  refine (f115 _).mono ?_; rintro e v2 ⟨rfl, hq⟩
  have st3 := Lib.hid (st2.out.cln hq)
  clear hq st2
  have u3 := st3.out.b.cell; have l3 := st3.out.b.lt
  go_wp2_with fail
  have cP := parts_any a.make hmk hwf A n c _ st3.out.it
  unfold recVal at cP
  refine cP.mono ?_; rintro e w8 ⟨A8, c8, n8, rfl, hrd, hq⟩
  clear cP
  have st4 := Lib.hid (st3.out.cln hq)
  have hl8 := hrd.len
  have hl9 := recParts_len hmk
  have hl7 : 0 < (recParts a.make).length := by unfold recParts; simp
  clear hq u3 l3 st3
  have u4 := st4.out.b.cell; have l4 := st4.out.b.lt
  go_wp2_with (
    at_builtin
    refine wpList_catR (l1 := [.u k, .b a.must, .s a.key]) (l2 := recParts a.make) rfl _ _ rfl rfl rfl st4.out.own hrd (by omega) (by omega) (by have := l4; omega) ?_
    intro A4 c4 w4 hown hg
    have st5 := Lib.hid (st4.out.grow hown hg)
    clear hown hg u4 l4 st4)
  go_ret
  refine ⟨_, _, _, rfl, ?_, st5.out.cl⟩
  rw [hP.out]
  exact own_parts st5.out.own
set_option maxHeartbeats 8000000 in
theorem aparts_text (a : MAct) (k : Nat) (hk1 : 1 ≤ k ∧ k ≤ 21) (hN : hasF (k : Int) 110 = false) (hX : hasF (k : Int) 120 = false) (hS : hasF (k : Int) 115 = true) (hM : hasF (k : Int) 109 = false) (he : k ≠ 1)
    (hx : a.x < 18446744073709551616) (hmk : True) (hwf : a.make.WF) (A : Option Addr) (n c : Nat) (w : World) (hr : RdItems w A n a.make.list) :
    Calls Tryz.prog 116 #[.agg #[.int .i64 (k : Int), .string (str a.key), .int .i64 a.n, .float .f64 a.x, .string (str a.s), .int .i64 a.make.kind, .int .i64 a.make.num, .int .i64 a.make.low, .int .i64 a.make.high, .float .f64 a.make.real, .int .i64 a.make.cap, .string (str a.make.text), .slice A n c, .bool a.must]] w (NewParts w (actParts k a)) := by
  have f110 : ∀ W, Calls Tryz.prog 106 #[.int .i64 (k : Int), .int .u8 110] W fun e w' => e = .returned (.bool false) ∧ Cln W w' := fun W => hN ▸ rhas_any k 110 W
  have f120 : ∀ W, Calls Tryz.prog 106 #[.int .i64 (k : Int), .int .u8 120] W fun e w' => e = .returned (.bool false) ∧ Cln W w' := fun W => hX ▸ rhas_any k 120 W
  have f115 : ∀ W, Calls Tryz.prog 106 #[.int .i64 (k : Int), .int .u8 115] W fun e w' => e = .returned (.bool true) ∧ Cln W w' := fun W => hS ▸ rhas_any k 115 W
  have t1 : ((k : Int) == 1) = false := by rw [beq_eq_false_iff_ne]; omega
  replace he := Lib.hid he
  have hu : IntKind.u64.wrap (k : Int) = (k : Int) := IntWalk.u64_in _ (by omega)
  have hP : Hid (actParts k a = [.u k, .b a.must, .s a.key] ++ [.s a.s]) := by unfold Hid actParts; rw [hN, hX, hS, hM]; simp
  have hcl0 : Cln w (w.alloc (.cells #[.int .i64 (k : Int), .string (str a.key), .int .i64 a.n, .float .f64 a.x, .string (str a.s), .int .i64 a.make.kind, .int .i64 a.make.num, .int .i64 a.make.low, .int .i64 a.make.high, .float .f64 a.make.real, .int .i64 a.make.cap, .string (str a.make.text), .slice A n c, .bool a.must] 90)) := by (repeat (first | (with_reducible exact Below.refl _ _) | (with_reducible assumption) | (with_reducible refine Below.setCell ?_ (by first | omega | (simp; done) | (simp; omega)) _) | (with_reducible refine Below.alloc ?_ (by first | omega | (simp; done) | (simp; omega)) _) | (with_reducible refine Below.drew ?_) | (with_reducible refine below_drewN ?_ _)))
  have hb0 := Blk.new w 90 #[.int .i64 (k : Int), .string (str a.key), .int .i64 a.n, .float .f64 a.x, .string (str a.s), .int .i64 a.make.kind, .int .i64 a.make.num, .int .i64 a.make.low, .int .i64 a.make.high, .float .f64 a.make.real, .int .i64 a.make.cap, .string (str a.make.text), .slice A n c, .bool a.must]
  have u0 := hb0.cell; have l0 := hb0.lt
  have st0 : PSt w #[.int .i64 (k : Int), .string (str a.key), .int .i64 a.n, .float .f64 a.x, .string (str a.s), .int .i64 a.make.kind, .int .i64 a.make.num, .int .i64 a.make.low, .int .i64 a.make.high, .float .f64 a.make.real, .int .i64 a.make.cap, .string (str a.make.text), .slice A n c, .bool a.must] A n a.make.list ((w.alloc (.cells #[.int .i64 (k : Int), .string (str a.key), .int .i64 a.n, .float .f64 a.x, .string (str a.s), .int .i64 a.make.kind, .int .i64 a.make.num, .int .i64 a.make.low, .int .i64 a.make.high, .float .f64 a.make.real, .int .i64 a.make.cap, .string (str a.make.text), .slice A n c, .bool a.must] 90)).alloc (.cells #[.int .u8 117, .int .u64 (k : Nat), .int .i64 0, .int .u64 0, .string ⟨#[]⟩, .bool false, .int .u8 98, .int .u64 0, .int .i64 0, .int .u64 0, .string ⟨#[]⟩, .bool a.must, .int .u8 115, .int .u64 0, .int .i64 0, .int .u64 0, .string (str a.key), .bool false] 132)) (.slice (some ⟨w.heap.size + 1, 0, none⟩) 3 3) 3 [.u k, .b a.must, .s a.key] := by
    refine ⟨by (repeat (first | (with_reducible exact Below.refl _ _) | (with_reducible assumption) | (with_reducible refine Below.setCell ?_ (by first | omega | (simp; done) | (simp; omega)) _) | (with_reducible refine Below.alloc ?_ (by first | omega | (simp; done) | (simp; omega)) _) | (with_reducible refine Below.drew ?_) | (with_reducible refine below_drewN ?_ _))), hb0.alloc _, ?_, hr.cln (by (repeat (first | (with_reducible exact Below.refl _ _) | (with_reducible assumption) | (with_reducible refine Below.setCell ?_ (by first | omega | (simp; done) | (simp; omega)) _) | (with_reducible refine Below.alloc ?_ (by first | omega | (simp; done) | (simp; omega)) _) | (with_reducible refine Below.drew ?_) | (with_reducible refine below_drewN ?_ _)))), fun h0 => hr.lo h0⟩
    have := World.ownsRow_lit (base := w.heap.size + 1) (e := 132) (size := 6) (w.alloc (.cells #[.int .i64 (k : Int), .string (str a.key), .int .i64 a.n, .float .f64 a.x, .string (str a.s), .int .i64 a.make.kind, .int .i64 a.make.num, .int .i64 a.make.low, .int .i64 a.make.high, .float .f64 a.make.real, .int .i64 a.make.cap, .string (str a.make.text), .slice A n c, .bool a.must] 90)) #[.int .u8 117, .int .u64 (k : Nat), .int .i64 0, .int .u64 0, .string ⟨#[]⟩, .bool false, .int .u8 98, .int .u64 0, .int .i64 0, .int .u64 0, .string ⟨#[]⟩, .bool a.must, .int .u8 115, .int .u64 0, .int .i64 0, .int .u64 0, .string (str a.key), .bool false] 3 (by rw [World.size_alloc]; omega) (by decide) rfl
    rw [World.size_alloc] at this
    exact this
  replace st0 := Lib.hid st0
  clear hN hX hS hM hcl0 hr hb0
  go_enter Tryz.func116, Tryz.ntmps116
  go_wp2_with (simp only [hu])
  clear u0 l0
  refine (f110 _).mono ?_; rintro e v0 ⟨rfl, hq⟩
  have st1 := Lib.hid (st0.out.cln hq)
  clear hq st0
  have u1 := st1.out.b.cell; have l1 := st1.out.b.lt
  go_wp2_with fail
  clear u1 l1
  refine (f120 _).mono ?_; rintro e v1 ⟨rfl, hq⟩
  have st2 := Lib.hid (st1.out.cln hq)
  clear hq st1
  have u2 := st2.out.b.cell; have l2 := st2.out.b.lt
  go_wp2_with fail
  clear u2 l2
  refine (f115 _).mono ?_; rintro e v2 ⟨rfl, hq⟩
  have st3 := Lib.hid (st2.out.cln hq)
  clear hq st2
  have u3 := st3.out.b.cell; have l3 := st3.out.b.lt
  go_wp2_with (
    at_builtin
    refine wpList_catP (l1 := [.u k, .b a.must, .s a.key]) (l2 := [.s a.s]) rfl _ _ rfl rfl rfl (st3.out.lit _).own (Blk.new _ _ _) rfl rfl (by decide) (by have := l3; simp only [World.size_alloc]; omega) ?_
    intro A3 c3 w3 hown hg
    have st4 := Lib.hid ((st3.out.lit _).grow hown hg)
    clear hown hg u3 l3 st3
    have u4 := st4.out.b.cell; have l4 := st4.out.b.lt)
  (try go_wp2_with fail)
  go_ret
  refine ⟨_, _, _, rfl, ?_, st4.out.cl⟩
  rw [hP.out]
  exact own_parts st4.out.own
set_option maxHeartbeats 8000000 in
theorem aparts_num (a : MAct) (k : Nat) (hk1 : 1 ≤ k ∧ k ≤ 21) (hN : hasF (k : Int) 110 = true) (hX : hasF (k : Int) 120 = false) (hS : hasF (k : Int) 115 = false) (hM : hasF (k : Int) 109 = false) (he : k ≠ 1)
    (hx : a.x < 18446744073709551616) (hmk : True) (hwf : a.make.WF) (A : Option Addr) (n c : Nat) (w : World) (hr : RdItems w A n a.make.list) :
    Calls Tryz.prog 116 #[.agg #[.int .i64 (k : Int), .string (str a.key), .int .i64 a.n, .float .f64 a.x, .string (str a.s), .int .i64 a.make.kind, .int .i64 a.make.num, .int .i64 a.make.low, .int .i64 a.make.high, .float .f64 a.make.real, .int .i64 a.make.cap, .string (str a.make.text), .slice A n c, .bool a.must]] w (NewParts w (actParts k a)) := by
  have f110 : ∀ W, Calls Tryz.prog 106 #[.int .i64 (k : Int), .int .u8 110] W fun e w' => e = .returned (.bool true) ∧ Cln W w' := fun W => hN ▸ rhas_any k 110 W
  have f120 : ∀ W, Calls Tryz.prog 106 #[.int .i64 (k : Int), .int .u8 120] W fun e w' => e = .returned (.bool false) ∧ Cln W w' := fun W => hX ▸ rhas_any k 120 W
  have f115 : ∀ W, Calls Tryz.prog 106 #[.int .i64 (k : Int), .int .u8 115] W fun e w' => e = .returned (.bool false) ∧ Cln W w' := fun W => hS ▸ rhas_any k 115 W
  have t1 : ((k : Int) == 1) = false := by rw [beq_eq_false_iff_ne]; omega
  replace he := Lib.hid he
  have hu : IntKind.u64.wrap (k : Int) = (k : Int) := IntWalk.u64_in _ (by omega)
  have hP : Hid (actParts k a = [.u k, .b a.must, .s a.key] ++ [.i a.n]) := by unfold Hid actParts; rw [hN, hX, hS, hM]; simp
  have hcl0 : Cln w (w.alloc (.cells #[.int .i64 (k : Int), .string (str a.key), .int .i64 a.n, .float .f64 a.x, .string (str a.s), .int .i64 a.make.kind, .int .i64 a.make.num, .int .i64 a.make.low, .int .i64 a.make.high, .float .f64 a.make.real, .int .i64 a.make.cap, .string (str a.make.text), .slice A n c, .bool a.must] 90)) := by (repeat (first | (with_reducible exact Below.refl _ _) | (with_reducible assumption) | (with_reducible refine Below.setCell ?_ (by first | omega | (simp; done) | (simp; omega)) _) | (with_reducible refine Below.alloc ?_ (by first | omega | (simp; done) | (simp; omega)) _) | (with_reducible refine Below.drew ?_) | (with_reducible refine below_drewN ?_ _)))
  have hb0 := Blk.new w 90 #[.int .i64 (k : Int), .string (str a.key), .int .i64 a.n, .float .f64 a.x, .string (str a.s), .int .i64 a.make.kind, .int .i64 a.make.num, .int .i64 a.make.low, .int .i64 a.make.high, .float .f64 a.make.real, .int .i64 a.make.cap, .string (str a.make.text), .slice A n c, .bool a.must]
  have u0 := hb0.cell; have l0 := hb0.lt
  have st0 : PSt w #[.int .i64 (k : Int), .string (str a.key), .int .i64 a.n, .float .f64 a.x, .string (str a.s), .int .i64 a.make.kind, .int .i64 a.make.num, .int .i64 a.make.low, .int .i64 a.make.high, .float .f64 a.make.real, .int .i64 a.make.cap, .string (str a.make.text), .slice A n c, .bool a.must] A n a.make.list ((w.alloc (.cells #[.int .i64 (k : Int), .string (str a.key), .int .i64 a.n, .float .f64 a.x, .string (str a.s), .int .i64 a.make.kind, .int .i64 a.make.num, .int .i64 a.make.low, .int .i64 a.make.high, .float .f64 a.make.real, .int .i64 a.make.cap, .string (str a.make.text), .slice A n c, .bool a.must] 90)).alloc (.cells #[.int .u8 117, .int .u64 (k : Nat), .int .i64 0, .int .u64 0, .string ⟨#[]⟩, .bool false, .int .u8 98, .int .u64 0, .int .i64 0, .int .u64 0, .string ⟨#[]⟩, .bool a.must, .int .u8 115, .int .u64 0, .int .i64 0, .int .u64 0, .string (str a.key), .bool false] 132)) (.slice (some ⟨w.heap.size + 1, 0, none⟩) 3 3) 3 [.u k, .b a.must, .s a.key] := by
    refine ⟨by (repeat (first | (with_reducible exact Below.refl _ _) | (with_reducible assumption) | (with_reducible refine Below.setCell ?_ (by first | omega | (simp; done) | (simp; omega)) _) | (with_reducible refine Below.alloc ?_ (by first | omega | (simp; done) | (simp; omega)) _) | (with_reducible refine Below.drew ?_) | (with_reducible refine below_drewN ?_ _))), hb0.alloc _, ?_, hr.cln (by (repeat (first | (with_reducible exact Below.refl _ _) | (with_reducible assumption) | (with_reducible refine Below.setCell ?_ (by first | omega | (simp; done) | (simp; omega)) _) | (with_reducible refine Below.alloc ?_ (by first | omega | (simp; done) | (simp; omega)) _) | (with_reducible refine Below.drew ?_) | (with_reducible refine below_drewN ?_ _)))), fun h0 => hr.lo h0⟩
    have := World.ownsRow_lit (base := w.heap.size + 1) (e := 132) (size := 6) (w.alloc (.cells #[.int .i64 (k : Int), .string (str a.key), .int .i64 a.n, .float .f64 a.x, .string (str a.s), .int .i64 a.make.kind, .int .i64 a.make.num, .int .i64 a.make.low, .int .i64 a.make.high, .float .f64 a.make.real, .int .i64 a.make.cap, .string (str a.make.text), .slice A n c, .bool a.must] 90)) #[.int .u8 117, .int .u64 (k : Nat), .int .i64 0, .int .u64 0, .string ⟨#[]⟩, .bool false, .int .u8 98, .int .u64 0, .int .i64 0, .int .u64 0, .string ⟨#[]⟩, .bool a.must, .int .u8 115, .int .u64 0, .int .i64 0, .int .u64 0, .string (str a.key), .bool false] 3 (by rw [World.size_alloc]; omega) (by decide) rfl
    rw [World.size_alloc] at this
    exact this
  replace st0 := Lib.hid st0
  clear hN hX hS hM hcl0 hr hb0
  go_enter Tryz.func116, Tryz.ntmps116
  go_wp2_with (simp only [hu])
  clear u0 l0
  refine (f110 _).mono ?_; rintro e v0 ⟨rfl, hq⟩
  have st1 := Lib.hid (st0.out.cln hq)
  clear hq st0
  have u1 := st1.out.b.cell; have l1 := st1.out.b.lt
  go_wp2_with (
    at_builtin
    refine wpList_catP (l1 := [.u k, .b a.must, .s a.key]) (l2 := [.i a.n]) rfl _ _ rfl rfl rfl (st1.out.lit _).own (Blk.new _ _ _) rfl rfl (by decide) (by have := l1; simp only [World.size_alloc]; omega) ?_
    intro A1 c1 w1 hown hg
    have st2 := Lib.hid ((st1.out.lit _).grow hown hg)
    clear hown hg u1 l1 st1
    have u2 := st2.out.b.cell; have l2 := st2.out.b.lt)
  clear u2 l2
  refine (f120 _).mono ?_; rintro e v2 ⟨rfl, hq⟩
  have st3 := Lib.hid (st2.out.cln hq)
  clear hq st2
  have u3 := st3.out.b.cell; have l3 := st3.out.b.lt
  go_wp2_with fail
  clear u3 l3
  refine (f115 _).mono ?_; rintro e v3 ⟨rfl, hq⟩
  have st4 := Lib.hid (st3.out.cln hq)
  clear hq st3
  have u4 := st4.out.b.cell; have l4 := st4.out.b.lt
  go_wp2_with fail
  go_ret
  refine ⟨_, _, _, rfl, ?_, st4.out.cl⟩
  rw [hP.out]
  exact own_parts st4.out.own
set_option maxHeartbeats 8000000 in
theorem aparts_real (a : MAct) (k : Nat) (hk1 : 1 ≤ k ∧ k ≤ 21) (hN : hasF (k : Int) 110 = false) (hX : hasF (k : Int) 120 = true) (hS : hasF (k : Int) 115 = false) (hM : hasF (k : Int) 109 = false) (he : k ≠ 1)
    (hx : a.x < 18446744073709551616) (hmk : True) (hwf : a.make.WF) (A : Option Addr) (n c : Nat) (w : World) (hr : RdItems w A n a.make.list) :
    Calls Tryz.prog 116 #[.agg #[.int .i64 (k : Int), .string (str a.key), .int .i64 a.n, .float .f64 a.x, .string (str a.s), .int .i64 a.make.kind, .int .i64 a.make.num, .int .i64 a.make.low, .int .i64 a.make.high, .float .f64 a.make.real, .int .i64 a.make.cap, .string (str a.make.text), .slice A n c, .bool a.must]] w (NewParts w (actParts k a)) := by
  have f110 : ∀ W, Calls Tryz.prog 106 #[.int .i64 (k : Int), .int .u8 110] W fun e w' => e = .returned (.bool false) ∧ Cln W w' := fun W => hN ▸ rhas_any k 110 W
  have f120 : ∀ W, Calls Tryz.prog 106 #[.int .i64 (k : Int), .int .u8 120] W fun e w' => e = .returned (.bool true) ∧ Cln W w' := fun W => hX ▸ rhas_any k 120 W
  have f115 : ∀ W, Calls Tryz.prog 106 #[.int .i64 (k : Int), .int .u8 115] W fun e w' => e = .returned (.bool false) ∧ Cln W w' := fun W => hS ▸ rhas_any k 115 W
  have t1 : ((k : Int) == 1) = false := by rw [beq_eq_false_iff_ne]; omega
  replace he := Lib.hid he
  have hu : IntKind.u64.wrap (k : Int) = (k : Int) := IntWalk.u64_in _ (by omega)
  have hP : Hid (actParts k a = [.u k, .b a.must, .s a.key] ++ [.f (fkey a.x)]) := by unfold Hid actParts; rw [hN, hX, hS, hM]; simp
  have hcl0 : Cln w (w.alloc (.cells #[.int .i64 (k : Int), .string (str a.key), .int .i64 a.n, .float .f64 a.x, .string (str a.s), .int .i64 a.make.kind, .int .i64 a.make.num, .int .i64 a.make.low, .int .i64 a.make.high, .float .f64 a.make.real, .int .i64 a.make.cap, .string (str a.make.text), .slice A n c, .bool a.must] 90)) := by (repeat (first | (with_reducible exact Below.refl _ _) | (with_reducible assumption) | (with_reducible refine Below.setCell ?_ (by first | omega | (simp; done) | (simp; omega)) _) | (with_reducible refine Below.alloc ?_ (by first | omega | (simp; done) | (simp; omega)) _) | (with_reducible refine Below.drew ?_) | (with_reducible refine below_drewN ?_ _)))
  have hb0 := Blk.new w 90 #[.int .i64 (k : Int), .string (str a.key), .int .i64 a.n, .float .f64 a.x, .string (str a.s), .int .i64 a.make.kind, .int .i64 a.make.num, .int .i64 a.make.low, .int .i64 a.make.high, .float .f64 a.make.real, .int .i64 a.make.cap, .string (str a.make.text), .slice A n c, .bool a.must]
  have u0 := hb0.cell; have l0 := hb0.lt
  have st0 : PSt w #[.int .i64 (k : Int), .string (str a.key), .int .i64 a.n, .float .f64 a.x, .string (str a.s), .int .i64 a.make.kind, .int .i64 a.make.num, .int .i64 a.make.low, .int .i64 a.make.high, .float .f64 a.make.real, .int .i64 a.make.cap, .string (str a.make.text), .slice A n c, .bool a.must] A n a.make.list ((w.alloc (.cells #[.int .i64 (k : Int), .string (str a.key), .int .i64 a.n, .float .f64 a.x, .string (str a.s), .int .i64 a.make.kind, .int .i64 a.make.num, .int .i64 a.make.low, .int .i64 a.make.high, .float .f64 a.make.real, .int .i64 a.make.cap, .string (str a.make.text), .slice A n c, .bool a.must] 90)).alloc (.cells #[.int .u8 117, .int .u64 (k : Nat), .int .i64 0, .int .u64 0, .string ⟨#[]⟩, .bool false, .int .u8 98, .int .u64 0, .int .i64 0, .int .u64 0, .string ⟨#[]⟩, .bool a.must, .int .u8 115, .int .u64 0, .int .i64 0, .int .u64 0, .string (str a.key), .bool false] 132)) (.slice (some ⟨w.heap.size + 1, 0, none⟩) 3 3) 3 [.u k, .b a.must, .s a.key] := by
    refine ⟨by (repeat (first | (with_reducible exact Below.refl _ _) | (with_reducible assumption) | (with_reducible refine Below.setCell ?_ (by first | omega | (simp; done) | (simp; omega)) _) | (with_reducible refine Below.alloc ?_ (by first | omega | (simp; done) | (simp; omega)) _) | (with_reducible refine Below.drew ?_) | (with_reducible refine below_drewN ?_ _))), hb0.alloc _, ?_, hr.cln (by (repeat (first | (with_reducible exact Below.refl _ _) | (with_reducible assumption) | (with_reducible refine Below.setCell ?_ (by first | omega | (simp; done) | (simp; omega)) _) | (with_reducible refine Below.alloc ?_ (by first | omega | (simp; done) | (simp; omega)) _) | (with_reducible refine Below.drew ?_) | (with_reducible refine below_drewN ?_ _)))), fun h0 => hr.lo h0⟩
    have := World.ownsRow_lit (base := w.heap.size + 1) (e := 132) (size := 6) (w.alloc (.cells #[.int .i64 (k : Int), .string (str a.key), .int .i64 a.n, .float .f64 a.x, .string (str a.s), .int .i64 a.make.kind, .int .i64 a.make.num, .int .i64 a.make.low, .int .i64 a.make.high, .float .f64 a.make.real, .int .i64 a.make.cap, .string (str a.make.text), .slice A n c, .bool a.must] 90)) #[.int .u8 117, .int .u64 (k : Nat), .int .i64 0, .int .u64 0, .string ⟨#[]⟩, .bool false, .int .u8 98, .int .u64 0, .int .i64 0, .int .u64 0, .string ⟨#[]⟩, .bool a.must, .int .u8 115, .int .u64 0, .int .i64 0, .int .u64 0, .string (str a.key), .bool false] 3 (by rw [World.size_alloc]; omega) (by decide) rfl
    rw [World.size_alloc] at this
    exact this
  replace st0 := Lib.hid st0
  clear hN hX hS hM hcl0 hr hb0
  go_enter Tryz.func116, Tryz.ntmps116
  go_wp2_with (simp only [hu])
  clear u0 l0
  refine (f110 _).mono ?_; rintro e v0 ⟨rfl, hq⟩
  have st1 := Lib.hid (st0.out.cln hq)
  clear hq st0
  have u1 := st1.out.b.cell; have l1 := st1.out.b.lt
  go_wp2_with fail
  clear u1 l1
  refine (f120 _).mono ?_; rintro e v1 ⟨rfl, hq⟩
  have st2 := Lib.hid (st1.out.cln hq)
  clear hq st1
  have u2 := st2.out.b.cell; have l2 := st2.out.b.lt
  go_wp2_with fail
  refine (place_any _ hx _).mono ?_; rintro e w' ⟨rfl, rfl⟩
  go_wp2_with (
    at_builtin
    refine wpList_catP (l1 := [.u k, .b a.must, .s a.key]) (l2 := [.f (fkey a.x)]) rfl _ _ rfl rfl rfl (st2.out.lit _).own (Blk.new _ _ _) rfl rfl (by decide) (by have := l2; simp only [World.size_alloc]; omega) ?_
    intro A2 c2 w2 hown hg
    have st3 := Lib.hid ((st2.out.lit _).grow hown hg)
    clear hown hg u2 l2 st2
    have u3 := st3.out.b.cell; have l3 := st3.out.b.lt)
  clear u3 l3
  refine (f115 _).mono ?_; rintro e v3 ⟨rfl, hq⟩
  have st4 := Lib.hid (st3.out.cln hq)
  clear hq st3
  have u4 := st4.out.b.cell; have l4 := st4.out.b.lt
  go_wp2_with fail
  go_ret
  refine ⟨_, _, _, rfl, ?_, st4.out.cl⟩
  rw [hP.out]
  exact own_parts st4.out.own
set_option maxHeartbeats 8000000 in
theorem aparts_offer (a : MAct) (k : Nat) (hk1 : 1 ≤ k ∧ k ≤ 21) (hN : hasF (k : Int) 110 = false) (hX : hasF (k : Int) 120 = true) (hS : hasF (k : Int) 115 = true) (hM : hasF (k : Int) 109 = false) (he : k ≠ 1)
    (hx : a.x < 18446744073709551616) (hmk : True) (hwf : a.make.WF) (A : Option Addr) (n c : Nat) (w : World) (hr : RdItems w A n a.make.list) :
    Calls Tryz.prog 116 #[.agg #[.int .i64 (k : Int), .string (str a.key), .int .i64 a.n, .float .f64 a.x, .string (str a.s), .int .i64 a.make.kind, .int .i64 a.make.num, .int .i64 a.make.low, .int .i64 a.make.high, .float .f64 a.make.real, .int .i64 a.make.cap, .string (str a.make.text), .slice A n c, .bool a.must]] w (NewParts w (actParts k a)) := by
  have f110 : ∀ W, Calls Tryz.prog 106 #[.int .i64 (k : Int), .int .u8 110] W fun e w' => e = .returned (.bool false) ∧ Cln W w' := fun W => hN ▸ rhas_any k 110 W
  have f120 : ∀ W, Calls Tryz.prog 106 #[.int .i64 (k : Int), .int .u8 120] W fun e w' => e = .returned (.bool true) ∧ Cln W w' := fun W => hX ▸ rhas_any k 120 W
  have f115 : ∀ W, Calls Tryz.prog 106 #[.int .i64 (k : Int), .int .u8 115] W fun e w' => e = .returned (.bool true) ∧ Cln W w' := fun W => hS ▸ rhas_any k 115 W
  have t1 : ((k : Int) == 1) = false := by rw [beq_eq_false_iff_ne]; omega
  replace he := Lib.hid he
  have hu : IntKind.u64.wrap (k : Int) = (k : Int) := IntWalk.u64_in _ (by omega)
  have hP : Hid (actParts k a = [.u k, .b a.must, .s a.key] ++ [.f (fkey a.x)] ++ [.s a.s]) := by unfold Hid actParts; rw [hN, hX, hS, hM]; simp
  have hcl0 : Cln w (w.alloc (.cells #[.int .i64 (k : Int), .string (str a.key), .int .i64 a.n, .float .f64 a.x, .string (str a.s), .int .i64 a.make.kind, .int .i64 a.make.num, .int .i64 a.make.low, .int .i64 a.make.high, .float .f64 a.make.real, .int .i64 a.make.cap, .string (str a.make.text), .slice A n c, .bool a.must] 90)) := by (repeat (first | (with_reducible exact Below.refl _ _) | (with_reducible assumption) | (with_reducible refine Below.setCell ?_ (by first | omega | (simp; done) | (simp; omega)) _) | (with_reducible refine Below.alloc ?_ (by first | omega | (simp; done) | (simp; omega)) _) | (with_reducible refine Below.drew ?_) | (with_reducible refine below_drewN ?_ _)))
  have hb0 := Blk.new w 90 #[.int .i64 (k : Int), .string (str a.key), .int .i64 a.n, .float .f64 a.x, .string (str a.s), .int .i64 a.make.kind, .int .i64 a.make.num, .int .i64 a.make.low, .int .i64 a.make.high, .float .f64 a.make.real, .int .i64 a.make.cap, .string (str a.make.text), .slice A n c, .bool a.must]
  have u0 := hb0.cell; have l0 := hb0.lt
  have st0 : PSt w #[.int .i64 (k : Int), .string (str a.key), .int .i64 a.n, .float .f64 a.x, .string (str a.s), .int .i64 a.make.kind, .int .i64 a.make.num, .int .i64 a.make.low, .int .i64 a.make.high, .float .f64 a.make.real, .int .i64 a.make.cap, .string (str a.make.text), .slice A n c, .bool a.must] A n a.make.list ((w.alloc (.cells #[.int .i64 (k : Int), .string (str a.key), .int .i64 a.n, .float .f64 a.x, .string (str a.s), .int .i64 a.make.kind, .int .i64 a.make.num, .int .i64 a.make.low, .int .i64 a.make.high, .float .f64 a.make.real, .int .i64 a.make.cap, .string (str a.make.text), .slice A n c, .bool a.must] 90)).alloc (.cells #[.int .u8 117, .int .u64 (k : Nat), .int .i64 0, .int .u64 0, .string ⟨#[]⟩, .bool false, .int .u8 98, .int .u64 0, .int .i64 0, .int .u64 0, .string ⟨#[]⟩, .bool a.must, .int .u8 115, .int .u64 0, .int .i64 0, .int .u64 0, .string (str a.key), .bool false] 132)) (.slice (some ⟨w.heap.size + 1, 0, none⟩) 3 3) 3 [.u k, .b a.must, .s a.key] := by
    refine ⟨by (repeat (first | (with_reducible exact Below.refl _ _) | (with_reducible assumption) | (with_reducible refine Below.setCell ?_ (by first | omega | (simp; done) | (simp; omega)) _) | (with_reducible refine Below.alloc ?_ (by first | omega | (simp; done) | (simp; omega)) _) | (with_reducible refine Below.drew ?_) | (with_reducible refine below_drewN ?_ _))), hb0.alloc _, ?_, hr.cln (by (repeat (first | (with_reducible exact Below.refl _ _) | (with_reducible assumption) | (with_reducible refine Below.setCell ?_ (by first | omega | (simp; done) | (simp; omega)) _) | (with_reducible refine Below.alloc ?_ (by first | omega | (simp; done) | (simp; omega)) _) | (with_reducible refine Below.drew ?_) | (with_reducible refine below_drewN ?_ _)))), fun h0 => hr.lo h0⟩
    have := World.ownsRow_lit (base := w.heap.size + 1) (e := 132) (size := 6) (w.alloc (.cells #[.int .i64 (k : Int), .string (str a.key), .int .i64 a.n, .float .f64 a.x, .string (str a.s), .int .i64 a.make.kind, .int .i64 a.make.num, .int .i64 a.make.low, .int .i64 a.make.high, .float .f64 a.make.real, .int .i64 a.make.cap, .string (str a.make.text), .slice A n c, .bool a.must] 90)) #[.int .u8 117, .int .u64 (k : Nat), .int .i64 0, .int .u64 0, .string ⟨#[]⟩, .bool false, .int .u8 98, .int .u64 0, .int .i64 0, .int .u64 0, .string ⟨#[]⟩, .bool a.must, .int .u8 115, .int .u64 0, .int .i64 0, .int .u64 0, .string (str a.key), .bool false] 3 (by rw [World.size_alloc]; omega) (by decide) rfl
    rw [World.size_alloc] at this
    exact this
  replace st0 := Lib.hid st0
  clear hN hX hS hM hcl0 hr hb0
  go_enter Tryz.func116, Tryz.ntmps116
  go_wp2_with (simp only [hu])
  clear u0 l0
  refine (f110 _).mono ?_; rintro e v0 ⟨rfl, hq⟩
  have st1 := Lib.hid (st0.out.cln hq)
  clear hq st0
  have u1 := st1.out.b.cell; have l1 := st1.out.b.lt
  go_wp2_with fail
  clear u1 l1
  refine (f120 _).mono ?_; rintro e v1 ⟨rfl, hq⟩
  have st2 := Lib.hid (st1.out.cln hq)
  clear hq st1
  have u2 := st2.out.b.cell; have l2 := st2.out.b.lt
  go_wp2_with fail
  refine (place_any _ hx _).mono ?_; rintro e w' ⟨rfl, rfl⟩
  go_wp2_with (
    at_builtin
    refine wpList_catP (l1 := [.u k, .b a.must, .s a.key]) (l2 := [.f (fkey a.x)]) rfl _ _ rfl rfl rfl (st2.out.lit _).own (Blk.new _ _ _) rfl rfl (by decide) (by have := l2; simp only [World.size_alloc]; omega) ?_
    intro A2 c2 w2 hown hg
    have st3 := Lib.hid ((st2.out.lit _).grow hown hg)
    clear hown hg u2 l2 st2
    have u3 := st3.out.b.cell; have l3 := st3.out.b.lt)
  clear u3 l3
  refine (f115 _).mono ?_; rintro e v3 ⟨rfl, hq⟩
  have st4 := Lib.hid (st3.out.cln hq)
  clear hq st3
  have u4 := st4.out.b.cell; have l4 := st4.out.b.lt
  go_wp2_with (
    at_builtin
    refine wpList_catP (l1 := [.u k, .b a.must, .s a.key] ++ [.f (fkey a.x)]) (l2 := [.s a.s]) rfl _ _ rfl rfl rfl (st4.out.lit _).own (Blk.new _ _ _) rfl rfl (by decide) (by have := l4; simp only [World.size_alloc]; omega) ?_
    intro A4 c4 w4 hown hg
    have st5 := Lib.hid ((st4.out.lit _).grow hown hg)
    clear hown hg u4 l4 st4
    have u5 := st5.out.b.cell; have l5 := st5.out.b.lt)
  (try go_wp2_with fail)
  go_ret
  refine ⟨_, _, _, rfl, ?_, st5.out.cl⟩
  rw [hP.out]
  exact own_parts st5.out.own
end Go.Proofs.YtoeoodiifpoomaaGreatDoor
