import Derived.Test.YtbemnfbndjolpaaGreatDoorWAct4
import Derived.Test.YtbemnfbndjolpaaGreatDoorWAct5
import Derived.Test.YtbemnfbndjolpaaGreatDoorWActR
import Derived.Test.YtbemnfbndjolpaaGreatDoorParts
import Derived.Test.YtbemnfbndjolpaaGreatDoorRows2
import Derived.Test.YtbemnfbndjolpaaGreatDoorWAct7
import Derived.Test.YtbemnfbndjolpaaGreatDoorOwns
/- The walks of the document's Parts and Bytes of acts. (Printed by wip/tools/gen_act8.py.) -/
set_option linter.unusedSimpArgs false
set_option linter.unusedVariables false
set_option maxRecDepth 20000
namespace Moi
def actParts (k : Nat) (a : MAct) : List MPart := [.u k, .b a.must, .s a.key] ++ ((if hasF k 110 then [.i a.n] else []) ++ ((if hasF k 120 then [.f (fkey a.x)] else []) ++ ((if hasF k 115 then [.s a.s] else []) ++ (if hasF k 109 then recParts a.make else []))))
end Moi
namespace Go.Proofs.YtbemnfbndjolpaaGreatDoor
open Go.RowKit Moi
attribute [local go_sem] toList_str str_size less_ltB store_float
theorem catParts_act (k : Nat) (a : MAct) (hk : a.kind = (k : Int)) : catParts (actParts k a) = wAct a := by
 unfold actParts wAct catParts
 rw [hk, Int.toNat_natCast]
 simp only [List.flatMap_append, List.flatMap_cons, List.flatMap_nil, wPart, List.append_nil, List.append_assoc]
 have e : ∀ (b : Bool) (l : List MPart) (r : List UInt8), l.flatMap wPart = r → (if b then l else []).flatMap wPart = if b then r else [] := by
  intro b l r h; cases b
  ·rfl
  ·exact h
 rw [e _ _ (wI a.n) (by simp [wPart]), e _ _ (wF a.x) (by simp [wPart, wF]), e _ _ (wS a.s) (by simp [wPart]), e _ _ (wRec a.make) (catParts_rec a.make)]
section
variable {w : World} {base n m c : Nat} {v : Value} {l1 l2 : List MPart} {A : Option Addr}
theorem run_catR (t : TypeId) (hown : w.ownsRow base 113 6 v n (partVals l1)) (hr : RdParts w A m l2) (h0 : 0 < m) (hb : n + m ≤ 1000000) (hbase : base ≤ w.heap.size) :
  ∃ A' c' w', (Builtin.append_ #[99, 99] t #[v, .slice A m c]).run Tryz.prog w = .ok (.slice A' (n + m) c') w' ∧ w'.ownsRow base 113 6 (.slice A' (n + m) c') (n + m) (partVals (l1 ++ l2)) ∧ w.grownBy w' v.ownBlock := by
 obtain ⟨i0, hi, hz0, hz1, hz2⟩ := info_parts Tryz.info113
 have hm := hr.len
 have hl : (partVals l2).length = m * 6 := by rw [partVals_length, hm]
 obtain ⟨b, o, rfl, hblt, hcell⟩ := hr.rows h0
 have hsrc : ∀ j u, (partVals l2)[j]? = some u → w.cell? ((⟨b, o, none⟩ : Addr).add j) = some u := by
  intro j u hu
  have hjl : j < m * 6 := by rw [← hl]; exact (List.getElem?_eq_some_iff.1 hu).1
  have hadd : (⟨b, o, none⟩ : Addr).add j = ⟨b, o + j, none⟩ := by unfold Addr.add; split <;> simp_all
  have e : j = j / 6 * 6 + j % 6 := by omega
  have h1 := hcell (j / 6) (by omega) (j % 6) (by omega)
  have h2 := partVals_get l2 (j / 6) (by omega) (j % 6) (by omega)
  rw [← e] at h2
  rw [hadd, show o + j = o + j / 6 * 6 + j % 6 from by omega, h1, ← h2, hu]
 obtain ⟨v', w', h1, h2, h3, _⟩ := run_append_own w base 99 t 113 i0 (.agg #[.int .u8 0, .int .u64 0, .int .i64 0, .int .u64 0, .string ⟨#[]⟩, .bool false]) 6 56 Tryz.underlying99 hi hz0 hz1 hz2 rfl (by decide) v n (partVals l1) hown ⟨b, o, none⟩ m c (partVals l2) hl hsrc (partVals_one_cell _) (by simp only [maxLen]; omega) (by omega) hbase
 obtain ⟨A', c', rfl, _⟩ := own_form h2
 exact ⟨A', c', w', h1, by rw [partVals_append]; exact h2, h3⟩
variable {ops : Array Oper} {rest : List Oper} {o : Oper} {a : Act} {K : Act → World → Prop} {Q : Exit → Act → World → Prop} {E : Prop}
theorem wp_catR (s x : Operand) (ho : o.op = .call { callee := .builtin .append, args := #[s, x], argTypes := #[99, 99] }) (hs : a.eval s = v) (hx : a.eval x = .slice A m c)
  (hown : w.ownsRow base 113 6 v n (partVals l1)) (hr : RdParts w A m l2) (h0 : 0 < m) (hb : n + m ≤ 1000000) (hbase : base ≤ w.heap.size)
  (h : ∀ A' c' w', w'.ownsRow base 113 6 (.slice A' (n + m) c') (n + m) (partVals (l1 ++ l2)) → w.grownBy w' v.ownBlock → K (a.put o.dst (.slice A' (n + m) c')) w') : o.wp Tryz.prog a w K Q := by
 obtain ⟨A', c', w', h1, h2, h3⟩ := run_catR (c := c) o.type hown hr h0 hb hbase
 unfold Oper.wp execOp
 simp only [ho, resolve, invoke, builtin, Sem.run_bind, Sem.run_pure, Result.andThen_ok, List.map_toArray, List.map_cons, List.map_nil, hs, hx, h1]
 exact h A' c' w' h2 h3
theorem wpList_catR (hgd : o.guard = none) (s x : Operand) (ho : o.op = .call { callee := .builtin .append, args := #[s, x], argTypes := #[99, 99] }) (hs : a.eval s = v) (hx : a.eval x = .slice A m c)
  (hown : w.ownsRow base 113 6 v n (partVals l1)) (hr : RdParts w A m l2) (h0 : 0 < m) (hb : n + m ≤ 1000000) (hbase : base ≤ w.heap.size)
  (h : ∀ A' c' w', w'.ownsRow base 113 6 (.slice A' (n + m) c') (n + m) (partVals (l1 ++ l2)) → w.grownBy w' v.ownBlock → wpList Tryz.prog ops Q rest (a.put o.dst (.slice A' (n + m) c')) w') :
  wpList Tryz.prog ops Q (o :: rest) a w :=
 wpList_plain hgd fun _ hK => wp_catR s x ho hs hx hown hr h0 hb hbase fun A' c' w' h2 h3 => hK _ _ (h A' c' w' h2 h3)
end
structure PSt (w0 : World) (cs : Array Value) (A : Option Addr) (n : Nat) (its : List MItem) (wk : World) (v : Value) (nn : Nat) (l : List MPart) : Prop where
 cl : Cln w0 wk
 b : Blk wk w0.heap.size 64 cs
 own : wk.ownsRow (w0.heap.size + 1) 113 6 v nn (partVals l)
 it : RdItems wk A n its
 lo : 0 < n → ∀ ad, A = some ad → ad.block < w0.heap.size
section
variable {w0 : World} {cs : Array Value} {A : Option Addr} {n : Nat} {its : List MItem} {wk w' w5 : World} {v : Value} {nn : Nat} {l l2 : List MPart}
theorem PSt.cln (h : PSt w0 cs A n its wk v nn l) (k : Cln wk w') : PSt w0 cs A n its w' v nn l :=
 ⟨cln_trans h.cl k, h.b.cln k, own_cln h.own k, h.it.cln k, h.lo⟩
theorem PSt.lit (h : PSt w0 cs A n its wk v nn l) (o : Obj) : PSt w0 cs A n its (wk.alloc o) v nn l := h.cln ((Below.refl _ _).alloc (Nat.le_refl _) o)
theorem PSt.grow (h : PSt w0 cs A n its wk v nn l) {A5 : Option Addr} {c5 m : Nat} (hown : w5.ownsRow (w0.heap.size + 1) 113 6 (.slice A5 m c5) m (partVals l2)) (hg : wk.grownBy w5 v.ownBlock) : PSt w0 cs A n its w5 (.slice A5 m c5) m l2 := by
 have hk : Kept (fun j => w0.heap.size + 1 ≤ j) wk w5 := (Kept.refl _ wk).grown hg (fun q hq _ => own_lo h.own q hq)
 refine ⟨?_, h.b.kept hk (by omega), hown, h.it.kept0 hk (fun h0 ad e _ => by have := h.lo h0 ad e; omega), h.lo⟩
 exact ((Kept.of_below (S := fun j => w0.heap.size + 1 ≤ j) h.cl).trans hk).toBelow (Nat.le_refl _) (fun i hi h2 => by omega)
end
set_option maxHeartbeats 8000000 in
theorem aparts_none (a : MAct) (k : Nat) (hk1 : 1 ≤ k ∧ k ≤ 21) (hN : hasF (k : Int) 110 = false) (hX : hasF (k : Int) 120 = false) (hS : hasF (k : Int) 115 = false) (hM : hasF (k : Int) 109 = false) (he : k ≠ 1)
  (hx : a.x < 18446744073709551616) (hmk : True) (hwf : a.make.WF) (A : Option Addr) (n c : Nat) (w : World) (hr : RdItems w A n a.make.list) :
  Calls Tryz.prog 90 #[.agg #[.int .i64 (k : Int), .string (str a.key), .int .i64 a.n, .float .f64 a.x, .string (str a.s), .int .i64 a.make.kind, .int .i64 a.make.num, .int .i64 a.make.low, .int .i64 a.make.high, .float .f64 a.make.real, .int .i64 a.make.cap, .string (str a.make.text), .slice A n c, .bool a.must]] w (NewParts w (actParts k a)) := by
 have f110 : ∀ W, Calls Tryz.prog 70 #[.int .i64 (k : Int), .int .u8 110] W fun e w' => e = .returned (.bool false) ∧ Cln W w' := fun W => hN ▸ rhas_any k 110 W
 have f120 : ∀ W, Calls Tryz.prog 70 #[.int .i64 (k : Int), .int .u8 120] W fun e w' => e = .returned (.bool false) ∧ Cln W w' := fun W => hX ▸ rhas_any k 120 W
 have f115 : ∀ W, Calls Tryz.prog 70 #[.int .i64 (k : Int), .int .u8 115] W fun e w' => e = .returned (.bool false) ∧ Cln W w' := fun W => hS ▸ rhas_any k 115 W
 have t1 : ((k : Int) == 1) = false := by rw [beq_eq_false_iff_ne]; omega
 replace he := Lib.hid he
 have hu : IntKind.u64.wrap (k : Int) = (k : Int) := IntWalk.u64_in _ (by omega)
 have hP : Hid (actParts k a = [.u k, .b a.must, .s a.key]) := by unfold Hid actParts; rw [hN, hX, hS, hM]; simp
 have hcl0 : Cln w (w.alloc (.cells #[.int .i64 (k : Int), .string (str a.key), .int .i64 a.n, .float .f64 a.x, .string (str a.s), .int .i64 a.make.kind, .int .i64 a.make.num, .int .i64 a.make.low, .int .i64 a.make.high, .float .f64 a.make.real, .int .i64 a.make.cap, .string (str a.make.text), .slice A n c, .bool a.must] 64)) := by (repeat with_reducible first | exact cR _ | assumption | refine cA ?_ _ | refine cD ?_ | refine cN ?_ _ | refine cS ?_ (by first | omega | (simp <;> omega)) _)
 have hb0 := Blk.new w 64 #[.int .i64 (k : Int), .string (str a.key), .int .i64 a.n, .float .f64 a.x, .string (str a.s), .int .i64 a.make.kind, .int .i64 a.make.num, .int .i64 a.make.low, .int .i64 a.make.high, .float .f64 a.make.real, .int .i64 a.make.cap, .string (str a.make.text), .slice A n c, .bool a.must]
 have u0 := hb0.cell; have l0 := hb0.lt
 have st0 : PSt w #[.int .i64 (k : Int), .string (str a.key), .int .i64 a.n, .float .f64 a.x, .string (str a.s), .int .i64 a.make.kind, .int .i64 a.make.num, .int .i64 a.make.low, .int .i64 a.make.high, .float .f64 a.make.real, .int .i64 a.make.cap, .string (str a.make.text), .slice A n c, .bool a.must] A n a.make.list ((w.alloc (.cells #[.int .i64 (k : Int), .string (str a.key), .int .i64 a.n, .float .f64 a.x, .string (str a.s), .int .i64 a.make.kind, .int .i64 a.make.num, .int .i64 a.make.low, .int .i64 a.make.high, .float .f64 a.make.real, .int .i64 a.make.cap, .string (str a.make.text), .slice A n c, .bool a.must] 64)).alloc (.cells #[.int .u8 117, .int .u64 (k : Nat), .int .i64 0, .int .u64 0, .string ⟨#[]⟩, .bool false, .int .u8 98, .int .u64 0, .int .i64 0, .int .u64 0, .string ⟨#[]⟩, .bool a.must, .int .u8 115, .int .u64 0, .int .i64 0, .int .u64 0, .string (str a.key), .bool false] 113)) (.slice (some ⟨w.heap.size + 1, 0, none⟩) 3 3) 3 [.u k, .b a.must, .s a.key] := by
  refine ⟨by (repeat with_reducible first | exact cR _ | assumption | refine cA ?_ _ | refine cD ?_ | refine cN ?_ _ | refine cS ?_ (by first | omega | (simp <;> omega)) _), hb0.alloc _, ?_, hr.cln (by (repeat with_reducible first | exact cR _ | assumption | refine cA ?_ _ | refine cD ?_ | refine cN ?_ _ | refine cS ?_ (by first | omega | (simp <;> omega)) _)), fun h0 => hr.lo h0⟩
  have := World.ownsRow_lit (base := w.heap.size + 1) (e := 113) (size := 6) (w.alloc (.cells #[.int .i64 (k : Int), .string (str a.key), .int .i64 a.n, .float .f64 a.x, .string (str a.s), .int .i64 a.make.kind, .int .i64 a.make.num, .int .i64 a.make.low, .int .i64 a.make.high, .float .f64 a.make.real, .int .i64 a.make.cap, .string (str a.make.text), .slice A n c, .bool a.must] 64)) #[.int .u8 117, .int .u64 (k : Nat), .int .i64 0, .int .u64 0, .string ⟨#[]⟩, .bool false, .int .u8 98, .int .u64 0, .int .i64 0, .int .u64 0, .string ⟨#[]⟩, .bool a.must, .int .u8 115, .int .u64 0, .int .i64 0, .int .u64 0, .string (str a.key), .bool false] 3 (by rw [World.size_alloc]; omega) (by decide) rfl
  rw [World.size_alloc] at this
  exact this
 replace st0 := Lib.hid st0
 clear hN hX hS hM hcl0 hr hb0
 go_enter Tryz.func90, Tryz.ntmps90
 go_wp2_with (simp only [hu])
 clear u0 l0
 refine (f110 _).mono ?_; rintro e v0 ⟨rfl, hq⟩
 have st1 := Lib.hid (st0.out.cln hq)
 clear hq st0
 have u1 := st1.out.b.cell; have l1 := st1.out.b.lt
 go_wp2_with fail
 clear u1 l1
 refine (f120 _).mono ?_; rintro e v1 ⟨rfl, hq⟩
 have st2 := Lib.hid (st1.out.cln hq)
 clear hq st1
 have u2 := st2.out.b.cell; have l2 := st2.out.b.lt
 go_wp2_with fail
 clear u2 l2
 refine (f115 _).mono ?_; rintro e v2 ⟨rfl, hq⟩
 have st3 := Lib.hid (st2.out.cln hq)
 clear hq st2
 have u3 := st3.out.b.cell; have l3 := st3.out.b.lt
 go_wp2_with fail
 go_ret
 refine ⟨_, _, _, rfl, ?_, st3.out.cl⟩
 rw [hP.out]
 exact own_parts st3.out.own
set_option maxHeartbeats 8000000 in
theorem aparts_make (a : MAct) (k : Nat) (hk1 : 1 ≤ k ∧ k ≤ 21) (hN : hasF (k : Int) 110 = false) (hX : hasF (k : Int) 120 = false) (hS : hasF (k : Int) 115 = false) (hM : hasF (k : Int) 109 = true) (he : k = 1)
  (hx : a.x < 18446744073709551616) (hmk : checkRec a.make = 0) (hwf : a.make.WF) (A : Option Addr) (n c : Nat) (w : World) (hr : RdItems w A n a.make.list) :
  Calls Tryz.prog 90 #[.agg #[.int .i64 (k : Int), .string (str a.key), .int .i64 a.n, .float .f64 a.x, .string (str a.s), .int .i64 a.make.kind, .int .i64 a.make.num, .int .i64 a.make.low, .int .i64 a.make.high, .float .f64 a.make.real, .int .i64 a.make.cap, .string (str a.make.text), .slice A n c, .bool a.must]] w (NewParts w (actParts k a)) := by
 have f110 : ∀ W, Calls Tryz.prog 70 #[.int .i64 (k : Int), .int .u8 110] W fun e w' => e = .returned (.bool false) ∧ Cln W w' := fun W => hN ▸ rhas_any k 110 W
 have f120 : ∀ W, Calls Tryz.prog 70 #[.int .i64 (k : Int), .int .u8 120] W fun e w' => e = .returned (.bool false) ∧ Cln W w' := fun W => hX ▸ rhas_any k 120 W
 have f115 : ∀ W, Calls Tryz.prog 70 #[.int .i64 (k : Int), .int .u8 115] W fun e w' => e = .returned (.bool false) ∧ Cln W w' := fun W => hS ▸ rhas_any k 115 W
 have t1 : ((k : Int) == 1) = true := by rw [beq_iff_eq]; omega
 replace he := Lib.hid he
 have hu : IntKind.u64.wrap (k : Int) = (k : Int) := IntWalk.u64_in _ (by omega)
 have hP : Hid (actParts k a = [.u k, .b a.must, .s a.key] ++ recParts a.make) := by unfold Hid actParts; rw [hN, hX, hS, hM]; simp
 have hcl0 : Cln w (w.alloc (.cells #[.int .i64 (k : Int), .string (str a.key), .int .i64 a.n, .float .f64 a.x, .string (str a.s), .int .i64 a.make.kind, .int .i64 a.make.num, .int .i64 a.make.low, .int .i64 a.make.high, .float .f64 a.make.real, .int .i64 a.make.cap, .string (str a.make.text), .slice A n c, .bool a.must] 64)) := by (repeat with_reducible first | exact cR _ | assumption | refine cA ?_ _ | refine cD ?_ | refine cN ?_ _ | refine cS ?_ (by first | omega | (simp <;> omega)) _)
 have hb0 := Blk.new w 64 #[.int .i64 (k : Int), .string (str a.key), .int .i64 a.n, .float .f64 a.x, .string (str a.s), .int .i64 a.make.kind, .int .i64 a.make.num, .int .i64 a.make.low, .int .i64 a.make.high, .float .f64 a.make.real, .int .i64 a.make.cap, .string (str a.make.text), .slice A n c, .bool a.must]
 have u0 := hb0.cell; have l0 := hb0.lt
 have st0 : PSt w #[.int .i64 (k : Int), .string (str a.key), .int .i64 a.n, .float .f64 a.x, .string (str a.s), .int .i64 a.make.kind, .int .i64 a.make.num, .int .i64 a.make.low, .int .i64 a.make.high, .float .f64 a.make.real, .int .i64 a.make.cap, .string (str a.make.text), .slice A n c, .bool a.must] A n a.make.list ((w.alloc (.cells #[.int .i64 (k : Int), .string (str a.key), .int .i64 a.n, .float .f64 a.x, .string (str a.s), .int .i64 a.make.kind, .int .i64 a.make.num, .int .i64 a.make.low, .int .i64 a.make.high, .float .f64 a.make.real, .int .i64 a.make.cap, .string (str a.make.text), .slice A n c, .bool a.must] 64)).alloc (.cells #[.int .u8 117, .int .u64 (k : Nat), .int .i64 0, .int .u64 0, .string ⟨#[]⟩, .bool false, .int .u8 98, .int .u64 0, .int .i64 0, .int .u64 0, .string ⟨#[]⟩, .bool a.must, .int .u8 115, .int .u64 0, .int .i64 0, .int .u64 0, .string (str a.key), .bool false] 113)) (.slice (some ⟨w.heap.size + 1, 0, none⟩) 3 3) 3 [.u k, .b a.must, .s a.key] := by
  refine ⟨by (repeat with_reducible first | exact cR _ | assumption | refine cA ?_ _ | refine cD ?_ | refine cN ?_ _ | refine cS ?_ (by first | omega | (simp <;> omega)) _), hb0.alloc _, ?_, hr.cln (by (repeat with_reducible first | exact cR _ | assumption | refine cA ?_ _ | refine cD ?_ | refine cN ?_ _ | refine cS ?_ (by first | omega | (simp <;> omega)) _)), fun h0 => hr.lo h0⟩
  have := World.ownsRow_lit (base := w.heap.size + 1) (e := 113) (size := 6) (w.alloc (.cells #[.int .i64 (k : Int), .string (str a.key), .int .i64 a.n, .float .f64 a.x, .string (str a.s), .int .i64 a.make.kind, .int .i64 a.make.num, .int .i64 a.make.low, .int .i64 a.make.high, .float .f64 a.make.real, .int .i64 a.make.cap, .string (str a.make.text), .slice A n c, .bool a.must] 64)) #[.int .u8 117, .int .u64 (k : Nat), .int .i64 0, .int .u64 0, .string ⟨#[]⟩, .bool false, .int .u8 98, .int .u64 0, .int .i64 0, .int .u64 0, .string ⟨#[]⟩, .bool a.must, .int .u8 115, .int .u64 0, .int .i64 0, .int .u64 0, .string (str a.key), .bool false] 3 (by rw [World.size_alloc]; omega) (by decide) rfl
  rw [World.size_alloc] at this
  exact this
 replace st0 := Lib.hid st0
 clear hN hX hS hM hcl0 hr hb0
 go_enter Tryz.func90, Tryz.ntmps90
 go_wp2_with (simp only [hu])
 clear u0 l0
 refine (f110 _).mono ?_; rintro e v0 ⟨rfl, hq⟩
 have st1 := Lib.hid (st0.out.cln hq)
 clear hq st0
 have u1 := st1.out.b.cell; have l1 := st1.out.b.lt
 go_wp2_with fail
 clear u1 l1
 refine (f120 _).mono ?_; rintro e v1 ⟨rfl, hq⟩
 have st2 := Lib.hid (st1.out.cln hq)
 clear hq st1
 have u2 := st2.out.b.cell; have l2 := st2.out.b.lt
 go_wp2_with fail
 clear u2 l2
 refine (f115 _).mono ?_; rintro e v2 ⟨rfl, hq⟩
 have st3 := Lib.hid (st2.out.cln hq)
 clear hq st2
 have u3 := st3.out.b.cell; have l3 := st3.out.b.lt
 go_wp2_with fail
 have cP := parts_any a.make hmk hwf A n c _ st3.out.it
 unfold recVal at cP
 refine cP.mono ?_; rintro e w8 ⟨A8, c8, n8, rfl, hrd, hq⟩
 clear cP
 have st4 := Lib.hid (st3.out.cln hq)
 have hl8 := hrd.len
 have hl9 := recParts_len hmk
 have hl7 : 0 < (recParts a.make).length := by unfold recParts; simp
 clear hq u3 l3 st3
 have u4 := st4.out.b.cell; have l4 := st4.out.b.lt
 go_wp2_with (
  at_builtin
  refine wpList_catR (l1 := [.u k, .b a.must, .s a.key]) (l2 := recParts a.make) rfl _ _ rfl rfl rfl st4.out.own hrd (by omega) (by omega) (by have := l4; omega) ?_
  intro A4 c4 w4 hown hg
  have st5 := Lib.hid (st4.out.grow hown hg)
  clear hown hg u4 l4 st4)
 go_ret
 refine ⟨_, _, _, rfl, ?_, st5.out.cl⟩
 rw [hP.out]
 exact own_parts st5.out.own
set_option maxHeartbeats 8000000 in
theorem aparts_text (a : MAct) (k : Nat) (hk1 : 1 ≤ k ∧ k ≤ 21) (hN : hasF (k : Int) 110 = false) (hX : hasF (k : Int) 120 = false) (hS : hasF (k : Int) 115 = true) (hM : hasF (k : Int) 109 = false) (he : k ≠ 1)
  (hx : a.x < 18446744073709551616) (hmk : True) (hwf : a.make.WF) (A : Option Addr) (n c : Nat) (w : World) (hr : RdItems w A n a.make.list) :
  Calls Tryz.prog 90 #[.agg #[.int .i64 (k : Int), .string (str a.key), .int .i64 a.n, .float .f64 a.x, .string (str a.s), .int .i64 a.make.kind, .int .i64 a.make.num, .int .i64 a.make.low, .int .i64 a.make.high, .float .f64 a.make.real, .int .i64 a.make.cap, .string (str a.make.text), .slice A n c, .bool a.must]] w (NewParts w (actParts k a)) := by
 have f110 : ∀ W, Calls Tryz.prog 70 #[.int .i64 (k : Int), .int .u8 110] W fun e w' => e = .returned (.bool false) ∧ Cln W w' := fun W => hN ▸ rhas_any k 110 W
 have f120 : ∀ W, Calls Tryz.prog 70 #[.int .i64 (k : Int), .int .u8 120] W fun e w' => e = .returned (.bool false) ∧ Cln W w' := fun W => hX ▸ rhas_any k 120 W
 have f115 : ∀ W, Calls Tryz.prog 70 #[.int .i64 (k : Int), .int .u8 115] W fun e w' => e = .returned (.bool true) ∧ Cln W w' := fun W => hS ▸ rhas_any k 115 W
 have t1 : ((k : Int) == 1) = false := by rw [beq_eq_false_iff_ne]; omega
 replace he := Lib.hid he
 have hu : IntKind.u64.wrap (k : Int) = (k : Int) := IntWalk.u64_in _ (by omega)
 have hP : Hid (actParts k a = [.u k, .b a.must, .s a.key] ++ [.s a.s]) := by unfold Hid actParts; rw [hN, hX, hS, hM]; simp
 have hcl0 : Cln w (w.alloc (.cells #[.int .i64 (k : Int), .string (str a.key), .int .i64 a.n, .float .f64 a.x, .string (str a.s), .int .i64 a.make.kind, .int .i64 a.make.num, .int .i64 a.make.low, .int .i64 a.make.high, .float .f64 a.make.real, .int .i64 a.make.cap, .string (str a.make.text), .slice A n c, .bool a.must] 64)) := by (repeat with_reducible first | exact cR _ | assumption | refine cA ?_ _ | refine cD ?_ | refine cN ?_ _ | refine cS ?_ (by first | omega | (simp <;> omega)) _)
 have hb0 := Blk.new w 64 #[.int .i64 (k : Int), .string (str a.key), .int .i64 a.n, .float .f64 a.x, .string (str a.s), .int .i64 a.make.kind, .int .i64 a.make.num, .int .i64 a.make.low, .int .i64 a.make.high, .float .f64 a.make.real, .int .i64 a.make.cap, .string (str a.make.text), .slice A n c, .bool a.must]
 have u0 := hb0.cell; have l0 := hb0.lt
 have st0 : PSt w #[.int .i64 (k : Int), .string (str a.key), .int .i64 a.n, .float .f64 a.x, .string (str a.s), .int .i64 a.make.kind, .int .i64 a.make.num, .int .i64 a.make.low, .int .i64 a.make.high, .float .f64 a.make.real, .int .i64 a.make.cap, .string (str a.make.text), .slice A n c, .bool a.must] A n a.make.list ((w.alloc (.cells #[.int .i64 (k : Int), .string (str a.key), .int .i64 a.n, .float .f64 a.x, .string (str a.s), .int .i64 a.make.kind, .int .i64 a.make.num, .int .i64 a.make.low, .int .i64 a.make.high, .float .f64 a.make.real, .int .i64 a.make.cap, .string (str a.make.text), .slice A n c, .bool a.must] 64)).alloc (.cells #[.int .u8 117, .int .u64 (k : Nat), .int .i64 0, .int .u64 0, .string ⟨#[]⟩, .bool false, .int .u8 98, .int .u64 0, .int .i64 0, .int .u64 0, .string ⟨#[]⟩, .bool a.must, .int .u8 115, .int .u64 0, .int .i64 0, .int .u64 0, .string (str a.key), .bool false] 113)) (.slice (some ⟨w.heap.size + 1, 0, none⟩) 3 3) 3 [.u k, .b a.must, .s a.key] := by
  refine ⟨by (repeat with_reducible first | exact cR _ | assumption | refine cA ?_ _ | refine cD ?_ | refine cN ?_ _ | refine cS ?_ (by first | omega | (simp <;> omega)) _), hb0.alloc _, ?_, hr.cln (by (repeat with_reducible first | exact cR _ | assumption | refine cA ?_ _ | refine cD ?_ | refine cN ?_ _ | refine cS ?_ (by first | omega | (simp <;> omega)) _)), fun h0 => hr.lo h0⟩
  have := World.ownsRow_lit (base := w.heap.size + 1) (e := 113) (size := 6) (w.alloc (.cells #[.int .i64 (k : Int), .string (str a.key), .int .i64 a.n, .float .f64 a.x, .string (str a.s), .int .i64 a.make.kind, .int .i64 a.make.num, .int .i64 a.make.low, .int .i64 a.make.high, .float .f64 a.make.real, .int .i64 a.make.cap, .string (str a.make.text), .slice A n c, .bool a.must] 64)) #[.int .u8 117, .int .u64 (k : Nat), .int .i64 0, .int .u64 0, .string ⟨#[]⟩, .bool false, .int .u8 98, .int .u64 0, .int .i64 0, .int .u64 0, .string ⟨#[]⟩, .bool a.must, .int .u8 115, .int .u64 0, .int .i64 0, .int .u64 0, .string (str a.key), .bool false] 3 (by rw [World.size_alloc]; omega) (by decide) rfl
  rw [World.size_alloc] at this
  exact this
 replace st0 := Lib.hid st0
 clear hN hX hS hM hcl0 hr hb0
 go_enter Tryz.func90, Tryz.ntmps90
 go_wp2_with (simp only [hu])
 clear u0 l0
 refine (f110 _).mono ?_; rintro e v0 ⟨rfl, hq⟩
 have st1 := Lib.hid (st0.out.cln hq)
 clear hq st0
 have u1 := st1.out.b.cell; have l1 := st1.out.b.lt
 go_wp2_with fail
 clear u1 l1
 refine (f120 _).mono ?_; rintro e v1 ⟨rfl, hq⟩
 have st2 := Lib.hid (st1.out.cln hq)
 clear hq st1
 have u2 := st2.out.b.cell; have l2 := st2.out.b.lt
 go_wp2_with fail
 clear u2 l2
 refine (f115 _).mono ?_; rintro e v2 ⟨rfl, hq⟩
 have st3 := Lib.hid (st2.out.cln hq)
 clear hq st2
 have u3 := st3.out.b.cell; have l3 := st3.out.b.lt
 go_wp2_with (
  at_builtin
  refine wpList_catP (l1 := [.u k, .b a.must, .s a.key]) (l2 := [.s a.s]) rfl _ _ rfl rfl rfl (st3.out.lit _).own (Blk.new _ _ _) rfl rfl (by decide) (by have := l3; simp only [World.size_alloc]; omega) ?_
  intro A3 c3 w3 hown hg
  have st4 := Lib.hid ((st3.out.lit _).grow hown hg)
  clear hown hg u3 l3 st3
  have u4 := st4.out.b.cell; have l4 := st4.out.b.lt)
 (try go_wp2_with fail)
 go_ret
 refine ⟨_, _, _, rfl, ?_, st4.out.cl⟩
 rw [hP.out]
 exact own_parts st4.out.own
set_option maxHeartbeats 8000000 in
theorem aparts_num (a : MAct) (k : Nat) (hk1 : 1 ≤ k ∧ k ≤ 21) (hN : hasF (k : Int) 110 = true) (hX : hasF (k : Int) 120 = false) (hS : hasF (k : Int) 115 = false) (hM : hasF (k : Int) 109 = false) (he : k ≠ 1)
  (hx : a.x < 18446744073709551616) (hmk : True) (hwf : a.make.WF) (A : Option Addr) (n c : Nat) (w : World) (hr : RdItems w A n a.make.list) :
  Calls Tryz.prog 90 #[.agg #[.int .i64 (k : Int), .string (str a.key), .int .i64 a.n, .float .f64 a.x, .string (str a.s), .int .i64 a.make.kind, .int .i64 a.make.num, .int .i64 a.make.low, .int .i64 a.make.high, .float .f64 a.make.real, .int .i64 a.make.cap, .string (str a.make.text), .slice A n c, .bool a.must]] w (NewParts w (actParts k a)) := by
 have f110 : ∀ W, Calls Tryz.prog 70 #[.int .i64 (k : Int), .int .u8 110] W fun e w' => e = .returned (.bool true) ∧ Cln W w' := fun W => hN ▸ rhas_any k 110 W
 have f120 : ∀ W, Calls Tryz.prog 70 #[.int .i64 (k : Int), .int .u8 120] W fun e w' => e = .returned (.bool false) ∧ Cln W w' := fun W => hX ▸ rhas_any k 120 W
 have f115 : ∀ W, Calls Tryz.prog 70 #[.int .i64 (k : Int), .int .u8 115] W fun e w' => e = .returned (.bool false) ∧ Cln W w' := fun W => hS ▸ rhas_any k 115 W
 have t1 : ((k : Int) == 1) = false := by rw [beq_eq_false_iff_ne]; omega
 replace he := Lib.hid he
 have hu : IntKind.u64.wrap (k : Int) = (k : Int) := IntWalk.u64_in _ (by omega)
 have hP : Hid (actParts k a = [.u k, .b a.must, .s a.key] ++ [.i a.n]) := by unfold Hid actParts; rw [hN, hX, hS, hM]; simp
 have hcl0 : Cln w (w.alloc (.cells #[.int .i64 (k : Int), .string (str a.key), .int .i64 a.n, .float .f64 a.x, .string (str a.s), .int .i64 a.make.kind, .int .i64 a.make.num, .int .i64 a.make.low, .int .i64 a.make.high, .float .f64 a.make.real, .int .i64 a.make.cap, .string (str a.make.text), .slice A n c, .bool a.must] 64)) := by (repeat with_reducible first | exact cR _ | assumption | refine cA ?_ _ | refine cD ?_ | refine cN ?_ _ | refine cS ?_ (by first | omega | (simp <;> omega)) _)
 have hb0 := Blk.new w 64 #[.int .i64 (k : Int), .string (str a.key), .int .i64 a.n, .float .f64 a.x, .string (str a.s), .int .i64 a.make.kind, .int .i64 a.make.num, .int .i64 a.make.low, .int .i64 a.make.high, .float .f64 a.make.real, .int .i64 a.make.cap, .string (str a.make.text), .slice A n c, .bool a.must]
 have u0 := hb0.cell; have l0 := hb0.lt
 have st0 : PSt w #[.int .i64 (k : Int), .string (str a.key), .int .i64 a.n, .float .f64 a.x, .string (str a.s), .int .i64 a.make.kind, .int .i64 a.make.num, .int .i64 a.make.low, .int .i64 a.make.high, .float .f64 a.make.real, .int .i64 a.make.cap, .string (str a.make.text), .slice A n c, .bool a.must] A n a.make.list ((w.alloc (.cells #[.int .i64 (k : Int), .string (str a.key), .int .i64 a.n, .float .f64 a.x, .string (str a.s), .int .i64 a.make.kind, .int .i64 a.make.num, .int .i64 a.make.low, .int .i64 a.make.high, .float .f64 a.make.real, .int .i64 a.make.cap, .string (str a.make.text), .slice A n c, .bool a.must] 64)).alloc (.cells #[.int .u8 117, .int .u64 (k : Nat), .int .i64 0, .int .u64 0, .string ⟨#[]⟩, .bool false, .int .u8 98, .int .u64 0, .int .i64 0, .int .u64 0, .string ⟨#[]⟩, .bool a.must, .int .u8 115, .int .u64 0, .int .i64 0, .int .u64 0, .string (str a.key), .bool false] 113)) (.slice (some ⟨w.heap.size + 1, 0, none⟩) 3 3) 3 [.u k, .b a.must, .s a.key] := by
  refine ⟨by (repeat with_reducible first | exact cR _ | assumption | refine cA ?_ _ | refine cD ?_ | refine cN ?_ _ | refine cS ?_ (by first | omega | (simp <;> omega)) _), hb0.alloc _, ?_, hr.cln (by (repeat with_reducible first | exact cR _ | assumption | refine cA ?_ _ | refine cD ?_ | refine cN ?_ _ | refine cS ?_ (by first | omega | (simp <;> omega)) _)), fun h0 => hr.lo h0⟩
  have := World.ownsRow_lit (base := w.heap.size + 1) (e := 113) (size := 6) (w.alloc (.cells #[.int .i64 (k : Int), .string (str a.key), .int .i64 a.n, .float .f64 a.x, .string (str a.s), .int .i64 a.make.kind, .int .i64 a.make.num, .int .i64 a.make.low, .int .i64 a.make.high, .float .f64 a.make.real, .int .i64 a.make.cap, .string (str a.make.text), .slice A n c, .bool a.must] 64)) #[.int .u8 117, .int .u64 (k : Nat), .int .i64 0, .int .u64 0, .string ⟨#[]⟩, .bool false, .int .u8 98, .int .u64 0, .int .i64 0, .int .u64 0, .string ⟨#[]⟩, .bool a.must, .int .u8 115, .int .u64 0, .int .i64 0, .int .u64 0, .string (str a.key), .bool false] 3 (by rw [World.size_alloc]; omega) (by decide) rfl
  rw [World.size_alloc] at this
  exact this
 replace st0 := Lib.hid st0
 clear hN hX hS hM hcl0 hr hb0
 go_enter Tryz.func90, Tryz.ntmps90
 go_wp2_with (simp only [hu])
 clear u0 l0
 refine (f110 _).mono ?_; rintro e v0 ⟨rfl, hq⟩
 have st1 := Lib.hid (st0.out.cln hq)
 clear hq st0
 have u1 := st1.out.b.cell; have l1 := st1.out.b.lt
 go_wp2_with (
  at_builtin
  refine wpList_catP (l1 := [.u k, .b a.must, .s a.key]) (l2 := [.i a.n]) rfl _ _ rfl rfl rfl (st1.out.lit _).own (Blk.new _ _ _) rfl rfl (by decide) (by have := l1; simp only [World.size_alloc]; omega) ?_
  intro A1 c1 w1 hown hg
  have st2 := Lib.hid ((st1.out.lit _).grow hown hg)
  clear hown hg u1 l1 st1
  have u2 := st2.out.b.cell; have l2 := st2.out.b.lt)
 clear u2 l2
 refine (f120 _).mono ?_; rintro e v2 ⟨rfl, hq⟩
 have st3 := Lib.hid (st2.out.cln hq)
 clear hq st2
 have u3 := st3.out.b.cell; have l3 := st3.out.b.lt
 go_wp2_with fail
 clear u3 l3
 refine (f115 _).mono ?_; rintro e v3 ⟨rfl, hq⟩
 have st4 := Lib.hid (st3.out.cln hq)
 clear hq st3
 have u4 := st4.out.b.cell; have l4 := st4.out.b.lt
 go_wp2_with fail
 go_ret
 refine ⟨_, _, _, rfl, ?_, st4.out.cl⟩
 rw [hP.out]
 exact own_parts st4.out.own
set_option maxHeartbeats 8000000 in
theorem aparts_real (a : MAct) (k : Nat) (hk1 : 1 ≤ k ∧ k ≤ 21) (hN : hasF (k : Int) 110 = false) (hX : hasF (k : Int) 120 = true) (hS : hasF (k : Int) 115 = false) (hM : hasF (k : Int) 109 = false) (he : k ≠ 1)
  (hx : a.x < 18446744073709551616) (hmk : True) (hwf : a.make.WF) (A : Option Addr) (n c : Nat) (w : World) (hr : RdItems w A n a.make.list) :
  Calls Tryz.prog 90 #[.agg #[.int .i64 (k : Int), .string (str a.key), .int .i64 a.n, .float .f64 a.x, .string (str a.s), .int .i64 a.make.kind, .int .i64 a.make.num, .int .i64 a.make.low, .int .i64 a.make.high, .float .f64 a.make.real, .int .i64 a.make.cap, .string (str a.make.text), .slice A n c, .bool a.must]] w (NewParts w (actParts k a)) := by
 have f110 : ∀ W, Calls Tryz.prog 70 #[.int .i64 (k : Int), .int .u8 110] W fun e w' => e = .returned (.bool false) ∧ Cln W w' := fun W => hN ▸ rhas_any k 110 W
 have f120 : ∀ W, Calls Tryz.prog 70 #[.int .i64 (k : Int), .int .u8 120] W fun e w' => e = .returned (.bool true) ∧ Cln W w' := fun W => hX ▸ rhas_any k 120 W
 have f115 : ∀ W, Calls Tryz.prog 70 #[.int .i64 (k : Int), .int .u8 115] W fun e w' => e = .returned (.bool false) ∧ Cln W w' := fun W => hS ▸ rhas_any k 115 W
 have t1 : ((k : Int) == 1) = false := by rw [beq_eq_false_iff_ne]; omega
 replace he := Lib.hid he
 have hu : IntKind.u64.wrap (k : Int) = (k : Int) := IntWalk.u64_in _ (by omega)
 have hP : Hid (actParts k a = [.u k, .b a.must, .s a.key] ++ [.f (fkey a.x)]) := by unfold Hid actParts; rw [hN, hX, hS, hM]; simp
 have hcl0 : Cln w (w.alloc (.cells #[.int .i64 (k : Int), .string (str a.key), .int .i64 a.n, .float .f64 a.x, .string (str a.s), .int .i64 a.make.kind, .int .i64 a.make.num, .int .i64 a.make.low, .int .i64 a.make.high, .float .f64 a.make.real, .int .i64 a.make.cap, .string (str a.make.text), .slice A n c, .bool a.must] 64)) := by (repeat with_reducible first | exact cR _ | assumption | refine cA ?_ _ | refine cD ?_ | refine cN ?_ _ | refine cS ?_ (by first | omega | (simp <;> omega)) _)
 have hb0 := Blk.new w 64 #[.int .i64 (k : Int), .string (str a.key), .int .i64 a.n, .float .f64 a.x, .string (str a.s), .int .i64 a.make.kind, .int .i64 a.make.num, .int .i64 a.make.low, .int .i64 a.make.high, .float .f64 a.make.real, .int .i64 a.make.cap, .string (str a.make.text), .slice A n c, .bool a.must]
 have u0 := hb0.cell; have l0 := hb0.lt
 have st0 : PSt w #[.int .i64 (k : Int), .string (str a.key), .int .i64 a.n, .float .f64 a.x, .string (str a.s), .int .i64 a.make.kind, .int .i64 a.make.num, .int .i64 a.make.low, .int .i64 a.make.high, .float .f64 a.make.real, .int .i64 a.make.cap, .string (str a.make.text), .slice A n c, .bool a.must] A n a.make.list ((w.alloc (.cells #[.int .i64 (k : Int), .string (str a.key), .int .i64 a.n, .float .f64 a.x, .string (str a.s), .int .i64 a.make.kind, .int .i64 a.make.num, .int .i64 a.make.low, .int .i64 a.make.high, .float .f64 a.make.real, .int .i64 a.make.cap, .string (str a.make.text), .slice A n c, .bool a.must] 64)).alloc (.cells #[.int .u8 117, .int .u64 (k : Nat), .int .i64 0, .int .u64 0, .string ⟨#[]⟩, .bool false, .int .u8 98, .int .u64 0, .int .i64 0, .int .u64 0, .string ⟨#[]⟩, .bool a.must, .int .u8 115, .int .u64 0, .int .i64 0, .int .u64 0, .string (str a.key), .bool false] 113)) (.slice (some ⟨w.heap.size + 1, 0, none⟩) 3 3) 3 [.u k, .b a.must, .s a.key] := by
  refine ⟨by (repeat with_reducible first | exact cR _ | assumption | refine cA ?_ _ | refine cD ?_ | refine cN ?_ _ | refine cS ?_ (by first | omega | (simp <;> omega)) _), hb0.alloc _, ?_, hr.cln (by (repeat with_reducible first | exact cR _ | assumption | refine cA ?_ _ | refine cD ?_ | refine cN ?_ _ | refine cS ?_ (by first | omega | (simp <;> omega)) _)), fun h0 => hr.lo h0⟩
  have := World.ownsRow_lit (base := w.heap.size + 1) (e := 113) (size := 6) (w.alloc (.cells #[.int .i64 (k : Int), .string (str a.key), .int .i64 a.n, .float .f64 a.x, .string (str a.s), .int .i64 a.make.kind, .int .i64 a.make.num, .int .i64 a.make.low, .int .i64 a.make.high, .float .f64 a.make.real, .int .i64 a.make.cap, .string (str a.make.text), .slice A n c, .bool a.must] 64)) #[.int .u8 117, .int .u64 (k : Nat), .int .i64 0, .int .u64 0, .string ⟨#[]⟩, .bool false, .int .u8 98, .int .u64 0, .int .i64 0, .int .u64 0, .string ⟨#[]⟩, .bool a.must, .int .u8 115, .int .u64 0, .int .i64 0, .int .u64 0, .string (str a.key), .bool false] 3 (by rw [World.size_alloc]; omega) (by decide) rfl
  rw [World.size_alloc] at this
  exact this
 replace st0 := Lib.hid st0
 clear hN hX hS hM hcl0 hr hb0
 go_enter Tryz.func90, Tryz.ntmps90
 go_wp2_with (simp only [hu])
 clear u0 l0
 refine (f110 _).mono ?_; rintro e v0 ⟨rfl, hq⟩
 have st1 := Lib.hid (st0.out.cln hq)
 clear hq st0
 have u1 := st1.out.b.cell; have l1 := st1.out.b.lt
 go_wp2_with fail
 clear u1 l1
 refine (f120 _).mono ?_; rintro e v1 ⟨rfl, hq⟩
 have st2 := Lib.hid (st1.out.cln hq)
 clear hq st1
 have u2 := st2.out.b.cell; have l2 := st2.out.b.lt
 go_wp2_with fail
 refine (place_any _ hx _).mono ?_; rintro e w' ⟨rfl, rfl⟩
 go_wp2_with (
  at_builtin
  refine wpList_catP (l1 := [.u k, .b a.must, .s a.key]) (l2 := [.f (fkey a.x)]) rfl _ _ rfl rfl rfl (st2.out.lit _).own (Blk.new _ _ _) rfl rfl (by decide) (by have := l2; simp only [World.size_alloc]; omega) ?_
  intro A2 c2 w2 hown hg
  have st3 := Lib.hid ((st2.out.lit _).grow hown hg)
  clear hown hg u2 l2 st2
  have u3 := st3.out.b.cell; have l3 := st3.out.b.lt)
 clear u3 l3
 refine (f115 _).mono ?_; rintro e v3 ⟨rfl, hq⟩
 have st4 := Lib.hid (st3.out.cln hq)
 clear hq st3
 have u4 := st4.out.b.cell; have l4 := st4.out.b.lt
 go_wp2_with fail
 go_ret
 refine ⟨_, _, _, rfl, ?_, st4.out.cl⟩
 rw [hP.out]
 exact own_parts st4.out.own
set_option maxHeartbeats 8000000 in
theorem aparts_offer (a : MAct) (k : Nat) (hk1 : 1 ≤ k ∧ k ≤ 21) (hN : hasF (k : Int) 110 = false) (hX : hasF (k : Int) 120 = true) (hS : hasF (k : Int) 115 = true) (hM : hasF (k : Int) 109 = false) (he : k ≠ 1)
  (hx : a.x < 18446744073709551616) (hmk : True) (hwf : a.make.WF) (A : Option Addr) (n c : Nat) (w : World) (hr : RdItems w A n a.make.list) :
  Calls Tryz.prog 90 #[.agg #[.int .i64 (k : Int), .string (str a.key), .int .i64 a.n, .float .f64 a.x, .string (str a.s), .int .i64 a.make.kind, .int .i64 a.make.num, .int .i64 a.make.low, .int .i64 a.make.high, .float .f64 a.make.real, .int .i64 a.make.cap, .string (str a.make.text), .slice A n c, .bool a.must]] w (NewParts w (actParts k a)) := by
 have f110 : ∀ W, Calls Tryz.prog 70 #[.int .i64 (k : Int), .int .u8 110] W fun e w' => e = .returned (.bool false) ∧ Cln W w' := fun W => hN ▸ rhas_any k 110 W
 have f120 : ∀ W, Calls Tryz.prog 70 #[.int .i64 (k : Int), .int .u8 120] W fun e w' => e = .returned (.bool true) ∧ Cln W w' := fun W => hX ▸ rhas_any k 120 W
 have f115 : ∀ W, Calls Tryz.prog 70 #[.int .i64 (k : Int), .int .u8 115] W fun e w' => e = .returned (.bool true) ∧ Cln W w' := fun W => hS ▸ rhas_any k 115 W
 have t1 : ((k : Int) == 1) = false := by rw [beq_eq_false_iff_ne]; omega
 replace he := Lib.hid he
 have hu : IntKind.u64.wrap (k : Int) = (k : Int) := IntWalk.u64_in _ (by omega)
 have hP : Hid (actParts k a = [.u k, .b a.must, .s a.key] ++ [.f (fkey a.x)] ++ [.s a.s]) := by unfold Hid actParts; rw [hN, hX, hS, hM]; simp
 have hcl0 : Cln w (w.alloc (.cells #[.int .i64 (k : Int), .string (str a.key), .int .i64 a.n, .float .f64 a.x, .string (str a.s), .int .i64 a.make.kind, .int .i64 a.make.num, .int .i64 a.make.low, .int .i64 a.make.high, .float .f64 a.make.real, .int .i64 a.make.cap, .string (str a.make.text), .slice A n c, .bool a.must] 64)) := by (repeat with_reducible first | exact cR _ | assumption | refine cA ?_ _ | refine cD ?_ | refine cN ?_ _ | refine cS ?_ (by first | omega | (simp <;> omega)) _)
 have hb0 := Blk.new w 64 #[.int .i64 (k : Int), .string (str a.key), .int .i64 a.n, .float .f64 a.x, .string (str a.s), .int .i64 a.make.kind, .int .i64 a.make.num, .int .i64 a.make.low, .int .i64 a.make.high, .float .f64 a.make.real, .int .i64 a.make.cap, .string (str a.make.text), .slice A n c, .bool a.must]
 have u0 := hb0.cell; have l0 := hb0.lt
 have st0 : PSt w #[.int .i64 (k : Int), .string (str a.key), .int .i64 a.n, .float .f64 a.x, .string (str a.s), .int .i64 a.make.kind, .int .i64 a.make.num, .int .i64 a.make.low, .int .i64 a.make.high, .float .f64 a.make.real, .int .i64 a.make.cap, .string (str a.make.text), .slice A n c, .bool a.must] A n a.make.list ((w.alloc (.cells #[.int .i64 (k : Int), .string (str a.key), .int .i64 a.n, .float .f64 a.x, .string (str a.s), .int .i64 a.make.kind, .int .i64 a.make.num, .int .i64 a.make.low, .int .i64 a.make.high, .float .f64 a.make.real, .int .i64 a.make.cap, .string (str a.make.text), .slice A n c, .bool a.must] 64)).alloc (.cells #[.int .u8 117, .int .u64 (k : Nat), .int .i64 0, .int .u64 0, .string ⟨#[]⟩, .bool false, .int .u8 98, .int .u64 0, .int .i64 0, .int .u64 0, .string ⟨#[]⟩, .bool a.must, .int .u8 115, .int .u64 0, .int .i64 0, .int .u64 0, .string (str a.key), .bool false] 113)) (.slice (some ⟨w.heap.size + 1, 0, none⟩) 3 3) 3 [.u k, .b a.must, .s a.key] := by
  refine ⟨by (repeat with_reducible first | exact cR _ | assumption | refine cA ?_ _ | refine cD ?_ | refine cN ?_ _ | refine cS ?_ (by first | omega | (simp <;> omega)) _), hb0.alloc _, ?_, hr.cln (by (repeat with_reducible first | exact cR _ | assumption | refine cA ?_ _ | refine cD ?_ | refine cN ?_ _ | refine cS ?_ (by first | omega | (simp <;> omega)) _)), fun h0 => hr.lo h0⟩
  have := World.ownsRow_lit (base := w.heap.size + 1) (e := 113) (size := 6) (w.alloc (.cells #[.int .i64 (k : Int), .string (str a.key), .int .i64 a.n, .float .f64 a.x, .string (str a.s), .int .i64 a.make.kind, .int .i64 a.make.num, .int .i64 a.make.low, .int .i64 a.make.high, .float .f64 a.make.real, .int .i64 a.make.cap, .string (str a.make.text), .slice A n c, .bool a.must] 64)) #[.int .u8 117, .int .u64 (k : Nat), .int .i64 0, .int .u64 0, .string ⟨#[]⟩, .bool false, .int .u8 98, .int .u64 0, .int .i64 0, .int .u64 0, .string ⟨#[]⟩, .bool a.must, .int .u8 115, .int .u64 0, .int .i64 0, .int .u64 0, .string (str a.key), .bool false] 3 (by rw [World.size_alloc]; omega) (by decide) rfl
  rw [World.size_alloc] at this
  exact this
 replace st0 := Lib.hid st0
 clear hN hX hS hM hcl0 hr hb0
 go_enter Tryz.func90, Tryz.ntmps90
 go_wp2_with (simp only [hu])
 clear u0 l0
 refine (f110 _).mono ?_; rintro e v0 ⟨rfl, hq⟩
 have st1 := Lib.hid (st0.out.cln hq)
 clear hq st0
 have u1 := st1.out.b.cell; have l1 := st1.out.b.lt
 go_wp2_with fail
 clear u1 l1
 refine (f120 _).mono ?_; rintro e v1 ⟨rfl, hq⟩
 have st2 := Lib.hid (st1.out.cln hq)
 clear hq st1
 have u2 := st2.out.b.cell; have l2 := st2.out.b.lt
 go_wp2_with fail
 refine (place_any _ hx _).mono ?_; rintro e w' ⟨rfl, rfl⟩
 go_wp2_with (
  at_builtin
  refine wpList_catP (l1 := [.u k, .b a.must, .s a.key]) (l2 := [.f (fkey a.x)]) rfl _ _ rfl rfl rfl (st2.out.lit _).own (Blk.new _ _ _) rfl rfl (by decide) (by have := l2; simp only [World.size_alloc]; omega) ?_
  intro A2 c2 w2 hown hg
  have st3 := Lib.hid ((st2.out.lit _).grow hown hg)
  clear hown hg u2 l2 st2
  have u3 := st3.out.b.cell; have l3 := st3.out.b.lt)
 clear u3 l3
 refine (f115 _).mono ?_; rintro e v3 ⟨rfl, hq⟩
 have st4 := Lib.hid (st3.out.cln hq)
 clear hq st3
 have u4 := st4.out.b.cell; have l4 := st4.out.b.lt
 go_wp2_with (
  at_builtin
  refine wpList_catP (l1 := [.u k, .b a.must, .s a.key] ++ [.f (fkey a.x)]) (l2 := [.s a.s]) rfl _ _ rfl rfl rfl (st4.out.lit _).own (Blk.new _ _ _) rfl rfl (by decide) (by have := l4; simp only [World.size_alloc]; omega) ?_
  intro A4 c4 w4 hown hg
  have st5 := Lib.hid ((st4.out.lit _).grow hown hg)
  clear hown hg u4 l4 st4
  have u5 := st5.out.b.cell; have l5 := st5.out.b.lt)
 (try go_wp2_with fail)
 go_ret
 refine ⟨_, _, _, rfl, ?_, st5.out.cl⟩
 rw [hP.out]
 exact own_parts st5.out.own
theorem actParts_wf {a : MAct} {k : Nat} (hk : a.kind = (k : Int)) (hck : checkAct a = 0) (hf : FullA a) : ∀ p ∈ actParts k a, p.WF := by
 obtain ⟨h1, h2, h3, h4, hb, h6, h7, h8⟩ := act_ok hck
 have hs := act_s hck
 have hm := hasF_109 k (by omega)
 intro p hp
 unfold actParts at hp
 rcases List.mem_append.1 hp with hp | hp
 ·simp at hp
  rcases hp with rfl | rfl | rfl
  ·show k < _; omega
  ·trivial
  ·show a.key.length ≤ _; omega
 rcases List.mem_append.1 hp with hp | hp
 ·split at hp
  ·simp at hp; subst hp; exact hf.wf.n
  ·cases hp
 rcases List.mem_append.1 hp with hp | hp
 ·split at hp
  ·simp at hp; subst hp; exact fkey_lt _ hf.wf.x
  ·cases hp
 rcases List.mem_append.1 hp with hp | hp
 ·split at hp
  ·simp at hp; subst hp; show a.s.length ≤ _; omega
  ·cases hp
 ·split at hp
  ·rename_i h9
   rw [hm] at h9
   exact recParts_wf (h8 (by have := of_decide_eq_true h9; omega)) ⟨hf.wf.make, hf.sc⟩ p hp
  ·cases hp
theorem actParts_len {a : MAct} {k : Nat} (hk : a.kind = (k : Int)) (hck : checkAct a = 0) : (actParts k a).length ≤ 2000 := by
 obtain ⟨h1, h2, h3, h4, hb, h6, h7, h8⟩ := act_ok hck
 have hm := hasF_109 k (by omega)
 have e : (if hasF k 109 then recParts a.make else []).length ≤ 1000 := by
  split
  ·rename_i h9
   rw [hm] at h9
   exact recParts_len (h8 (by have := of_decide_eq_true h9; omega))
  ·simp
 have e1 : (if hasF k 110 then [MPart.i a.n] else []).length ≤ 1 := by split <;> simp
 have e2 : (if hasF k 120 then [MPart.f (fkey a.x)] else []).length ≤ 1 := by split <;> simp
 have e3 : (if hasF k 115 then [MPart.s a.s] else []).length ≤ 1 := by split <;> simp
 unfold actParts
 simp only [List.length_append, List.length_cons, List.length_nil]
 omega
theorem aparts_any (a : MAct) (k : Nat) (hk : a.kind = (k : Int)) (hck : checkAct a = 0) (hf : a.WF) (A : Option Addr) (n c : Nat) (w : World) (hr : RdItems w A n a.make.list) :
  Calls Tryz.prog 90 #[.agg #[.int .i64 a.kind, .string (str a.key), .int .i64 a.n, .float .f64 a.x, .string (str a.s), .int .i64 a.make.kind, .int .i64 a.make.num, .int .i64 a.make.low, .int .i64 a.make.high, .float .f64 a.make.real, .int .i64 a.make.cap, .string (str a.make.text), .slice A n c, .bool a.must]] w (NewParts w (actParts k a)) := by
 obtain ⟨h1, h2, _, _, _, _, _, h8⟩ := act_ok hck
 rw [hk]
 have hk1 : 1 ≤ k ∧ k ≤ 21 := by omega
 rcases act_class k hk1 with ⟨hN, hX, hS, hM, he⟩ | ⟨hN, hX, hS, hM, he⟩ | ⟨hN, hX, hS, hM, he⟩ | ⟨hN, hX, hS, hM, he⟩ | ⟨hN, hX, hS, hM, he⟩ | ⟨hN, hX, hS, hM, he⟩
 ·exact aparts_none a k hk1 hN hX hS hM he hf.x trivial hf.make A n c w hr
 ·exact aparts_make a k hk1 hN hX hS hM he hf.x (h8 (by omega)) hf.make A n c w hr
 ·exact aparts_text a k hk1 hN hX hS hM he hf.x trivial hf.make A n c w hr
 ·exact aparts_num a k hk1 hN hX hS hM he hf.x trivial hf.make A n c w hr
 ·exact aparts_real a k hk1 hN hX hS hM he hf.x trivial hf.make A n c w hr
 ·exact aparts_offer a k hk1 hN hX hS hM he hf.x trivial hf.make A n c w hr
def dealParts (l : List MAct) : List MPart := .u l.length :: l.flatMap fun a => actParts a.kind.toNat a
theorem kind_nat {a : MAct} (h : checkAct a = 0) : a.kind = ((a.kind.toNat : Nat) : Int) := by have := (act_ok h).1; omega
theorem catActs_parts : ∀ l : List MAct, (∀ a ∈ l, checkAct a = 0) → catParts (l.flatMap fun a => actParts a.kind.toNat a) = l.flatMap wAct
 | [], _ => rfl
 | a :: l, h => by
  have h1 := catParts_act a.kind.toNat a (kind_nat (h a (List.mem_cons_self ..)))
  have h2 := catActs_parts l fun x hx => h x (List.mem_cons_of_mem _ hx)
  unfold catParts at h1 h2 ⊢
  rw [List.flatMap_cons, List.flatMap_cons, List.flatMap_append, h1, h2]
theorem catParts_deal (l : List MAct) (h : ∀ a ∈ l, checkAct a = 0) : catParts (dealParts l) = wDeal l := by
 have h2 := catActs_parts l h
 unfold dealParts wDeal
 unfold catParts at h2 ⊢
 rw [List.flatMap_cons, h2]; rfl
theorem actsParts_len : ∀ l : List MAct, (∀ a ∈ l, checkAct a = 0) → (l.flatMap fun a => actParts a.kind.toNat a).length ≤ 2000 * l.length
 | [], _ => by simp
 | a :: l, h => by
  have h1 := actParts_len (kind_nat (h a (List.mem_cons_self ..))) (h a (List.mem_cons_self ..))
  have h2 := actsParts_len l fun x hx => h x (List.mem_cons_of_mem _ hx)
  simp only [List.flatMap_cons, List.length_append, List.length_cons]
  omega
theorem dealParts_len {l : List MAct} (h : ∀ a ∈ l, checkAct a = 0) (h2 : l.length ≤ 12) : (dealParts l).length ≤ 24001 := by
 have := actsParts_len l h
 unfold dealParts
 rw [List.length_cons]; omega
theorem dealParts_wf {l : List MAct} (h : ∀ a ∈ l, checkAct a = 0) (h2 : l.length ≤ 12) (hf : ∀ a ∈ l, FullA a) : ∀ p ∈ dealParts l, p.WF := by
 intro p hp
 rcases List.mem_cons.1 hp with rfl | hp
 ·show l.length < _; omega
 ·obtain ⟨a, ha, hp⟩ := List.mem_flatMap.1 hp
  exact actParts_wf (kind_nat (h a ha)) (h a ha) (hf a ha) p hp
theorem actParts_pos (k : Nat) (a : MAct) : 0 < (actParts k a).length := by unfold actParts; simp
theorem dealParts_take (l : List MAct) (i : Nat) (h : i < l.length) : (MPart.u l.length :: (l.take (i + 1)).flatMap fun a => actParts a.kind.toNat a) = (MPart.u l.length :: (l.take i).flatMap fun a => actParts a.kind.toNat a) ++ actParts (actAt l i).kind.toNat (actAt l i) := by
 have : l.take (i + 1) = l.take i ++ [actAt l i] := by
  rw [List.take_add_one, List.getElem?_eq_getElem h]; simp [actAt, List.getD, h]
 rw [this]; simp
set_option maxHeartbeats 4000000 in
theorem dparts_any (l : List MAct) (hck : ∀ a ∈ l, checkAct a = 0) (A : Option Addr) (n c : Nat) (hn : n ≤ 12) (w : World) (hr : RdActs w A n l) :
  Calls Tryz.prog 65 #[.agg #[.slice A n c]] w (NewParts w (dealParts l)) := by
 have hlen := hr.len
 have hwr : IntKind.u64.wrap (n : Int) = (n : Int) := IntWalk.u64_in _ (by omega)
 have hd0 := Blk.new w 67 #[.slice A n c]
 have ho0 := World.ownsRow_lit (base := w.heap.size + 1) (e := 113) (size := 6) (w.alloc (.cells #[.slice A n c] 67)) #[.int .u8 117, .int .u64 (n : Nat), .int .i64 0, .int .u64 0, .string ⟨#[]⟩, .bool false] 1 (by rw [World.size_alloc]; omega) (by decide) rfl
 rw [World.size_alloc] at ho0
 have hO0 : Hid (((w.alloc (.cells #[.slice A n c] 67)).alloc (.cells #[.int .u8 117, .int .u64 (n : Nat), .int .i64 0, .int .u64 0, .string ⟨#[]⟩, .bool false] 113)).ownsRow (w.heap.size + 1) 113 6 (.slice (some ⟨w.heap.size + 1, 0, none⟩) 1 1) 1 (partVals (MPart.u l.length :: (l.take 0).flatMap fun a => actParts a.kind.toNat a))) := by
  unfold Hid; rw [hlen]; exact ho0
 have hC0 : Hid (Cln (w.alloc (.cells #[.slice A n c] 67)) ((w.alloc (.cells #[.slice A n c] 67)).alloc (.cells #[.int .u8 117, .int .u64 (n : Nat), .int .i64 0, .int .u64 0, .string ⟨#[]⟩, .bool false] 113))) := by unfold Hid; (repeat with_reducible first | exact cR _ | assumption | refine cA ?_ _ | refine cD ?_ | refine cN ?_ _ | refine cS ?_ (by first | omega | (simp <;> omega)) _)
 have hd0' := Lib.hid hd0
 have hbx : Hid (Cln w (w.alloc (.cells #[.slice A n c] 67))) := by unfold Hid; (repeat with_reducible first | exact cR _ | assumption | refine cA ?_ _ | refine cD ?_ | refine cN ?_ _ | refine cS ?_ (by first | omega | (simp <;> omega)) _)
 have hgr : Hid (∀ (w5 w6 : World) (g : Option Nat), Cln (w.alloc (.cells #[.slice A n c] 67)) w5 → w5.grownBy w6 g → (∀ q, g = some q → w.heap.size + 1 ≤ q) → Cln (w.alloc (.cells #[.slice A n c] 67)) w6) := fun w5 w6 g h hg hq =>
  ((Kept.of_below (S := fun j => w.heap.size + 1 ≤ j) h).trans ((Kept.refl _ w5).grown hg (fun q hq' _ => hq q hq'))).toBelow (Nat.le_refl _) (fun i hi h2 => by simp at hi; omega)
 have hpl := Lib.hid (actsParts_len l hck)
 clear ho0
 have hdc := hd0.cell
 have hdl := hd0.lt
 clear hd0
 go_enter Tryz.func65, Tryz.ntmps65
 go_wp2_with (simp only [hwr])
 clear hdc hdl
 go_loopw [3, 4] (fun vv v wr => ∃ (i N : Nat) (A2 : Option Addr) (c2 : Nat), i ≤ n ∧ vv = .slice A2 N c2 ∧ v = .int .i64 (i : Nat) ∧ Hid (Cln (w.alloc (.cells #[.slice A n c] 67)) wr) ∧ Hid (N = 1 + ((l.take i).flatMap fun a => actParts a.kind.toNat a).length) ∧ Hid (wr.ownsRow (w.heap.size + 1) 113 6 (.slice A2 N c2) N (partVals (MPart.u l.length :: (l.take i).flatMap fun a => actParts a.kind.toNat a)))) (fun _ v _ => (n - intOf v).toNat)
 case atStart => exact ⟨0, 1, _, _, Nat.zero_le _, rfl, rfl, hC0, by simp [Hid], hO0⟩
 case round =>
  clear hC0 hO0
  obtain ⟨i, N, A2, c2, hi, rfl, rfl, hcl0, hN, hO⟩ := hrel
  have hcl := Lib.hid (cln_trans hbx.out hcl0.out)
  have hdb := hd0'.out.cln hcl0.out
  have hdd := hdb.cell
  have hdl := hdb.lt
  by_cases hlt : i < n
  ·have t3 : decide ((i : Int) < (n : Int)) = true := decide_eq_true (by omega)
   obtain ⟨b, o, rfl, hblt, hcell⟩ := hr.rows (by omega)
   obtain ⟨Ai, ni, ci, hc0⟩ := hcell i hlt
   clear hcell
   have hc := hc0.cln hcl.out
   have hwf := Lib.hid hc0.wf
   have hblt2 : b < wr.heap.size := by have := hcl.out.size; omega
   have hca := Lib.hid (hck _ (actAt_mem l i (by omega)))
   have htk := Lib.hid (dealParts_take l i (by omega))
   have hNb : N ≤ 24001 := by
    have h1 := actsParts_len (l.take i) fun a ha => hck a (List.mem_of_mem_take ha)
    rw [List.length_take] at h1
    have := hN.out; omega
   have hN2 : Hid (1 + ((l.take (i + 1)).flatMap fun a => actParts a.kind.toNat a).length = N + (actParts (actAt l i).kind.toNat (actAt l i)).length) := by
    have h1 := congrArg List.length htk.out
    rw [List.length_append, List.length_cons, List.length_cons] at h1
    unfold Hid; have := hN.out; omega
   have hal := actParts_len (kind_nat hca.out) hca.out
   clear hc0 hN
   generalize actAt l i = r at hc hwf hca htk hN2 hal
   have f0 := hc.c0; have f1 := hc.c1; have f2 := hc.c2; have f3 := hc.c3; have f4 := hc.c4; have f5 := hc.c5; have f6 := hc.c6; have f7 := hc.c7; have f8 := hc.c8; have f9 := hc.c9; have f10 := hc.c10; have f11 := hc.c11; have f12 := hc.c12; have f13 := hc.c13
   have hit := Lib.hid hc.it
   clear hc
   go_wp2_with fail
   refine (aparts_any r r.kind.toNat (kind_nat hca.out) hca.out hwf.out Ai ni ci _ (hit.out.cln (by (repeat with_reducible first | exact cR _ | assumption | refine cA ?_ _ | refine cD ?_ | refine cN ?_ _ | refine cS ?_ (by first | omega | (simp <;> omega)) _)))).mono ?_
   rintro e w5 ⟨A5, c5, n5, rfl, hrd, hq⟩
   clear f0 f1 f2 f3 f4 f5 f6 f7 f8 f9 f10 f11 f12 f13
   have hln5 := hrd.len
   have h05 : 0 < n5 := by have := actParts_pos r.kind.toNat r; omega
   have hO5 := own_cln hO.out hq
   have hcl5 := cln_trans hcl0.out hq
   have hsz5 : w.heap.size + 1 ≤ w5.heap.size := by have := hcl5.size; simpa using this
   replace hln5 := Lib.hid hln5
   replace hdb := Lib.hid (hd0'.out.cln hcl5)
   clear hdd hdl hq hit hO hcl0 hcl
   have hdd := hdb.out.cell
   have hdl := hdb.out.lt
   simp only []
   rename_i hKK
   refine hKK _ _ ?_
   refine wpList_catR rfl _ _ rfl rfl rfl hO5 hrd h05 (by have := hln5.out; omega) hsz5 ?_
   intro A6 c6 w6 hown6 hg6
   rw [← htk.out] at hown6
   have hcl6 := Lib.hid (hgr.out _ _ _ hcl5 hg6 (fun q hq => own_lo hO5 q hq))
   replace hown6 := Lib.hid hown6
   clear hdd hdl hg6 hcl5 hO5 hrd hdb hKK
   go_wp2_with fail
   go_roundw
   case rel => exact ⟨i + 1, _, A6, c6, hlt, rfl, by go_num, hcl6, by unfold Hid; rw [hN2.out, hln5.out], hown6⟩
   case measure => simp [intOf]; omega
  ·obtain rfl : i = n := by omega
   have t3 : decide ((i : Int) < (i : Int)) = false := decide_eq_false (by omega)
   rw [List.take_of_length_le (by omega)] at hO
   go_wp2_with fail
   go_ret
   exact ⟨A2, c2, N, rfl, own_parts hO.out, hcl.out⟩
end Go.Proofs.YtbemnfbndjolpaaGreatDoor
