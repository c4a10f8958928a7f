import Derived.Test.YtbemnfbndjolpaaGreatDoorDisks
import Derived.Test.YtbemnfbndjolpaaGreatDoorParts
import Derived.Test.YtbemnfbndjolpaaGreatDoorDiskP
/- The walks of seal.Blank, Seal, Open. (Printed by wip/tools/gen_seal.py.) -/
set_option linter.unusedSimpArgs false
set_option linter.unusedVariables false
set_option maxRecDepth 20000
namespace Go.Proofs.YtbemnfbndjolpaaGreatDoor
open Go.RowKit Moi
theorem wpList_store_newAt {P : Program} {ops : Array Oper} {rest : List Oper} {op : Oper} {a : Act} {w : World} {Q : Exit → Act → World → Prop} (hgd : op.guard = none) (ty : TypeId) (x y : Operand) (ho : op.op = .store ty x y) (b : Nat) (hbw : b = w.heap.size)
  (cur new : Array Value) (n : Nat) (hi : (P.info? ty).map (·.size) = some n) (hc : cur.size = n) (hn : new.size = n) (h1 : new.all (·.oneCell') = true)
  (hx : a.eval x = .pointer (some ⟨b, 0, none⟩)) (hy : a.eval y = .agg new)
  (h : wpList P ops Q rest (a.put op.dst undef) (w.alloc (.cells new ty))) : wpList P ops Q (op :: rest) a (w.alloc (.cells cur ty)) := by
 subst hbw
 exact wpList_store_new hgd ty x y ho cur new n hi hc hn h1 hx hy h
theorem sl_blank (s : List UInt8) (hs : s.length = 64) (W : World) : Calls Tryz.prog 49 #[.agg (byteVals s).toArray] W fun e w' => e = .returned (.bool (s == zsec)) ∧ Cln W w' := by
 have hi79' : Hid ((Tryz.prog.info? 79).map (·.size) = some 64) := by unfold Hid; kernel_rfl
 obtain ⟨i8, hi8, _⟩ : ∃ i, Tryz.prog.info? 5 = some i ∧ True := by
  cases h : Tryz.prog.info? 5 with
  | none => exact absurd (congrArg Option.isSome h) (by rw [show (Tryz.prog.info? 5).isSome = true from by kernel_rfl]; decide)
  | some i => exact ⟨i, rfl, trivial⟩
 have hE : ∀ w, (Op.equalIn 10000 79 (.agg (byteVals s).toArray) (.agg #[.int .u8 0, .int .u8 0, .int .u8 0, .int .u8 0, .int .u8 0, .int .u8 0, .int .u8 0, .int .u8 0, .int .u8 0, .int .u8 0, .int .u8 0, .int .u8 0, .int .u8 0, .int .u8 0, .int .u8 0, .int .u8 0, .int .u8 0, .int .u8 0, .int .u8 0, .int .u8 0, .int .u8 0, .int .u8 0, .int .u8 0, .int .u8 0, .int .u8 0, .int .u8 0, .int .u8 0, .int .u8 0, .int .u8 0, .int .u8 0, .int .u8 0, .int .u8 0, .int .u8 0, .int .u8 0, .int .u8 0, .int .u8 0, .int .u8 0, .int .u8 0, .int .u8 0, .int .u8 0, .int .u8 0, .int .u8 0, .int .u8 0, .int .u8 0, .int .u8 0, .int .u8 0, .int .u8 0, .int .u8 0, .int .u8 0, .int .u8 0, .int .u8 0, .int .u8 0, .int .u8 0, .int .u8 0, .int .u8 0, .int .u8 0, .int .u8 0, .int .u8 0, .int .u8 0, .int .u8 0, .int .u8 0, .int .u8 0, .int .u8 0, .int .u8 0])).run Tryz.prog w = .ok (s == zsec) w := fun w => run_eq_sec w Tryz.underlying79 hi8 (by kernel_rfl) Tryz.underlying5 s zsec hs blank_len
 have hG : Tryz.prog.eqGuardType Tryz.prog.depth 79 = false := by kernel_rfl
 have hr : Hid ((W.alloc (.cells (byteVals s).toArray 79)).rangeAt W.heap.size 0 (byteVals s)) := fun j v hv => by rw [Nat.zero_add, (Blk.new W 79 (byteVals s).toArray).cell]; simpa using hv
 have hl : Hid ((Tryz.prog.info? 79).map (·.size) = some (byteVals s).length) := by unfold Hid; rw [hi79'.out, byteVals_length, hs]
 go_enter Tryz.func49, Tryz.ntmps49
 go_wp2_with (first | ((with_reducible refine wpList_load_mid rfl 79 _ rfl W.heap.size 0 ?hx (byteVals s) _ hr.out Tryz.underlying79 rfl hl.out ?_); (case hx => rfl)))
 go_ret
 exact ⟨rfl, by (repeat with_reducible first | exact cR _ | assumption | refine cA ?_ _ | refine cD ?_ | refine cN ?_ _ | refine cS ?_ (by first | omega | (simp <;> omega)) _)⟩
def sealArr (n : Nat) : Array Value := #[.int .u8 1, .int .u8 (n : Nat), .int .u8 0, .int .u8 0, .int .u8 0, .int .u8 0, .int .u8 0, .int .u8 0, .int .u8 0, .int .u8 0, .int .u8 0, .int .u8 0, .int .u8 0, .int .u8 0, .int .u8 0, .int .u8 0, .int .u8 0, .int .u8 0, .int .u8 0, .int .u8 0, .int .u8 0, .int .u8 0, .int .u8 0, .int .u8 0, .int .u8 0, .int .u8 0, .int .u8 0, .int .u8 0, .int .u8 0, .int .u8 0, .int .u8 0, .int .u8 0, .int .u8 0, .int .u8 0, .int .u8 0, .int .u8 0, .int .u8 0, .int .u8 0, .int .u8 0, .int .u8 0, .int .u8 0, .int .u8 0, .int .u8 0, .int .u8 0, .int .u8 0, .int .u8 0, .int .u8 0, .int .u8 0, .int .u8 0, .int .u8 0, .int .u8 0, .int .u8 0, .int .u8 0, .int .u8 0, .int .u8 0, .int .u8 0, .int .u8 0, .int .u8 0, .int .u8 0, .int .u8 0, .int .u8 0, .int .u8 0, .int .u8 0, .int .u8 1]
def sealBase (n : Nat) : List UInt8 := 1 :: UInt8.ofNat n :: (List.replicate 61 0 ++ [1])
theorem sealArr_eq (n : Nat) (h : n ≤ 61) : sealArr n = (byteVals (sealBase n)).toArray := by
 have e : ((UInt8.ofNat n).toNat : Int) = (n : Int) := by simp; omega
 unfold sealArr sealBase byteVals
 simp only [List.map_cons, e]
 rfl
theorem setMany_app : ∀ (cs xs : List Value) (o : Nat), o + cs.length ≤ xs.length → setMany xs o cs = xs.take o ++ (cs ++ xs.drop (o + cs.length)) := fun cs xs o h => by
 apply List.ext_getElem?
 intro k
 rw [setMany_get]
 by_cases h1 : k < o
 ·rw [if_neg (by omega), List.getElem?_append_left (by simp; omega), List.getElem?_take_of_lt h1]
 ·rw [List.getElem?_append_right (by simp; omega)]
  have e : (xs.take o).length = o := by simp; omega
  rw [e]
  by_cases h2 : k < o + cs.length
  ·rw [if_pos (by omega), List.getElem?_append_left (by omega)]
  ·rw [if_neg (by omega), List.getElem?_append_right (by omega), List.getElem?_drop]
   congr 1; omega
theorem seal_set (bs : List UInt8) (h : bs.length ≤ 61) : setMany (byteVals (sealBase bs.length)) 2 (byteVals bs) = byteVals (wrapS bs) := by
 rw [setMany_app _ _ _ (by simp [byteVals, sealBase]; omega), byteVals_length]
 have e1 : (byteVals (sealBase bs.length)).take 2 = byteVals [1, UInt8.ofNat bs.length] := rfl
 have e2 : (byteVals (sealBase bs.length)).drop (2 + bs.length) = byteVals (List.replicate (61 - bs.length) 0 ++ [1]) := by
  unfold byteVals sealBase
  rw [← List.map_drop, show 2 + bs.length = bs.length + 1 + 1 from by omega, List.drop_succ_cons, List.drop_succ_cons, List.drop_append_of_le_length (by simp; omega), List.drop_replicate]
 rw [e1, e2, ← byteVals_append, ← byteVals_append]
 rfl
theorem setCells_blk {b t : Nat} : ∀ (cs : List Value) {w : World} {o : Nat} {cur : Array Value}, Blk w b t cur → Blk (w.setCells b o cs) b t (setMany cur.toList o cs).toArray
 | [], _, _, _, h => by simpa [setMany, World.setCells] using h
 | v :: r, w, o, cur, h => by
  rw [World.setCells, setMany]
  have := setCells_blk r (o := o + 1) (h.set_ o v)
  rw [Array.toList_setIfInBounds] at this
  exact this
theorem copy_bytes {w : World} {sb : Nat} {A : Option Addr} {n c : Nat} {bs : List UInt8} {cur : Array Value} (hr : RdBytes w A n bs) (hb : Blk w sb 79 cur) (hc : cur.size = 64) (hn : n ≤ 61) (ty : TypeId) :
  (Builtin.copy_ #[33, 33] ty #[.slice (some ⟨sb, 2, none⟩) 62 62, .slice A n c]).run Tryz.prog w = .ok (.int .i64 (n : Nat)) (w.setCells sb 2 (byteVals bs)) := by
 have hlen := hr.len
 by_cases h0 : n = 0
 ·subst h0
  have : bs = [] := List.eq_nil_of_length_eq_zero hlen
  subst this
  have := run_copy_none (P := Tryz.prog) w 33 33 ty 5 (some ⟨sb, 2, none⟩) A 62 62 0 c Tryz.underlying33 (by kernel_rfl) (by decide)
  simpa [byteVals, World.setCells, goInt] using this
 ·obtain ⟨b, o, rfl, _, hcell⟩ := hr.cells (by omega)
  have hmin : (byteVals bs).length = Nat.min n 62 := by rw [byteVals_length, hlen]; exact (Nat.min_eq_left (by omega)).symm
  have := run_copy_cells (P := Tryz.prog) w 33 33 ty 5 sb 2 62 62 ⟨b, o, none⟩ n c (byteVals bs) Tryz.underlying33 (by kernel_rfl) hmin (fun j v hv => by
   have hj : j < n := by have := (List.getElem?_eq_some_iff.1 hv).1; rw [byteVals_length, hlen] at this; exact this
   rw [Addr.add_mid, hcell j hj, ← hv]
   simp [byteVals, byteAt, show j < bs.length by omega]) (fun j hj => by rw [byteVals_length, hlen] at hj; rw [hb.cell, Array.getElem?_eq_getElem (by omega)]; rfl) (fun j hj => hb.frozen _) (fun v hv => by obtain ⟨x, _, rfl⟩ := List.mem_map.1 hv; rfl)
  rw [byteVals_length, hlen] at this
  exact this
set_option maxHeartbeats 4000000 in
theorem sl_seal {A : Option Addr} {n c : Nat} {bs : List UInt8} {W : World} (hr : RdBytes W A n bs) (hn : n ≤ 61) : Calls Tryz.prog 31 #[.slice A n c] W fun e w' => e = .returned (.tuple #[.agg (byteVals (wrapS bs)).toArray, .int .i64 0]) ∧ Cln W w' := by
 have hi79' : Hid ((Tryz.prog.info? 79).map (·.size) = some 64) := by unfold Hid; kernel_rfl
 have hlen := hr.len
 have t1 : decide (61 < (n : Int)) = false := decide_eq_false (by omega)
 have tu : IntKind.u8.wrap (n : Int) = (n : Int) := by simp [IntKind.wrap, IntKind.bits, IntKind.signed]; omega
 have hb0 : Blk ((W.alloc (.cells #[.int .u8 0, .int .u8 0, .int .u8 0, .int .u8 0, .int .u8 0, .int .u8 0, .int .u8 0, .int .u8 0, .int .u8 0, .int .u8 0, .int .u8 0, .int .u8 0, .int .u8 0, .int .u8 0, .int .u8 0, .int .u8 0, .int .u8 0, .int .u8 0, .int .u8 0, .int .u8 0, .int .u8 0, .int .u8 0, .int .u8 0, .int .u8 0, .int .u8 0, .int .u8 0, .int .u8 0, .int .u8 0, .int .u8 0, .int .u8 0, .int .u8 0, .int .u8 0, .int .u8 0, .int .u8 0, .int .u8 0, .int .u8 0, .int .u8 0, .int .u8 0, .int .u8 0, .int .u8 0, .int .u8 0, .int .u8 0, .int .u8 0, .int .u8 0, .int .u8 0, .int .u8 0, .int .u8 0, .int .u8 0, .int .u8 0, .int .u8 0, .int .u8 0, .int .u8 0, .int .u8 0, .int .u8 0, .int .u8 0, .int .u8 0, .int .u8 0, .int .u8 0, .int .u8 0, .int .u8 0, .int .u8 0, .int .u8 0, .int .u8 0, .int .u8 0] 79)).alloc (.cells (sealArr n) 79)) W.heap.size 79 zeroArr := (Blk.new W 79 zeroArr).alloc _
 have hb1 : Blk ((W.alloc (.cells #[.int .u8 0, .int .u8 0, .int .u8 0, .int .u8 0, .int .u8 0, .int .u8 0, .int .u8 0, .int .u8 0, .int .u8 0, .int .u8 0, .int .u8 0, .int .u8 0, .int .u8 0, .int .u8 0, .int .u8 0, .int .u8 0, .int .u8 0, .int .u8 0, .int .u8 0, .int .u8 0, .int .u8 0, .int .u8 0, .int .u8 0, .int .u8 0, .int .u8 0, .int .u8 0, .int .u8 0, .int .u8 0, .int .u8 0, .int .u8 0, .int .u8 0, .int .u8 0, .int .u8 0, .int .u8 0, .int .u8 0, .int .u8 0, .int .u8 0, .int .u8 0, .int .u8 0, .int .u8 0, .int .u8 0, .int .u8 0, .int .u8 0, .int .u8 0, .int .u8 0, .int .u8 0, .int .u8 0, .int .u8 0, .int .u8 0, .int .u8 0, .int .u8 0, .int .u8 0, .int .u8 0, .int .u8 0, .int .u8 0, .int .u8 0, .int .u8 0, .int .u8 0, .int .u8 0, .int .u8 0, .int .u8 0, .int .u8 0, .int .u8 0, .int .u8 0] 79)).alloc (.cells (sealArr n) 79)) (W.heap.size + 1) 79 (sealArr n) := by
  have := Blk.new (W.alloc (.cells #[.int .u8 0, .int .u8 0, .int .u8 0, .int .u8 0, .int .u8 0, .int .u8 0, .int .u8 0, .int .u8 0, .int .u8 0, .int .u8 0, .int .u8 0, .int .u8 0, .int .u8 0, .int .u8 0, .int .u8 0, .int .u8 0, .int .u8 0, .int .u8 0, .int .u8 0, .int .u8 0, .int .u8 0, .int .u8 0, .int .u8 0, .int .u8 0, .int .u8 0, .int .u8 0, .int .u8 0, .int .u8 0, .int .u8 0, .int .u8 0, .int .u8 0, .int .u8 0, .int .u8 0, .int .u8 0, .int .u8 0, .int .u8 0, .int .u8 0, .int .u8 0, .int .u8 0, .int .u8 0, .int .u8 0, .int .u8 0, .int .u8 0, .int .u8 0, .int .u8 0, .int .u8 0, .int .u8 0, .int .u8 0, .int .u8 0, .int .u8 0, .int .u8 0, .int .u8 0, .int .u8 0, .int .u8 0, .int .u8 0, .int .u8 0, .int .u8 0, .int .u8 0, .int .u8 0, .int .u8 0, .int .u8 0, .int .u8 0, .int .u8 0, .int .u8 0] 79)) 79 (sealArr n)
  rw [World.size_alloc] at this; exact this
 have hks : Cln W ((W.alloc (.cells #[.int .u8 0, .int .u8 0, .int .u8 0, .int .u8 0, .int .u8 0, .int .u8 0, .int .u8 0, .int .u8 0, .int .u8 0, .int .u8 0, .int .u8 0, .int .u8 0, .int .u8 0, .int .u8 0, .int .u8 0, .int .u8 0, .int .u8 0, .int .u8 0, .int .u8 0, .int .u8 0, .int .u8 0, .int .u8 0, .int .u8 0, .int .u8 0, .int .u8 0, .int .u8 0, .int .u8 0, .int .u8 0, .int .u8 0, .int .u8 0, .int .u8 0, .int .u8 0, .int .u8 0, .int .u8 0, .int .u8 0, .int .u8 0, .int .u8 0, .int .u8 0, .int .u8 0, .int .u8 0, .int .u8 0, .int .u8 0, .int .u8 0, .int .u8 0, .int .u8 0, .int .u8 0, .int .u8 0, .int .u8 0, .int .u8 0, .int .u8 0, .int .u8 0, .int .u8 0, .int .u8 0, .int .u8 0, .int .u8 0, .int .u8 0, .int .u8 0, .int .u8 0, .int .u8 0, .int .u8 0, .int .u8 0, .int .u8 0, .int .u8 0, .int .u8 0] 79)).alloc (.cells (sealArr n) 79)) := by (repeat with_reducible first | exact cR _ | assumption | refine cA ?_ _ | refine cD ?_ | refine cN ?_ _ | refine cS ?_ (by first | omega | (simp <;> omega)) _)
 have hcp := copy_bytes (c := c) (hr.cln hks) hb1 rfl hn 3
 have hk2 := setCells_kept (W.heap.size + 1) (byteVals bs) 2 ((W.alloc (.cells #[.int .u8 0, .int .u8 0, .int .u8 0, .int .u8 0, .int .u8 0, .int .u8 0, .int .u8 0, .int .u8 0, .int .u8 0, .int .u8 0, .int .u8 0, .int .u8 0, .int .u8 0, .int .u8 0, .int .u8 0, .int .u8 0, .int .u8 0, .int .u8 0, .int .u8 0, .int .u8 0, .int .u8 0, .int .u8 0, .int .u8 0, .int .u8 0, .int .u8 0, .int .u8 0, .int .u8 0, .int .u8 0, .int .u8 0, .int .u8 0, .int .u8 0, .int .u8 0, .int .u8 0, .int .u8 0, .int .u8 0, .int .u8 0, .int .u8 0, .int .u8 0, .int .u8 0, .int .u8 0, .int .u8 0, .int .u8 0, .int .u8 0, .int .u8 0, .int .u8 0, .int .u8 0, .int .u8 0, .int .u8 0, .int .u8 0, .int .u8 0, .int .u8 0, .int .u8 0, .int .u8 0, .int .u8 0, .int .u8 0, .int .u8 0, .int .u8 0, .int .u8 0, .int .u8 0, .int .u8 0, .int .u8 0, .int .u8 0, .int .u8 0, .int .u8 0] 79)).alloc (.cells (sealArr n) 79))
 have hb2 := hb0.kept hk2 (by simp)
 have hb3 := setCells_blk (byteVals bs) (o := 2) hb1
 rw [sealArr_eq n hn] at hb3
 have hw64 : (wrapS bs).length = 64 := wrapS_len bs (by omega)
 rw [show (byteVals (sealBase n)).toArray.toList = byteVals (sealBase bs.length) from by rw [hlen], seal_set bs (by omega)] at hb3
 rw [← sealArr_eq n hn] at hb3
 have hr3 : Hid (World.rangeAt _ (W.heap.size + 1) 0 (byteVals (wrapS bs))) := fun j v hv => by rw [Nat.zero_add, hb3.cell]; simpa using hv
 have hl3 : Hid ((Tryz.prog.info? 79).map (·.size) = some (byteVals (wrapS bs)).length) := by unfold Hid; rw [hi79'.out, byteVals_length, hw64]
 have hzs : zeroArr.size = 64 := rfl
 have hns : (sealArr n).size = 64 := rfl
 have hbw := Lib.hid (show W.heap.size + 1 = (W.alloc (.cells #[.int .u8 0, .int .u8 0, .int .u8 0, .int .u8 0, .int .u8 0, .int .u8 0, .int .u8 0, .int .u8 0, .int .u8 0, .int .u8 0, .int .u8 0, .int .u8 0, .int .u8 0, .int .u8 0, .int .u8 0, .int .u8 0, .int .u8 0, .int .u8 0, .int .u8 0, .int .u8 0, .int .u8 0, .int .u8 0, .int .u8 0, .int .u8 0, .int .u8 0, .int .u8 0, .int .u8 0, .int .u8 0, .int .u8 0, .int .u8 0, .int .u8 0, .int .u8 0, .int .u8 0, .int .u8 0, .int .u8 0, .int .u8 0, .int .u8 0, .int .u8 0, .int .u8 0, .int .u8 0, .int .u8 0, .int .u8 0, .int .u8 0, .int .u8 0, .int .u8 0, .int .u8 0, .int .u8 0, .int .u8 0, .int .u8 0, .int .u8 0, .int .u8 0, .int .u8 0, .int .u8 0, .int .u8 0, .int .u8 0, .int .u8 0, .int .u8 0, .int .u8 0, .int .u8 0, .int .u8 0, .int .u8 0, .int .u8 0, .int .u8 0, .int .u8 0] 79)).heap.size from (World.size_alloc _ _).symm)
 have hno : (sealArr n).all (·.oneCell') = true := by rw [sealArr_eq n hn]; exact sec_one _
 have hws := sec_size hw64
 have hwo := sec_one (wrapS bs)
 have hcl : Hid (Cln W (((W.alloc (.cells #[.int .u8 0, .int .u8 0, .int .u8 0, .int .u8 0, .int .u8 0, .int .u8 0, .int .u8 0, .int .u8 0, .int .u8 0, .int .u8 0, .int .u8 0, .int .u8 0, .int .u8 0, .int .u8 0, .int .u8 0, .int .u8 0, .int .u8 0, .int .u8 0, .int .u8 0, .int .u8 0, .int .u8 0, .int .u8 0, .int .u8 0, .int .u8 0, .int .u8 0, .int .u8 0, .int .u8 0, .int .u8 0, .int .u8 0, .int .u8 0, .int .u8 0, .int .u8 0, .int .u8 0, .int .u8 0, .int .u8 0, .int .u8 0, .int .u8 0, .int .u8 0, .int .u8 0, .int .u8 0, .int .u8 0, .int .u8 0, .int .u8 0, .int .u8 0, .int .u8 0, .int .u8 0, .int .u8 0, .int .u8 0, .int .u8 0, .int .u8 0, .int .u8 0, .int .u8 0, .int .u8 0, .int .u8 0, .int .u8 0, .int .u8 0, .int .u8 0, .int .u8 0, .int .u8 0, .int .u8 0, .int .u8 0, .int .u8 0, .int .u8 0, .int .u8 0] 79)).alloc (.cells (sealArr n) 79)).setCells (W.heap.size + 1) 2 (byteVals bs))) := ((Kept.of_below (S := fun k => k = W.heap.size + 1) hks).trans hk2).toBelow (Nat.le_refl _) (fun k hk e => by have e : k = W.heap.size + 1 := e; omega)
 replace hb2 := Lib.hid hb2; replace hb3 := Lib.hid hb3; replace hb0 := Lib.hid hb0; replace hb1 := Lib.hid hb1
 replace hk2 := Lib.hid hk2; replace hks := Lib.hid hks
 go_enter Tryz.func31, Tryz.ntmps31
 go_wp2_with (first | ((with_reducible refine wpList_store_newAt rfl 79 _ _ rfl (W.heap.size + 1) hbw.out _ (sealArr n) 64 hi79'.out ?hcz hns hno ?hx ?hy ?_); (case hcz => rfl); (case hx => rfl); (case hy => rfl)) | ((with_reducible refine wpList_load_mid rfl 79 _ rfl (W.heap.size + 1) 0 ?hx (byteVals (wrapS bs)) _ hr3.out Tryz.underlying79 rfl hl3.out ?_); (case hx => rfl)) | ((with_reducible refine wpList_store_row rfl 79 _ _ rfl W.heap.size zeroArr (byteVals (wrapS bs)).toArray 64 hb2.out hi79'.out hzs hws hwo ?hx ?hy ?_); (case hx => rfl); (case hy => rfl)))
 refine bodyPost_ret (v := .tuple #[.agg (byteVals (wrapS bs)).toArray, .int .i64 0]) ?_ rfl ⟨rfl, ?_⟩
 ·exact results_dk Tryz.results31 _ _ W.heap.size 79 (byteVals (wrapS bs)).toArray _ rfl (setRow_blk hb2.out _) Tryz.underlying79 rfl (by rw [hi79'.out, hws])
 ·exact ((Kept.of_below (S := fun k => W.heap.size ≤ k) hcl.out).trans ((setRow_kept _ W.heap.size _).mono (fun k _ e => Nat.le_of_eq e.symm))).toBelow (Nat.le_refl _) (fun k hk e => by have e : W.heap.size ≤ k := e; omega)
def SOpenPost (W : World) (r : Option (List UInt8)) (e : Ending) (w' : World) : Prop :=
 Cln W w' ∧ match r with
 | none => e = .returned (.tuple #[.slice none 0 0, .bool false])
 | some b => ∃ A c, e = .returned (.tuple #[.slice A b.length c, .bool true]) ∧ w'.ownsRow W.heap.size 5 1 (.slice A b.length c) b.length (byteVals b)
theorem slice_sec (b l h : Nat) (h1 : l ≤ h) (h2 : h ≤ 64) (hl : l < 64) (w : World) : (Instr.sliceAt 79 (.pointer (some ⟨b, 0, none⟩)) (some (.int .i64 (l : Nat))) (some (.int .i64 (h : Nat))) none).run Tryz.prog w = .ok (.slice (some ⟨b, l, none⟩) (h - l) (64 - l)) w := by
 have ha : Tryz.prog.arrayLen 79 = 64 := by kernel_rfl
 have he : Tryz.prog.elem 79 = 5 := by kernel_rfl
 obtain ⟨i8, hi8, hsz⟩ : ∃ i, Tryz.prog.info? 5 = some i ∧ i.size = 1 := by
  have : (Tryz.prog.info? 5).map (·.size) = some 1 := by kernel_rfl
  obtain ⟨i, h1, h2⟩ := Option.map_eq_some_iff.1 this
  exact ⟨i, h1, h2⟩
 rw [run_sliceAt_array_lh w 79 ⟨b, 0, none⟩ (by rw [ha, he]; exact Tryz.underlying79) .i64 .i64 (l : Int) (h : Int) (by omega) (by omega) (by rw [ha]; omega), ha, he]
 have hs : (sizeOf 5).run Tryz.prog w = .ok 1 w := by simp [sizeOf, typeInfo, hi8, hsz]
 rw [hs, Result.andThen_ok]
 simp only [slicedAt, Int.toNat_natCast]
 rw [if_neg (by omega), Addr.add_mid]
 simp
theorem stop_here {p : Prop} (h : Hid p) : p := h
theorem all_zero (s : List UInt8) (n : Nat) : ((s.drop (2 + n)).take (61 - n)).all (· == 0) = true ↔ ∀ j, j < 61 - n → s.getD (2 + n + j) 0 = 0 := by
 rw [List.all_eq_true]
 constructor
 ·intro h j hj
  rw [List.getD_eq_getElem?_getD]
  by_cases hl : 2 + n + j < s.length
  ·rw [List.getElem?_eq_getElem hl, Option.getD_some]
   have := h s[2 + n + j] (by
    refine List.mem_iff_getElem?.2 ⟨j, ?_⟩
    rw [List.getElem?_take_of_lt hj, List.getElem?_drop, List.getElem?_eq_getElem hl])
   simpa using this
  ·rw [List.getElem?_eq_none (by omega)]; rfl
 ·intro h x hx
  obtain ⟨j, hj⟩ := List.mem_iff_getElem?.1 hx
  have hjl : j < 61 - n := by
   have := (List.getElem?_eq_some_iff.1 hj).1
   simp at this; omega
  rw [List.getElem?_take_of_lt hjl, List.getElem?_drop] at hj
  have := h j hjl
  rw [List.getD_eq_getElem?_getD, hj] at this
  simpa using this
theorem openS_def (s : Sec) : openS s = if s.getD 0 0 ≠ 1 ∨ s.getD 63 0 ≠ 1 ∨ 61 < byteAt s 1 then none else if (∀ j, j < 61 - byteAt s 1 → s.getD (2 + byteAt s 1 + j) 0 = 0) then some ((s.drop 2).take (byteAt s 1)) else none := by
 unfold openS
 simp only [all_zero]
 rfl
theorem byte_one (s : List UInt8) (i : Nat) : s.getD i 0 = 1 ↔ byteAt s i = 1 := ⟨fun h => by unfold byteAt; rw [h]; rfl, fun h => UInt8.toNat_inj.1 (by unfold byteAt at h; rw [h]; rfl)⟩
theorem byte_zero (s : List UInt8) (i : Nat) : s.getD i 0 = 0 ↔ byteAt s i = 0 := ⟨fun h => by unfold byteAt; rw [h]; rfl, fun h => UInt8.toNat_inj.1 (by unfold byteAt at h; rw [h]; rfl)⟩
set_option maxHeartbeats 4000000 in
theorem sl_open (s : List UInt8) (hs : s.length = 64) (W : World) : Calls Tryz.prog 68 #[.agg (byteVals s).toArray] W (SOpenPost W (openS s)) := by
 have hb0 := Blk.new W 79 (byteVals s).toArray
 have hc : ∀ i, i < 64 → (W.alloc (.cells (byteVals s).toArray 79)).cell? ⟨W.heap.size, i, none⟩ = some (.int .u8 (byteAt s i : Nat)) := fun i hi => by
  rw [hb0.cell]; simp [byteVals, byteAt, show i < s.length by omega]
 have d0 := hc 0 (by decide); have d1 := hc 1 (by decide); have d63 := hc 63 (by decide)
 have hlt := byteAt_lt s 1
 have hk0 : Cln W (W.alloc (.cells (byteVals s).toArray 79)) := by (repeat with_reducible first | exact cR _ | assumption | refine cA ?_ _ | refine cD ?_ | refine cN ?_ _ | refine cS ?_ (by first | omega | (simp <;> omega)) _)
 have hdef := Lib.hid (openS_def s)
 have tw : IntKind.i64.wrap (byteAt s 1 : Int) = (byteAt s 1 : Int) := by simp [IntKind.wrap, IntKind.bits, IntKind.signed]; omega
 have hbH := Lib.hid hb0; have hcH := Lib.hid hc; have hkH := Lib.hid hk0
 clear hb0 hc hk0
 by_cases h0 : byteAt s 0 = 1
 case neg =>
  have t0 : ((byteAt s 0 : Int) != 1) = true := by rw [bne_iff_ne]; omega
  have hfin : Hid (openS s = none) := by unfold Hid; rw [hdef.out, if_pos (.inl (fun e => h0 ((byte_one s 0).1 e)))]
  clear h0
  go_enter Tryz.func68, Tryz.ntmps68
  go_wp2_with fail
  go_ret2
  exact ⟨hkH.out, by rw [hfin.out]; rfl⟩
 have t0 : ((byteAt s 0 : Int) != 1) = false := by rw [h0]; decide
 have h0H := Lib.hid h0
 clear h0
 by_cases h63 : byteAt s 63 = 1
 case neg =>
  have t63 : ((byteAt s 63 : Int) != 1) = true := by rw [bne_iff_ne]; omega
  have hfin : Hid (openS s = none) := by unfold Hid; rw [hdef.out, if_pos (.inr (.inl (fun e => h63 ((byte_one s 63).1 e))))]
  clear h63
  go_enter Tryz.func68, Tryz.ntmps68
  go_wp2_with fail
  go_ret2
  exact ⟨hkH.out, by rw [hfin.out]; rfl⟩
 have t63 : ((byteAt s 63 : Int) != 1) = false := by rw [h63]; decide
 have h63H := Lib.hid h63
 clear h63
 by_cases h61 : 61 < byteAt s 1
 case pos =>
  have t61 : decide (61 < (byteAt s 1 : Int)) = true := decide_eq_true (by omega)
  have hfin : Hid (openS s = none) := by unfold Hid; rw [hdef.out, if_pos (.inr (.inr h61))]
  clear h61
  go_enter Tryz.func68, Tryz.ntmps68
  go_wp2_with fail
  go_ret2
  exact ⟨hkH.out, by rw [hfin.out]; rfl⟩
 have t61 : decide (61 < (byteAt s 1 : Int)) = false := decide_eq_false (by omega)
 have hdef2 : Hid (openS s = if (∀ j, j < 61 - byteAt s 1 → s.getD (2 + byteAt s 1 + j) 0 = 0) then some ((s.drop 2).take (byteAt s 1)) else none) := by
  unfold Hid; rw [hdef.out, if_neg]
  intro h
  rcases h with h | h | h
  ·exact h ((byte_one s 0).2 h0H.out)
  ·exact h ((byte_one s 63).2 h63H.out)
  ·exact h61 h
 clear hdef h0H h63H
 generalize hn : byteAt s 1 = n at *
 replace hn := Lib.hid hn
 have hn61 : n ≤ 61 := by omega
 have hsl1 : ∀ w, (Instr.sliceAt 79 (.pointer (some ⟨W.heap.size, 0, none⟩)) (some (.int .i64 (2 + (n : Int)))) (some (.int .i64 63)) none).run Tryz.prog w = .ok (.slice (some ⟨W.heap.size, 2 + n, none⟩) (61 - n) (62 - n)) w := fun w => by
  have := slice_sec W.heap.size (2 + n) 63 (by omega) (by omega) (by omega) w
  rw [show 63 - (2 + n) = 61 - n from by omega, show 64 - (2 + n) = 62 - n from by omega] at this
  exact this
 have hsl2 : ∀ w, (Instr.sliceAt 79 (.pointer (some ⟨W.heap.size, 0, none⟩)) (some (.int .i64 2)) (some (.int .i64 (2 + (n : Int)))) none).run Tryz.prog w = .ok (.slice (some ⟨W.heap.size, 2, none⟩) n 62) w := fun w => by
  have := slice_sec W.heap.size 2 (2 + n) (by omega) (by omega) (by omega) w
  rw [show 2 + n - 2 = n from by omega] at this
  exact this
 go_enter Tryz.func68, Tryz.ntmps68
 go_wp2_with (simp only [hsl1])
 go_loopw [26] (fun v wr => ∃ i : Nat, i ≤ 61 - n ∧ v = .int .i64 (i : Nat) ∧ Hid (∀ j, j < i → byteAt s (2 + n + j) = 0) ∧ Hid (Cln W wr) ∧ Hid (Blk wr W.heap.size 79 (byteVals s).toArray)) (fun v _ => (((61 - n : Nat) : Int) - intOf v).toNat)
 case atStart => exact ⟨0, Nat.zero_le _, rfl, fun j hj => by omega, Lib.hid (cln_trans hkH.out (by (repeat with_reducible first | exact cR _ | assumption | refine cA ?_ _ | refine cD ?_ | refine cN ?_ _ | refine cS ?_ (by first | omega | (simp <;> omega)) _))), Lib.hid (hbH.out.cln (by (repeat with_reducible first | exact cR _ | assumption | refine cA ?_ _ | refine cD ?_ | refine cN ?_ _ | refine cS ?_ (by first | omega | (simp <;> omega)) _)))⟩
 case round =>
  clear d0 d1 d63 hsl1 hbH hcH hkH
  obtain ⟨i, hi, rfl, hz, hcl, hb⟩ := hrel
  by_cases hil : i < 61 - n
  ·have t1 : decide ((i : Int) < ((61 - n : Nat) : Int)) = true := decide_eq_true (by omega)
   have hcell : wr.cell? ⟨W.heap.size, 2 + n + i, none⟩ = some (.int .u8 (byteAt s (2 + n + i) : Nat)) := by rw [hb.out.cell]; simp [byteVals, byteAt, show 2 + n + i < s.length by omega]
   have ig1 : (0 : Int) ≤ (i : Int) := by omega
   have ig2 : (i : Int) < ((61 - n : Nat) : Int) := by omega
   by_cases h0 : byteAt s (2 + n + i) = 0
   ·have t2 : ((byteAt s (2 + n + i) : Int) != 0) = false := by rw [h0]; decide
    have hz' : Hid (∀ j, j < i + 1 → byteAt s (2 + n + j) = 0) := fun j hj => by
     rcases Nat.lt_or_ge j i with h | h
     ·exact hz.out j h
     ·obtain rfl : j = i := by omega
      exact h0
    clear h0
    have tw2 : wrap64 ((i : Int) + 1) = (i : Int) + 1 := by unfold wrap64; omega
    go_wp2_with fail
    go_roundw
    case rel => exact ⟨i + 1, hil, by first | (rw [tw2]; simp) | simp, hz', hcl, hb⟩
    case measure => first | (rw [tw2]; exact meas_lt _ _ hil) | exact meas_lt _ _ hil
   ·have t2 : ((byteAt s (2 + n + i) : Int) != 0) = true := by rw [bne_iff_ne]; omega
    have hfin : Hid (openS s = none) := by unfold Hid; rw [hdef2.out, if_neg (fun h => h0 ((byte_zero s _).1 (h i hil)))]
    clear h0
    go_wp2_with fail
    go_ret2
    exact ⟨hcl.out, by rw [hfin.out]; rfl⟩
  ·obtain rfl : i = 61 - n := by omega
   have t1 : decide (((61 - n : Nat) : Int) < ((61 - n : Nat) : Int)) = false := decide_eq_false (by omega)
   have hfin : Hid (openS s = some ((s.drop 2).take n)) := by unfold Hid; rw [hdef2.out, if_pos (fun j hj => (byte_zero s _).2 (hz.out j hj))]
   have hsz : W.heap.size ≤ wr.heap.size := hcl.out.size
   have hown : Hid ((wr.alloc (.cells #[] 5)).ownsRow W.heap.size 5 1 (.slice (some ⟨wr.heap.size, 0, none⟩) 0 0) 0 (byteVals [])) := ⟨rfl, .inr ⟨wr.heap.size, 0, #[], rfl, hsz, Blk.new wr 5 #[], Nat.le_refl _, Nat.zero_le _, rfl, rfl⟩⟩
   have hrd : Hid (RdBytes (wr.alloc (.cells #[] 5)) (some ⟨W.heap.size, 2, none⟩) n ((s.drop 2).take n)) := by
    refine ⟨by simp; omega, fun ad e => by injection e with e; subst e; rfl, fun _ => ⟨W.heap.size, 2, rfl, (hb.out.alloc _).lt, fun j hj => ?_⟩⟩
    rw [(hb.out.alloc _).cell]
    have : ((s.drop 2).take n).getD j 0 = s.getD (2 + j) 0 := by rw [List.getD_eq_getElem?_getD, List.getElem?_take_of_lt hj, List.getElem?_drop, ← List.getD_eq_getElem?_getD]
    unfold byteAt
    rw [this]
    simp [byteVals, show 2 + j < s.length by omega]
   have hbase : W.heap.size ≤ (wr.alloc (.cells #[] 5)).heap.size := by simp; omega
   have hlen : ((s.drop 2).take n).length = n := by simp; omega
   have hnb : 0 + n ≤ 140737488355328 := by omega
   clear hz hdef2
   go_wp2_with (first | (simp only [hsl2]) | (at_builtin; apply stop_here))
   refine Hid.out ?_
   show wpList _ _ _ _ _ _
   refine wpList_catB rfl _ _ rfl rfl rfl hown.out hrd.out hnb hbase ?_
   intro A' c' w' hown' hgr'
   rw [Nat.zero_add, List.nil_append] at hown'
   rw [Nat.zero_add]
   have hkc : Cln W w' := (((Kept.of_below (S := fun k => W.heap.size ≤ k) hcl.out).alloc (.cells #[] 5)).grown hgr' (fun k e h => by have e : some wr.heap.size = some k := e; injection e with e; omega)).toBelow (Nat.le_refl _) (fun k hk e => by have e : W.heap.size ≤ k := e; omega)
   replace hown' := Lib.hid hown'
   clear hgr' hown hrd hcl hb
   replace hkc := Lib.hid hkc
   go_wp2_with fail
   go_ret2
   refine ⟨hkc.out, ?_⟩
   rw [hfin.out]
   refine ⟨A', c', ?_, ?_⟩
   ·rw [hlen]; rfl
   ·rw [hlen]; exact hown'.out
theorem rl_need (n : Nat) (h : n ≤ 140737488355328) (W : World) : Calls Tryz.prog 29 #[.int .i64 (n : Nat)] W fun e w' => e = .returned (.int .i64 (needS n : Nat)) ∧ Cln W w' := by
 have tw1 : wrap64 ((n : Int) + 60) = (n : Int) + 60 := by unfold wrap64; omega
 have tw2 : wrap64 ((n : Int) + 60 - 1) = (n : Int) + 59 := by unfold wrap64; omega
 go_enter Tryz.func29, Tryz.ntmps29
 go_wp2_with fail
 all_goals
  go_ret
  refine ⟨congrArg (fun z : Int => Ending.returned (Value.int .i64 z)) ?_, by (repeat with_reducible first | exact cR _ | assumption | refine cA ?_ _ | refine cD ?_ | refine cN ?_ _ | refine cS ?_ (by first | omega | (simp <;> omega)) _)⟩
  unfold needS
  omega
theorem rl_left {W : World} {rb pb : Nat} {fr ln a : Nat} (hb : Blk W rb 77 #[.pointer (some ⟨pb, 0, none⟩), .int .i64 (fr : Nat), .int .i64 (ln : Nat), .int .i64 (a : Nat)]) (hl : ln ≤ 4096) (ha : a ≤ ln) :
  Calls Tryz.prog 30 #[.pointer (some ⟨rb, 0, none⟩)] W fun e w' => e = .returned (.int .i64 ((ln - a : Nat) : Nat)) ∧ Cln W w' := by
 have c2 := hb.cell 2; have c3 := hb.cell 3; have hlt := hb.lt
 have tw : wrap64 ((ln : Int) - (a : Int)) = ((ln - a : Nat) : Int) := by unfold wrap64; omega
 go_enter Tryz.func30, Tryz.ntmps30
 go_wp2_with fail
 go_quiet (fail)
 go_wp2_with fail
 go_ret
 refine ⟨congrArg (fun z : Int => Ending.returned (Value.int .i64 z)) ?_, by (repeat with_reducible first | exact cR _ | assumption | refine cA ?_ _ | refine cD ?_ | refine cN ?_ _ | refine cS ?_ (by first | omega | (simp <;> omega)) _)⟩
 omega
theorem rl_sync {W : World} {rb lo pb : Nat} {d : MDisk} {v1 v2 v3 : Value} (h : IsDisk W lo pb d) (hd : d.down = false) (hb : Blk W rb 77 #[.pointer (some ⟨pb, 0, none⟩), v1, v2, v3]) :
  Calls Tryz.prog 10 #[.pointer (some ⟨rb, 0, none⟩)] W fun e w' => e = .returned (.int .i64 0) ∧ IsDisk w' lo pb d.sync ∧ DStep pb W w' := by
 have c0 := hb.cell 0; have hlt := hb.lt
 have hS := dk_sync h hd
 go_enter Tryz.func10, Tryz.ntmps10
 go_wp2_with fail
 refine hS.mono ?_; rintro e w1 ⟨rfl, h1, h2⟩
 replace h1 := Lib.hid h1; replace h2 := Lib.hid h2
 clear c0 hlt hS h hb
 go_wp2_with fail
 go_ret
 exact ⟨rfl, h1.out, h2.out⟩
theorem rl_fits {W : World} {lo pb : Nat} {d : MDisk} (h : IsDisk W lo pb d) (fr ln : Nat) (h1 : 1 ≤ ln) (h2 : fr + ln ≤ d.firm.length) : Calls Tryz.prog 46 #[.pointer (some ⟨pb, 0, none⟩), .agg #[.int .i64 (fr : Nat), .int .i64 (ln : Nat)]] W fun e w' => e = .returned (.bool true) ∧ Cln W w' := by
 have hk0 : Cln W (W.alloc (.cells #[.int .i64 (fr : Nat), .int .i64 (ln : Nat)] 29)) := by (repeat with_reducible first | exact cR _ | assumption | refine cA ?_ _ | refine cD ?_ | refine cN ?_ _ | refine cS ?_ (by first | omega | (simp <;> omega)) _)
 have hL : ∀ W' : World, Cln W W' → Calls Tryz.prog 67 #[.pointer (some ⟨pb, 0, none⟩)] W' fun e w' => e = .returned (.int .i64 (d.firm.length : Nat)) ∧ Cln W' w' := fun W' k => dk_len (h.cln k)
 have hp := h.pos.2
 have t1 : decide (0 ≤ ((fr : Nat) : Int)) = true := decide_eq_true (by omega)
 have t2 : decide (1 ≤ ((ln : Nat) : Int)) = true := decide_eq_true (by omega)
 have t3 : decide (((fr : Nat) : Int) < (d.firm.length : Int)) = true := decide_eq_true (by omega)
 have t4 : decide (((ln : Nat) : Int) ≤ (d.firm.length : Int) - (fr : Int)) = true := decide_eq_true (by omega)
 have tw : wrap64 ((d.firm.length : Int) - (fr : Int)) = (d.firm.length : Int) - (fr : Int) := by unfold wrap64; omega
 have tw2 : IntKind.i64.wrap ((d.firm.length : Int) - (fr : Int)) = (d.firm.length : Int) - (fr : Int) := by simp [IntKind.wrap, IntKind.bits, IntKind.signed]; omega
 have t3' : decide (fr < d.firm.length) = true := decide_eq_true (by omega)
 have t3'' : fr < d.firm.length := by omega
 generalize d.firm.length = nn at *
 go_enter Tryz.func46, Tryz.ntmps46
 go_wp2_with fail
 refine wp_region_held_drew (S := fun W' => W'.cell? ⟨W.heap.size, 0, none⟩ = some (.int .i64 (fr : Nat)) ∧ W'.cell? ⟨W.heap.size, 1, none⟩ = some (.int .i64 (ln : Nat)) ∧ Hid (Cln W W')) (by kernel_rfl) ?hSf (fun hHeld => ?_)
 case hSf => exact ⟨(Blk.new W 29 #[.int .i64 (fr : Nat), .int .i64 (ln : Nat)]).cell 0, (Blk.new W 29 #[.int .i64 (fr : Nat), .int .i64 (ln : Nat)]).cell 1, Below.drew hk0⟩
 refine wpAnyH_take (i := 0) (oi := { dst := some 5, op := Op.fieldAddr 29 (Operand.tmp 3) 0, type := 0, pos := "roll.go:24", after := #[], guard := none }) (v := ?v1) rfl (by kernel_rfl) (by kernel_rfl) (by kernel_rfl) (fun _ _ _ h => h) (Or.inl ⟨by rfl, ?hy1⟩) (by assumption) ?rest1
 case hy1 => intro w hSw; (try dsimp only at hSw); go_simp <;> with_reducible rfl
 try simp only [Act.put, List.setIfInBounds_toArray, List.set_cons_zero, List.set_cons_succ]
 refine wpAnyH_take (i := 1) (oi := { dst := some 6, op := Op.load 3 (Operand.tmp 5), type := 3, pos := "roll.go:24", after := #[{ on := 0, ground := Ground.data }], guard := none }) (v := ?v2) rfl (by kernel_rfl) (by kernel_rfl) (by kernel_rfl) (fun _ _ _ h => h) (Or.inl ⟨by rfl, ?hy2⟩) (by assumption) ?rest2
 case hy2 => intro w hSw; (try dsimp only at hSw); go_simp <;> with_reducible rfl
 try simp only [Act.put, List.setIfInBounds_toArray, List.set_cons_zero, List.set_cons_succ]
 refine wpAnyH_take (i := 2) (oi := { dst := some 7, op := Op.binOp BinOp.geq 3 (Operand.tmp 6) (Operand.const (Value.int IntKind.i64 0)) 3, type := 4, pos := "roll.go:24", after := #[{ on := 1, ground := Ground.data }], guard := none }) (v := ?v3) rfl (by kernel_rfl) (by kernel_rfl) (by kernel_rfl) (fun _ _ _ h => h) (Or.inl ⟨by rfl, ?hy3⟩) (by assumption) ?rest3
 case hy3 => intro w hSw; (try dsimp only at hSw); go_simp <;> with_reducible rfl
 try simp only [Act.put, List.setIfInBounds_toArray, List.set_cons_zero, List.set_cons_succ]
 refine wpAnyH_take (i := 3) (oi := { dst := some 8, op := Op.move (Operand.tmp 7), type := 4, pos := "roll.go:24", after := #[{ on := 2, ground := Ground.data }], guard := none }) (v := ?v4) rfl (by kernel_rfl) (by kernel_rfl) (by kernel_rfl) (fun _ _ _ h => h) (Or.inl ⟨by rfl, ?hy4⟩) (by assumption) ?rest4
 case hy4 => intro w hSw; (try dsimp only at hSw); go_simp <;> with_reducible rfl
 try simp only [Act.put, List.setIfInBounds_toArray, List.set_cons_zero, List.set_cons_succ]
 refine wpAnyH_take (i := 4) (oi := { dst := some 9, op := Op.fieldAddr 29 (Operand.tmp 3) 1, type := 0, pos := "roll.go:24", after := #[{ on := 3, ground := Ground.guard }], guard := some (3, true) }) (v := ?v5) rfl (by kernel_rfl) (by kernel_rfl) (by kernel_rfl) (fun _ _ _ h => h) (Or.inl ⟨by rfl, ?hy5⟩) (by assumption) ?rest5
 case hy5 => intro w hSw; (try dsimp only at hSw); go_simp <;> with_reducible rfl
 try simp only [Act.put, List.setIfInBounds_toArray, List.set_cons_zero, List.set_cons_succ]
 refine wpAnyH_take (i := 5) (oi := { dst := some 10, op := Op.load 3 (Operand.tmp 9), type := 3, pos := "roll.go:24", after := #[{ on := 4, ground := Ground.data }, { on := 3, ground := Ground.guard }], guard := some (3, true) }) (v := ?v6) rfl (by kernel_rfl) (by kernel_rfl) (by kernel_rfl) (fun _ _ _ h => h) (Or.inl ⟨by rfl, ?hy6⟩) (by assumption) ?rest6
 case hy6 => intro w hSw; (try dsimp only at hSw); go_simp <;> with_reducible rfl
 try simp only [Act.put, List.setIfInBounds_toArray, List.set_cons_zero, List.set_cons_succ]
 refine wpAnyH_take (i := 6) (oi := { dst := some 11, op := Op.binOp BinOp.geq 3 (Operand.tmp 10) (Operand.const (Value.int IntKind.i64 1)) 3, type := 4, pos := "roll.go:24", after := #[{ on := 5, ground := Ground.data }, { on := 3, ground := Ground.guard }], guard := some (3, true) }) (v := ?v7) rfl (by kernel_rfl) (by kernel_rfl) (by kernel_rfl) (fun _ _ _ h => h) (Or.inl ⟨by rfl, ?hy7⟩) (by assumption) ?rest7
 case hy7 => intro w hSw; (try dsimp only at hSw); go_simp <;> with_reducible rfl
 try simp only [Act.put, List.setIfInBounds_toArray, List.set_cons_zero, List.set_cons_succ]
 refine wpAnyH_take (i := 7) (oi := { dst := some 12, op := Op.pick (Operand.tmp 8) (Operand.tmp 11) (Operand.const (Value.bool false)), type := 4, pos := "roll.go:24", after := #[{ on := 3, ground := Ground.data }, { on := 6, ground := Ground.data }], guard := none }) (v := ?v8) rfl (by kernel_rfl) (by kernel_rfl) (by kernel_rfl) (fun _ _ _ h => h) (Or.inl ⟨by rfl, ?hy8⟩) (by assumption) ?rest8
 case hy8 => intro w hSw; (try dsimp only at hSw); go_simp <;> with_reducible rfl
 try simp only [Act.put, List.setIfInBounds_toArray, List.set_cons_zero, List.set_cons_succ]
 refine wpAnyH_take (i := 8) (oi := { dst := some 13, op := Op.move (Operand.tmp 12), type := 4, pos := "roll.go:24", after := #[{ on := 7, ground := Ground.data }, { on := 3, ground := Ground.chain }], guard := none }) (v := ?v9) rfl (by kernel_rfl) (by kernel_rfl) (by kernel_rfl) (fun _ _ _ h => h) (Or.inl ⟨by rfl, ?hy9⟩) (by assumption) ?rest9
 case hy9 => intro w hSw; (try dsimp only at hSw); go_simp <;> with_reducible rfl
 try simp only [Act.put, List.setIfInBounds_toArray, List.set_cons_zero, List.set_cons_succ]
 refine wpAnyH_take (i := 9) (oi := { dst := some 14, op := Op.fieldAddr 29 (Operand.tmp 3) 0, type := 0, pos := "roll.go:24", after := #[{ on := 8, ground := Ground.guard }], guard := some (8, true) }) (v := ?v10) rfl (by kernel_rfl) (by kernel_rfl) (by kernel_rfl) (fun _ _ _ h => h) (Or.inl ⟨by rfl, ?hy10⟩) (by assumption) ?rest10
 case hy10 => intro w hSw; (try dsimp only at hSw); go_simp <;> with_reducible rfl
 try simp only [Act.put, List.setIfInBounds_toArray, List.set_cons_zero, List.set_cons_succ]
 refine wpAnyH_take (i := 10) (oi := { dst := some 15, op := Op.load 3 (Operand.tmp 14), type := 3, pos := "roll.go:24", after := #[{ on := 9, ground := Ground.data }, { on := 8, ground := Ground.guard }], guard := some (8, true) }) (v := ?v11) rfl (by kernel_rfl) (by kernel_rfl) (by kernel_rfl) (fun _ _ _ h => h) (Or.inl ⟨by rfl, ?hy11⟩) (by assumption) ?rest11
 case hy11 => intro w hSw; (try dsimp only at hSw); go_simp <;> with_reducible rfl
 try simp only [Act.put, List.setIfInBounds_toArray, List.set_cons_zero, List.set_cons_succ]
 refine wpAnyH_take (i := 11) (oi := { dst := some 16, op := Op.move (Operand.tmp 0), type := 24, pos := "roll.go:24", after := #[{ on := 8, ground := Ground.guard }], guard := some (8, true) }) (v := ?v12) rfl (by kernel_rfl) (by kernel_rfl) (by kernel_rfl) (fun _ _ _ h => h) (Or.inl ⟨by rfl, ?hy12⟩) (by assumption) ?rest12
 case hy12 => intro w hSw; (try dsimp only at hSw); go_simp <;> with_reducible rfl
 try simp only [Act.put, List.setIfInBounds_toArray, List.set_cons_zero, List.set_cons_succ]
 refine wpAnyH_ready (rs := [12]) (by kernel_rfl) (by simp) ?_
 refine AllReadyH.cons (o := { dst := some 17, op := Op.call { callee := Callee.value (Operand.func 67), args := #[Operand.tmp 16], argTypes := #[24] }, type := 3, pos := "roll.go:24", after := #[{ on := 11, ground := Ground.data }, { on := 8, ground := Ground.chain }, { on := 8, ground := Ground.guard }], guard := some (8, true) }) rfl (fun K hK => ?_) AllReadyH.nil
 go_simp
 go_at_call 67; with_reducible refine (hL _ hHeld.2.2.out).mono ?_; rintro e w' ⟨rfl, hq⟩
 (try go_wp2_with fail)
 have hkq := Kept.of_below (S := fun _ => False) hq
 refine hK.out _ _ ?_ (fun hHeld2 => ?_)
 ·exact ⟨hkq.cell hHeld.1 id, hkq.cell hHeld.2.1 id, Lib.hid (cln_trans hHeld.2.2.out hq)⟩
 clear hK K hq hkq hHeld
 replace hHeld := hHeld2
 clear hHeld2
 try simp only [Act.put, List.setIfInBounds_toArray, List.set_cons_zero, List.set_cons_succ]
 refine wpAnyH_take (i := 13) (oi := { dst := some 18, op := Op.binOp BinOp.lss 3 (Operand.tmp 15) (Operand.tmp 17) 3, type := 4, pos := "roll.go:24", after := #[{ on := 10, ground := Ground.data }, { on := 12, ground := Ground.data }, { on := 8, ground := Ground.guard }], guard := some (8, true) }) (v := ?v13) rfl (by kernel_rfl) (by kernel_rfl) (by kernel_rfl) (fun _ _ _ h => h) (Or.inl ⟨by rfl, ?hy13⟩) (by assumption) ?rest13
 case hy13 => intro w hSw; (try dsimp only at hSw); go_simp <;> with_reducible rfl
 try simp only [Act.put, List.setIfInBounds_toArray, List.set_cons_zero, List.set_cons_succ]
 refine wpAnyH_take (i := 14) (oi := { dst := some 19, op := Op.pick (Operand.tmp 13) (Operand.tmp 18) (Operand.const (Value.bool false)), type := 4, pos := "roll.go:24", after := #[{ on := 8, ground := Ground.data }, { on := 13, ground := Ground.data }], guard := none }) (v := ?v14) rfl (by kernel_rfl) (by kernel_rfl) (by kernel_rfl) (fun _ _ _ h => h) (Or.inl ⟨by rfl, ?hy14⟩) (by assumption) ?rest14
 case hy14 => intro w hSw; (try dsimp only at hSw); go_simp <;> with_reducible rfl
 try simp only [Act.put, List.setIfInBounds_toArray, List.set_cons_zero, List.set_cons_succ]
 refine wpAnyH_take (i := 15) (oi := { dst := some 20, op := Op.move (Operand.tmp 19), type := 4, pos := "roll.go:24", after := #[{ on := 14, ground := Ground.data }, { on := 12, ground := Ground.chain }], guard := none }) (v := ?v15) rfl (by kernel_rfl) (by kernel_rfl) (by kernel_rfl) (fun _ _ _ h => h) (Or.inl ⟨by rfl, ?hy15⟩) (by assumption) ?rest15
 case hy15 => intro w hSw; (try dsimp only at hSw); go_simp <;> with_reducible rfl
 try simp only [Act.put, List.setIfInBounds_toArray, List.set_cons_zero, List.set_cons_succ]
 refine wpAnyH_take (i := 16) (oi := { dst := some 21, op := Op.fieldAddr 29 (Operand.tmp 3) 1, type := 0, pos := "roll.go:24", after := #[{ on := 15, ground := Ground.guard }], guard := some (15, true) }) (v := ?v16) rfl (by kernel_rfl) (by kernel_rfl) (by kernel_rfl) (fun _ _ _ h => h) (Or.inl ⟨by rfl, ?hy16⟩) (by assumption) ?rest16
 case hy16 => intro w hSw; (try dsimp only at hSw); go_simp <;> with_reducible rfl
 try simp only [Act.put, List.setIfInBounds_toArray, List.set_cons_zero, List.set_cons_succ]
 refine wpAnyH_take (i := 17) (oi := { dst := some 22, op := Op.load 3 (Operand.tmp 21), type := 3, pos := "roll.go:24", after := #[{ on := 16, ground := Ground.data }, { on := 15, ground := Ground.guard }], guard := some (15, true) }) (v := ?v17) rfl (by kernel_rfl) (by kernel_rfl) (by kernel_rfl) (fun _ _ _ h => h) (Or.inl ⟨by rfl, ?hy17⟩) (by assumption) ?rest17
 case hy17 => intro w hSw; (try dsimp only at hSw); go_simp <;> with_reducible rfl
 try simp only [Act.put, List.setIfInBounds_toArray, List.set_cons_zero, List.set_cons_succ]
 refine wpAnyH_take (i := 18) (oi := { dst := some 23, op := Op.move (Operand.tmp 0), type := 24, pos := "roll.go:24", after := #[{ on := 15, ground := Ground.guard }], guard := some (15, true) }) (v := ?v18) rfl (by kernel_rfl) (by kernel_rfl) (by kernel_rfl) (fun _ _ _ h => h) (Or.inl ⟨by rfl, ?hy18⟩) (by assumption) ?rest18
 case hy18 => intro w hSw; (try dsimp only at hSw); go_simp <;> with_reducible rfl
 try simp only [Act.put, List.setIfInBounds_toArray, List.set_cons_zero, List.set_cons_succ]
 refine wpAnyH_take (i := 20) (oi := { dst := some 25, op := Op.fieldAddr 29 (Operand.tmp 3) 0, type := 0, pos := "roll.go:24", after := #[{ on := 15, ground := Ground.guard }], guard := some (15, true) }) (v := ?v19) rfl (by kernel_rfl) (by kernel_rfl) (by kernel_rfl) (fun _ _ _ h => h) (Or.inl ⟨by rfl, ?hy19⟩) (by assumption) ?rest19
 case hy19 => intro w hSw; (try dsimp only at hSw); go_simp <;> with_reducible rfl
 try simp only [Act.put, List.setIfInBounds_toArray, List.set_cons_zero, List.set_cons_succ]
 refine wpAnyH_take (i := 21) (oi := { dst := some 26, op := Op.load 3 (Operand.tmp 25), type := 3, pos := "roll.go:24", after := #[{ on := 20, ground := Ground.data }, { on := 15, ground := Ground.guard }], guard := some (15, true) }) (v := ?v20) rfl (by kernel_rfl) (by kernel_rfl) (by kernel_rfl) (fun _ _ _ h => h) (Or.inl ⟨by rfl, ?hy20⟩) (by assumption) ?rest20
 case hy20 => intro w hSw; (try dsimp only at hSw); go_simp <;> with_reducible rfl
 try simp only [Act.put, List.setIfInBounds_toArray, List.set_cons_zero, List.set_cons_succ]
 refine wpAnyH_ready (rs := [19]) (by kernel_rfl) (by simp) ?_
 refine AllReadyH.cons (o := { dst := some 24, op := Op.call { callee := Callee.value (Operand.func 67), args := #[Operand.tmp 23], argTypes := #[24] }, type := 3, pos := "roll.go:24", after := #[{ on := 18, ground := Ground.data }, { on := 15, ground := Ground.chain }, { on := 15, ground := Ground.guard }], guard := some (15, true) }) rfl (fun K hK => ?_) AllReadyH.nil
 go_simp
 go_at_call 67; with_reducible refine (hL _ hHeld.2.2.out).mono ?_; rintro e w' ⟨rfl, hq⟩
 (try go_wp2_with fail)
 have hkq := Kept.of_below (S := fun _ => False) hq
 refine hK.out _ _ ?_ (fun hHeld2 => ?_)
 ·exact ⟨hkq.cell hHeld.1 id, hkq.cell hHeld.2.1 id, Lib.hid (cln_trans hHeld.2.2.out hq)⟩
 clear hK K hq hkq hHeld
 replace hHeld := hHeld2
 clear hHeld2
 try simp only [Act.put, List.setIfInBounds_toArray, List.set_cons_zero, List.set_cons_succ]
 refine wpAnyH_take (i := 22) (oi := { dst := some 27, op := Op.binOp BinOp.sub 3 (Operand.tmp 24) (Operand.tmp 26) 3, type := 3, pos := "roll.go:24", after := #[{ on := 19, ground := Ground.data }, { on := 21, ground := Ground.data }, { on := 15, ground := Ground.guard }], guard := some (15, true) }) (v := ?v21) rfl (by kernel_rfl) (by kernel_rfl) (by kernel_rfl) (fun _ _ _ h => h) (Or.inl ⟨by rfl, ?hy21⟩) (by assumption) ?rest21
 case hy21 => intro w hSw; (try dsimp only at hSw); go_simp <;> with_reducible rfl
 try simp only [Act.put, List.setIfInBounds_toArray, List.set_cons_zero, List.set_cons_succ]
 refine wpAnyH_take (i := 23) (oi := { dst := some 28, op := Op.binOp BinOp.leq 3 (Operand.tmp 22) (Operand.tmp 27) 3, type := 4, pos := "roll.go:24", after := #[{ on := 17, ground := Ground.data }, { on := 22, ground := Ground.data }, { on := 15, ground := Ground.guard }], guard := some (15, true) }) (v := ?v22) rfl (by kernel_rfl) (by kernel_rfl) (by kernel_rfl) (fun _ _ _ h => h) (Or.inl ⟨by rfl, ?hy22⟩) (by assumption) ?rest22
 case hy22 => intro w hSw; (try dsimp only at hSw); go_simp <;> with_reducible rfl
 try simp only [Act.put, List.setIfInBounds_toArray, List.set_cons_zero, List.set_cons_succ]
 refine wpAnyH_take (i := 24) (oi := { dst := some 29, op := Op.pick (Operand.tmp 20) (Operand.tmp 28) (Operand.const (Value.bool false)), type := 4, pos := "roll.go:24", after := #[{ on := 15, ground := Ground.data }, { on := 23, ground := Ground.data }], guard := none }) (v := ?v23) rfl (by kernel_rfl) (by kernel_rfl) (by kernel_rfl) (fun _ _ _ h => h) (Or.inl ⟨by rfl, ?hy23⟩) (by assumption) ?rest23
 case hy23 => intro w hSw; (try dsimp only at hSw); go_simp <;> with_reducible rfl
 try simp only [Act.put, List.setIfInBounds_toArray, List.set_cons_zero, List.set_cons_succ]
 refine wpAnyH_take (i := 25) (oi := { dst := some 4, op := Op.assign (Operand.tmp 29), type := 4, pos := "roll.go:24", after := #[{ on := 24, ground := Ground.data }, { on := 19, ground := Ground.chain }, { on := 0, ground := Ground.phase }, { on := 1, ground := Ground.phase }, { on := 2, ground := Ground.phase }, { on := 3, ground := Ground.phase }, { on := 4, ground := Ground.phase }, { on := 5, ground := Ground.phase }, { on := 6, ground := Ground.phase }, { on := 7, ground := Ground.phase }, { on := 8, ground := Ground.phase }, { on := 9, ground := Ground.phase }, { on := 10, ground := Ground.phase }, { on := 11, ground := Ground.phase }, { on := 12, ground := Ground.phase }, { on := 13, ground := Ground.phase }, { on := 14, ground := Ground.phase }, { on := 15, ground := Ground.phase }, { on := 16, ground := Ground.phase }, { on := 17, ground := Ground.phase }, { on := 18, ground := Ground.phase }, { on := 19, ground := Ground.phase }, { on := 20, ground := Ground.phase }, { on := 21, ground := Ground.phase }, { on := 22, ground := Ground.phase }, { on := 23, ground := Ground.phase }, { on := 24, ground := Ground.phase }], guard := none }) (v := ?v24) rfl (by kernel_rfl) (by kernel_rfl) (by kernel_rfl) (fun _ _ _ h => h) (Or.inl ⟨by rfl, ?hy24⟩) (by assumption) ?rest24
 case hy24 => intro w hSw; (try dsimp only at hSw); go_simp <;> with_reducible rfl
 try simp only [Act.put, List.setIfInBounds_toArray, List.set_cons_zero, List.set_cons_succ]
 refine wpAnyH_done (by kernel_rfl) ?_ _
 have hcl := hHeld.2.2
 clear hHeld
 go_wp2_with fail
 go_ret
 refine ⟨congrArg (fun z : Bool => Ending.returned (Value.bool z)) ?_, hcl.out⟩
 first | exact decide_eq_true (by omega) | (simp; done) | (simp; omega)
def wipeGo : Nat → MDisk → Nat → Bool → MDisk × Bool
 | 0, d, _, b => (d, b)
 | n + 1, d, i, b => if d.cur.getD i zsec = zsec then wipeGo n d (i + 1) b else wipeGo n (d.write i zsec) (i + 1) true
def wipeD (d : MDisk) (fr n : Nat) : MDisk := if (wipeGo n d fr false).2 then (wipeGo n d fr false).1.sync else (wipeGo n d fr false).1
structure WipeSt (W wr : World) (lo pb : Nat) (d dk : MDisk) (fr n k : Nat) (b : Bool) : Prop where
 disk : IsDisk wr lo pb dk
 step : DStep pb W wr
 rest : wipeGo n d fr false = wipeGo (n - k) dk (fr + k) b
 up : dk.down = false
 left : dk.left = 0
 wr0 : 0 ≤ dk.writes
 wr1 : dk.writes ≤ d.writes + k
 pend : dk.pend.length ≤ d.pend.length + k
 firm : dk.firm.length = d.firm.length
theorem wrap_succ (k n : Nat) (h : k < n) (hn : n ≤ 4096) : wrap64 ((k : Int) + 1) = (k : Int) + 1 := by unfold wrap64; omega
theorem WipeSt.next {W wr w3 : World} {lo pb : Nat} {d dk : MDisk} {fr n k : Nat} {b : Bool} (h : WipeSt W wr lo pb d dk fr n k b) (hD : IsDisk w3 lo pb dk) (hS : DStep pb W w3) (hN : wipeGo n d fr false = wipeGo (n - (k + 1)) dk (fr + (k + 1)) b) : WipeSt W w3 lo pb d dk fr n (k + 1) b :=
 ⟨hD, hS, hN, h.up, h.left, h.wr0, by have := h.wr1; omega, by have := h.pend; omega, h.firm⟩
theorem WipeSt.down {W wr : World} {lo pb : Nat} {d dk : MDisk} {fr n k : Nat} {b : Bool} (h : WipeSt W wr lo pb d dk fr n k b) (i : Nat) : (dk.write i zsec).down = false := by
 unfold MDisk.write; simp only; rw [h.left]; exact h.up
theorem WipeSt.num {W wr : World} {lo pb : Nat} {d dk : MDisk} {fr n k : Nat} {b : Bool} (h : WipeSt W wr lo pb d dk fr n k b) (hk : k < n) (hw : d.writes + n ≤ 1000000000) (hp : d.pend.length + n ≤ 1000000) : (0 ≤ dk.left ∧ dk.left ≤ 1000000000 ∧ 0 ≤ dk.writes ∧ dk.writes ≤ 1000000000) ∧ dk.pend.length ≤ 1000000 := by
 have h1 := h.wr1; have h2 := h.pend; have h3 := h.left; have h4 := h.wr0
 omega
theorem WipeSt.write {W wr w4 : World} {lo pb : Nat} {d dk : MDisk} {fr n k : Nat} {b : Bool} (h : WipeSt W wr lo pb d dk fr n k b) (hD : IsDisk w4 lo pb (dk.write (fr + k) zsec)) (hS : DStep pb W w4) (hN : wipeGo n d fr false = wipeGo (n - (k + 1)) (dk.write (fr + k) zsec) (fr + (k + 1)) true) : WipeSt W w4 lo pb d (dk.write (fr + k) zsec) fr n (k + 1) true := by
 refine ⟨hD, hS, hN, h.down _, ?_, ?_, ?_, ?_, h.firm⟩
 ·show (if 0 < dk.left then dk.left - 1 else dk.left) = 0
  rw [h.left]; rfl
 ·show 0 ≤ dk.writes + 1
  have := h.wr0; omega
 ·show dk.writes + 1 ≤ d.writes + ((k + 1 : Nat) : Int)
  have := h.wr1; omega
 ·show (dk.pend ++ [(fr + k, zsec)]).length ≤ d.pend.length + (k + 1)
  have := h.pend; simp; omega
theorem okAt_in {d : MDisk} {i : Nat} (h : d.down = false) (hi : i < d.firm.length) : d.okAt (i : Int) = 0 := by
 unfold MDisk.okAt; rw [if_neg (by rw [h]; decide), if_neg (by omega)]
set_option maxHeartbeats 4000000 in
theorem sl_wipe {W : World} {lo pb : Nat} {d : MDisk} (h : IsDisk W lo pb d) (fr n : Nat) (hfit : fr + n ≤ d.firm.length) (hd : d.down = false) (hl : d.left = 0) (hw : 0 ≤ d.writes ∧ d.writes + n ≤ 1000000000) (hp : d.pend.length + n ≤ 1000000) :
  Calls Tryz.prog 27 #[.pointer (some ⟨pb, 0, none⟩), .int .i64 (fr : Nat), .int .i64 (n : Nat)] W fun e w' => e = .returned (.int .i64 0) ∧ IsDisk w' lo pb (wipeD d fr n) ∧ DStep pb W w' := by
 have hi79' : Hid ((Tryz.prog.info? 79).map (·.size) = some 64) := by unfold Hid; kernel_rfl
 have hS0 : Hid (WipeSt W W lo pb d d fr n 0 false) := ⟨h, DStep.refl _ _, rfl, hd, hl, hw.1, by omega, by omega, rfl⟩
 have hlen := h.pos.2
 have tn : ¬ ((n : Int) < 0) := by omega
 have hn6 : n ≤ 4096 := by omega
 have tn2 : (0 : Int) ≤ (n : Int) := by omega
 clear h hd hl
 go_enter Tryz.func27, Tryz.ntmps27
 go_wp2_with fail
 all_goals (try (exfalso; omega))
 go_loopw [15, 7] (fun v u wr => ∃ (k : Nat) (dk : MDisk) (b : Bool), k ≤ n ∧ v = .int .i64 (k : Nat) ∧ u = .bool b ∧ Hid (WipeSt W wr lo pb d dk fr n k b)) (fun v _ _ => (n - intOf v).toNat)
 case atStart => exact ⟨0, d, false, Nat.zero_le _, rfl, rfl, hS0⟩
 case round =>
  clear hS0
  obtain ⟨k, dk, b, hk, rfl, rfl, hS⟩ := hrel
  by_cases hkn : k < n
  ·have t1 : decide ((k : Int) < (n : Int)) = true := decide_eq_true (by omega)
   have tw : wrap64 ((fr : Int) + (k : Int)) = ((fr + k : Nat) : Int) := by unfold wrap64; omega
   have hok := okAt_in hS.out.up (i := fr + k) (by rw [hS.out.firm]; omega)
   have hR := dk_read hS.out.disk ((fr + k : Nat) : Int)
   rw [hok, if_pos rfl] at hR
   rw [Int.toNat_natCast] at hR
   have h64 : (dk.cur.getD (fr + k) zsec).length = 64 := by
    rw [List.getD_eq_getElem?_getD, List.getElem?_eq_getElem (by rw [cur_len, hS.out.firm]; omega), Option.getD_some]
    exact hS.out.disk.wf.cur _ (List.getElem_mem _)
   rw [Int.natCast_add] at hR
   have hN : Hid (wipeGo n d fr false = if dk.cur.getD (fr + k) zsec = zsec then wipeGo (n - (k + 1)) dk (fr + (k + 1)) b else wipeGo (n - (k + 1)) (dk.write (fr + k) zsec) (fr + (k + 1)) true) := by
    unfold Hid; rw [hS.out.rest, show n - k = (n - (k + 1)) + 1 from by omega, wipeGo, Nat.add_assoc]
   generalize hsd : dk.cur.getD (fr + k) zsec = s at *
   clear hsd
   have hss := sec_size h64
   have hso := sec_one s
   have tz : (((0 : Nat) : Int) != 0) = false := by decide
   go_wp2_with fail
   refine hR.mono ?_; rintro e w1 ⟨rfl, hq⟩
   have hD1 := Lib.hid (hS.out.disk.cln hq)
   have hSt1 := Lib.hid (hS.out.step.trans (DStep.of_cln hS.out.disk hq))
   have hk1 : Cln w1 (w1.alloc (.cells (byteVals s).toArray 79)) := by (repeat with_reducible first | exact cR _ | assumption | refine cA ?_ _ | refine cD ?_ | refine cN ?_ _ | refine cS ?_ (by first | omega | (simp <;> omega)) _)
   have hr : Hid ((w1.alloc (.cells (byteVals s).toArray 79)).rangeAt w1.heap.size 0 (byteVals s)) := fun j v hv => by rw [Nat.zero_add, (Blk.new w1 79 (byteVals s).toArray).cell]; simpa using hv
   have hl79 : Hid ((Tryz.prog.info? 79).map (·.size) = some (byteVals s).length) := by unfold Hid; rw [hi79'.out, byteVals_length, h64]
   replace hk1 := Lib.hid hk1
   clear hR hq
   go_wp2_with (first | ((with_reducible refine wpList_store_new rfl 79 _ _ rfl _ (byteVals s).toArray 64 hi79'.out ?hcz hss hso ?hx ?hy ?_); (case hcz => rfl); (case hx => rfl); (case hy => rfl)) | ((with_reducible refine wpList_load_mid rfl 79 _ rfl w1.heap.size 0 ?hx (byteVals s) _ hr.out Tryz.underlying79 rfl hl79.out ?_); (case hx => rfl)))
   have hBl := sl_blank s h64 (w1.alloc (.cells (byteVals s).toArray 79))
   obtain ⟨z, hzz⟩ : ∃ z, z = (s == zsec) := ⟨_, rfl⟩
   rw [← hzz] at hBl
   replace hzz := Lib.hid hzz
   refine hBl.mono ?_; rintro e w3 ⟨rfl, hq⟩
   clear hBl
   have hkq := Lib.hid (cln_trans hk1.out hq)
   have hD3 := Lib.hid (hD1.out.cln hkq.out)
   have hSt3 := Lib.hid (hSt1.out.trans (DStep.of_cln hD1.out hkq.out))
   clear hq hr hl79 hk1 hD1 hSt1 hkq hss hso
   cases z with
   | true =>
    have hz : s = zsec := by have := hzz.out.symm; rw [beq_iff_eq] at this; exact this
    clear hzz
    have hS' := Lib.hid (hS.out.next hD3.out hSt3.out (by rw [hN.out, if_pos hz]))
    clear hz hN hS hD3 hSt3
    have tw2 := wrap_succ k n hkn hn6
    go_wp2_with fail
    go_roundw
    case rel => exact ⟨k + 1, dk, b, hkn, by first | (rw [tw2]; simp) | simp, rfl, hS'⟩
    case measure => first | (rw [tw2]; exact meas_lt _ _ hkn) | exact meas_lt _ _ hkn
   | false =>
    have hz : ¬ s = zsec := by have := hzz.out.symm; rw [beq_eq_false_iff_ne] at this; exact this
    clear hzz
    have hN' : Hid (wipeGo n d fr false = wipeGo (n - (k + 1)) (dk.write (fr + k) zsec) (fr + (k + 1)) true) := by unfold Hid; rw [hN.out, if_neg hz]
    clear hz hN
    have hnum := hS.out.num hkn hw.2 hp
    have hWr := dk_write_ok hD3.out (fr + k) hok zsec blank_len hnum.1 hnum.2
    have hdn2 := hS.out.down (fr + k)
    have hdc : downCode (dk.write (fr + k) zsec) = 0 := by unfold downCode; rw [hdn2]; rfl
    rw [hdc] at hWr
    rw [Int.natCast_add] at hWr
    clear hnum hdc
    go_wp2_with fail
    refine hWr.mono ?_; rintro e w4 ⟨rfl, h4, h5⟩
    have hS' := Lib.hid (hS.out.write h4 (hSt3.out.trans h5) hN'.out)
    clear hN' hS hD3 hSt3 hWr h4 h5 hdn2
    have tw2 := wrap_succ k n hkn hn6
    go_wp2_with fail
    go_roundw
    case rel => exact ⟨k + 1, _, true, hkn, by first | (rw [tw2]; simp) | simp, rfl, hS'⟩
    case measure => first | (rw [tw2]; exact meas_lt _ _ hkn) | exact meas_lt _ _ hkn
  ·obtain rfl : n = k := by omega
   have t1 : decide ((n : Int) < (n : Int)) = false := decide_eq_false (by omega)
   have hrest := hS.out.rest
   rw [Nat.sub_self, wipeGo] at hrest
   cases b with
   | false =>
    have hE : Hid (wipeD d fr n = dk) := by unfold Hid wipeD; rw [hrest]; rfl
    clear hrest
    go_wp2_with fail
    go_ret
    rw [hE.out]
    exact ⟨rfl, hS.out.disk, hS.out.step⟩
   | true =>
    have hE : Hid (wipeD d fr n = dk.sync) := by unfold Hid wipeD; rw [hrest]; rfl
    clear hrest
    have hY := dk_sync hS.out.disk hS.out.up
    go_wp2_with fail
    refine hY.mono ?_; rintro e w4 ⟨rfl, h4, h5⟩
    replace h4 := Lib.hid h4; replace h5 := Lib.hid h5
    clear hY
    go_wp2_with fail
    go_ret
    rw [hE.out]
    exact ⟨rfl, h4.out, hS.out.step.trans h5.out⟩
theorem u8_size (w : World) : (sizeOf 5).run Tryz.prog w = .ok 1 w := by
 have : (Tryz.prog.info? 5).map (·.size) = some 1 := by kernel_rfl
 obtain ⟨i, h1, h2⟩ := Option.map_eq_some_iff.1 this
 simp [sizeOf, typeInfo, h1, h2]
theorem slice_lh (A : Option Addr) (n c l h : Nat) (hlh : l ≤ h) (hh : h ≤ c) (w : World) : (Instr.sliceAt 33 (.slice A n c) (some (.int .i64 (l : Nat))) (some (.int .i64 (h : Nat))) none).run Tryz.prog w = .ok (.slice (if c = l then A else A.map (·.add l)) (h - l) (c - l)) w := by
 have he : Tryz.prog.elem 33 = 5 := by kernel_rfl
 rw [run_sliceAt_slice w _ _ _ _ _ (by rw [he]; exact Tryz.underlying33), run_slice_lh w _ _ _ _ (by rw [he]; exact Tryz.underlying33) .i64 .i64 _ _ (by omega) (by omega) (by omega), he, u8_size, Result.andThen_ok]
 simp [sliced]
theorem slice_l (A : Option Addr) (n c l : Nat) (hl : l ≤ n) (hc : n ≤ c) (w : World) : (Instr.sliceAt 33 (.slice A n c) (some (.int .i64 (l : Nat))) none none).run Tryz.prog w = .ok (.slice (if c = l then A else A.map (·.add l)) (n - l) (c - l)) w := by
 have he : Tryz.prog.elem 33 = 5 := by kernel_rfl
 rw [run_sliceAt_slice w _ _ _ _ _ (by rw [he]; exact Tryz.underlying33), run_slice_l w _ _ _ _ (by rw [he]; exact Tryz.underlying33) .i64 _ (by omega) (by omega), he, u8_size, Result.andThen_ok]
 simp [sliced]
theorem rd_sub {W : World} {A : Option Addr} {n c : Nat} {bs : List UInt8} (h : RdBytes W A n bs) (l m : Nat) (hl : l + m ≤ n) (hc : n ≤ c) :
  RdBytes W (if c = l then A else A.map (·.add l)) m ((bs.drop l).take m) := by
 have hlen := h.len
 by_cases hca : c = l
 ·rw [if_pos hca]
  exact ⟨by rw [List.length_take, List.length_drop]; omega, h.spot, fun h0 => by omega⟩
 ·rw [if_neg hca]
  refine ⟨by rw [List.length_take, List.length_drop]; omega, fun ad e => ?_, fun h0 => ?_⟩
  ·cases A with
   | none => cases e
   | some x =>
    simp at e; subst e
    have := h.spot x rfl
    unfold Addr.add; split
    ·exact this
    ·rfl
  ·obtain ⟨b, o, rfl, hb, hcell⟩ := h.cells (by omega)
   refine ⟨b, o + l, ?_, hb, fun i hi => ?_⟩
   ·simp only [Option.map_some]
    congr 1
    unfold Addr.add; split
    ·rename_i hz; subst hz; rfl
    ·rfl
   ·have := hcell (l + i) (by omega)
    rw [Nat.add_assoc, this]
    simp [byteAt, List.getD, List.getElem?_drop, List.getElem?_take_of_lt hi]
theorem sub_lh {W : World} {A : Option Addr} {n c : Nat} {bs : List UInt8} (h : RdBytes W A n bs) (l m : Nat) (hl : l + m ≤ n) (hc : n ≤ c) :
  ∃ A', (∀ w, (Instr.sliceAt 33 (.slice A n c) (some (.int .i64 (l : Nat))) (some (.int .i64 ((l + m : Nat) : Nat))) none).run Tryz.prog w = .ok (.slice A' m (c - l)) w) ∧ RdBytes W A' m ((bs.drop l).take m) :=
 ⟨_, fun w => by rw [slice_lh A n c l (l + m) (by omega) (by omega) w, Nat.add_sub_cancel_left], rd_sub h l m hl hc⟩
theorem sub_1 {W : World} {A : Option Addr} {n c : Nat} {b : UInt8} {bs : List UInt8} (h : RdBytes W A (n + 1) (b :: bs)) (hc : n + 1 ≤ c) :
  ∃ A', (∀ w, (Instr.sliceAt 33 (.slice A (n + 1) c) (some (.int .i64 1)) none none).run Tryz.prog w = .ok (.slice A' n (c - 1)) w) ∧ RdBytes W A' n bs := by
 refine ⟨_, fun w => slice_l A (n + 1) c 1 (by omega) hc w, ?_⟩
 have := rd_sub h 1 n (by omega) hc
 rw [List.drop_one, List.tail_cons, List.take_of_length_le (by have := h.len; simp at this; omega)] at this
 exact this
def OnePost (W : World) (r : Option (List UInt8 × Nat)) (e : Ending) (w' : World) : Prop :=
 Cln W w' ∧ match r with
 | none => e = .returned (.tuple #[.slice none 0 0, .int .i64 0, .int .i64 0])
 | some x => ∃ A c, e = .returned (.tuple #[.slice A x.1.length c, .int .i64 (x.2 : Nat), .int .i64 0]) ∧ w'.ownsRow W.heap.size 5 1 (.slice A x.1.length c) x.1.length (byteVals x.1)
structure OneSt (W wr : World) (d : MDisk) (fr ln a k f : Nat) (acc : List UInt8) (A : Option Addr) (c : Nat) : Prop where
 cln : Cln W wr
 own : wr.ownsRow W.heap.size 5 1 (.slice A acc.length c) acc.length (byteVals acc)
 box : Blk wr W.heap.size 29 #[.int .i64 (fr : Nat), .int .i64 (ln : Nat)]
 rest : oneS ((areaS d fr ln).drop a) = oneGo ((areaS d fr ln).drop (a + k)) f k acc
 fit : a + k ≤ ln
 alen : acc.length ≤ 61 * k
 flt : f < 256
theorem OneSt.kept {W wr w' : World} {d : MDisk} {fr ln a k f : Nat} {acc : List UInt8} {A : Option Addr} {c : Nat} (h : OneSt W wr d fr ln a k f acc A c) (hq : Cln wr w') : OneSt W w' d fr ln a k f acc A c :=
 ⟨cln_trans h.cln hq, dk_same h.own (fun i hi => hq.block i (dk_ge h.own i hi).2), h.box.cln hq, h.rest, h.fit, h.alen, h.flt⟩
theorem area_step (d : MDisk) (fr ln j : Nat) (hj : j < ln) (hf : fr + ln ≤ d.firm.length) : (areaS d fr ln).drop j = d.cur.getD (fr + j) zsec :: (areaS d fr ln).drop (j + 1) := by
 have hl : j < (areaS d fr ln).length := by rw [area_len hf]; exact hj
 rw [List.drop_eq_getElem_cons hl]
 congr 1
 have := area_at (d := d) (from_ := fr) hj
 rw [List.getElem?_eq_getElem hl] at this
 rw [List.getD_eq_getElem?_getD, this]; rfl
theorem add_fit {fr x ln n : Nat} (h1 : x < ln) (h2 : fr + ln ≤ n) : fr + x < n := by omega
theorem sum_wrap (fr a k ln nn : Nat) (h1 : a + k < ln) (h2 : fr + ln ≤ nn) (h3 : nn ≤ 4096) : wrap64 ((a : Int) + (k : Int)) = ((a + k : Nat) : Int) ∧ wrap64 ((fr : Int) + (a : Int)) = ((fr + a : Nat) : Int) ∧ wrap64 (((fr + a : Nat) : Int) + (k : Int)) = ((fr + (a + k) : Nat) : Int) ∧ wrap64 ((k : Int) + 1) = (k : Int) + 1 ∧ wrap64 ((fr : Int) + (a : Int) + (k : Int)) = ((fr + (a + k) : Nat) : Int) := by
 unfold wrap64; omega
theorem one_p1T {cn f k : Nat} (h : ¬ cn + k = f) : ((cn : Int) != (f : Int) - (k : Int)) = true := by rw [bne_iff_ne]; omega
theorem one_p1F {cn f k : Nat} (h : cn + k = f) : ((cn : Int) != (f : Int) - (k : Int)) = false := by rw [bne_eq_false_iff_eq]; omega
theorem one_p2T {cn : Nat} (h : 63 < cn) : decide (63 < (cn : Int)) = true := decide_eq_true (by omega)
theorem one_p2F {cn : Nat} (h : ¬ 63 < cn) : decide (63 < (cn : Int)) = false := decide_eq_false (by omega)
theorem one_p3T {cn : Nat} (h : ¬ cn = 0) : decide (0 < (cn : Int)) = true := decide_eq_true (by omega)
theorem one_p3F {cn : Nat} (h : cn = 0) : decide (0 < (cn : Int)) = false := decide_eq_false (by omega)
theorem pos_t {m : Nat} (h : ¬ m = 0) : decide (0 < m) = true := decide_eq_true (Nat.pos_of_ne_zero h)
theorem pos_f {m : Nat} (h : m = 0) : decide (0 < m) = false := decide_eq_false (by omega)
theorem one_meas {k a ln : Nat} (h : a + k < ln) : ((ln : Int) - (a : Int) - intOf (.int .i64 ((k : Int) + 1))).toNat < ((ln : Int) - (a : Int) - intOf (.int .i64 (k : Int))).toNat := by simp only [intOf]; omega
theorem one_p4T {m : Nat} (h : ¬ m = 60) : ((m : Int) + 1 != 61) = true := by rw [bne_iff_ne]; omega
theorem one_p4F {m : Nat} (h : m = 60) : ((m : Int) + 1 != 61) = false := by rw [bne_eq_false_iff_eq]; omega
theorem one_p4T' {m : Nat} (h : ¬ m = 60) : (((m + 1 : Nat) : Int) != 61) = true := by rw [bne_iff_ne]; omega
theorem one_p4F' {m : Nat} (h : m = 60) : (((m + 1 : Nat) : Int) != 61) = false := by rw [bne_eq_false_iff_eq]; omega
theorem one_p6T {cn : Nat} (h : cn = 0) : ((cn : Int) == 0) = true := by rw [beq_iff_eq]; omega
theorem one_p6F {cn : Nat} (h : ¬ cn = 0) : ((cn : Int) == 0) = false := by rw [beq_eq_false_iff_ne]; omega
theorem one_p7T {m : Nat} (h : m = 0) : ((m : Int) + 1 == 1) = true := by rw [beq_iff_eq]; omega
theorem one_p7F {m : Nat} (h : ¬ m = 0) : ((m : Int) + 1 == 1) = false := by rw [beq_eq_false_iff_ne]; omega
theorem one_p7T' {m : Nat} (h : m = 0) : (((m + 1 : Nat) : Int) == 1) = true := by rw [beq_iff_eq]; omega
theorem one_p7F' {m : Nat} (h : ¬ m = 0) : (((m + 1 : Nat) : Int) == 1) = false := by rw [beq_eq_false_iff_ne]; omega
theorem one_sub {f k : Nat} (hf : f < 256) (hk : k ≤ 4096) : wrap64 ((f : Int) - (k : Int)) = (f : Int) - (k : Int) := by unfold wrap64; omega
theorem cnt_fit {fr a k ln n : Nat} (h1 : a + k < ln) (h2 : fr + ln ≤ n) (h3 : n ≤ 4096) : k ≤ 4096 := by omega
theorem one_next (l : List Sec) (s : Sec) (ch : UInt8) (bs : List UInt8) (f k : Nat) (acc : List UInt8) (ho : openS s = some (ch :: bs)) :
  oneGo (s :: l) f k acc = (let f' := if k = 0 then ch.toNat else f
   if ch.toNat + k ≠ f' ∨ 63 < ch.toNat ∨ (0 < ch.toNat ∧ bs.length ≠ 60) ∨ (0 < k ∧ ch.toNat = 0 ∧ bs.length = 0) then none
   else if ch.toNat = 0 then some (acc ++ bs, k + 1) else oneGo l f' (k + 1) (acc ++ bs)) := by
 rw [oneGo, ho]
theorem fits_next {a k ln : Nat} (h : a + k < ln) : a + (k + 1) ≤ ln := by omega
theorem alen_next {k m : Nat} {acc bs : List UInt8} (h : acc.length ≤ 61 * k) (hm : bs.length = m) (h60 : m = 60) : (acc ++ bs).length ≤ 61 * (k + 1) := by rw [List.length_append]; omega
theorem big_next {k m n : Nat} (h : n ≤ 61 * k) (hk : k ≤ 4096) (hm : m ≤ 61) : n + m ≤ 140737488355328 := by omega
theorem grown_blk {w w' : World} {base e sz n g t : Nat} {v : Value} {xs : List Value} {cs : Array Value} (h : w.ownsRow base e sz v n xs) (hg : w.grownBy w' v.ownBlock) (hb : Blk w g t cs) (ht : t ≠ e) : Blk w' g t cs := by
 refine (hg.block g hb.lt (fun hv => ?_)).trans hb
 rcases h.2 with ⟨h1, _⟩ | ⟨g1, cap, cur, h1, _, hh, _⟩
 ·rw [h1] at hv; cases hv
 ·rw [h1] at hv
  have : g = g1 := by simpa [Value.ownBlock] using hv
  exact Blk.ne_ hb hh ht this
set_option maxHeartbeats 4000000 in
theorem rl_one {W : World} {lo pb : Nat} {d : MDisk} (h : IsDisk W lo pb d) (fr ln a : Nat) (hfit : fr + ln ≤ d.firm.length) (ha : a ≤ ln) (hd : d.down = false) :
  Calls Tryz.prog 47 #[.pointer (some ⟨pb, 0, none⟩), .agg #[.int .i64 (fr : Nat), .int .i64 (ln : Nat)], .int .i64 (a : Nat)] W (OnePost W (oneS ((areaS d fr ln).drop a))) := by
 have hi79' : Hid ((Tryz.prog.info? 79).map (·.size) = some 64) := by unfold Hid; kernel_rfl
 have hk0 : Cln W (W.alloc (.cells #[.int .i64 (fr : Nat), .int .i64 (ln : Nat)] 29)) := by (repeat with_reducible first | exact cR _ | assumption | refine cA ?_ _ | refine cD ?_ | refine cN ?_ _ | refine cS ?_ (by first | omega | (simp <;> omega)) _)
 have hS0 : Hid (OneSt W (W.alloc (.cells #[.int .i64 (fr : Nat), .int .i64 (ln : Nat)] 29)) d fr ln a 0 0 [] none 0) := ⟨hk0, World.ownsRow_nil _ _ _ _, Blk.new W _ _, rfl, by simpa using ha, by simp, by decide⟩
 have hH := Lib.hid h
 have hpos := h.pos.2
 clear hk0 h
 go_enter Tryz.func47, Tryz.ntmps47
 go_wp2_with fail
 go_loopw [11, 10, 9] (fun v u x wr => ∃ (k f : Nat) (acc : List UInt8) (A : Option Addr) (c : Nat), v = .int .i64 (k : Nat) ∧ u = .int .i64 (f : Nat) ∧ x = .slice A acc.length c ∧ Hid (OneSt W wr d fr ln a k f acc A c)) (fun v _ _ _ => ((ln : Int) - (a : Int) - intOf v).toNat)
 case atStart => exact ⟨0, 0, [], none, 0, rfl, rfl, rfl, hS0⟩
 case round =>
  clear hS0
  obtain ⟨k, f, acc, A, c, rfl, rfl, rfl, hS⟩ := hrel
  have c0 := hS.out.box.cell 0; have c1 := hS.out.box.cell 1; have cl := hS.out.box.lt
  by_cases hkn : a + k < ln
  rotate_left
  ·have t1 : decide ((a : Int) + (k : Int) < (ln : Int)) = false := decide_eq_false (by omega)
   have tw1 : wrap64 ((a : Int) + (k : Int)) = (a : Int) + (k : Int) := by have := hS.out.fit; unfold wrap64; omega
   have hfin : Hid (oneS ((areaS d fr ln).drop a) = none) := by
    unfold Hid; rw [hS.out.rest, List.drop_of_length_le (by rw [area_len hfit]; omega)]; rfl
   go_wp2_with fail
   go_ret3
   exact ⟨hS.out.cln, by rw [hfin.out]; rfl⟩
  obtain ⟨tw1, tw2, tw3, tw4, tw5⟩ := sum_wrap fr a k ln d.firm.length hkn hfit hpos
  have t1 : decide (((a + k : Nat) : Int) < (ln : Int)) = true := decide_eq_true (by omega)
  have t1' : decide ((a : Int) + (k : Int) < (ln : Int)) = true := decide_eq_true (by omega)
  have hok := okAt_in hd (i := fr + (a + k)) (add_fit hkn hfit)
  have hR := dk_read (hH.out.cln hS.out.cln) ((fr + (a + k) : Nat) : Int)
  rw [hok, if_pos rfl, Int.toNat_natCast] at hR
  have h64 : (d.cur.getD (fr + (a + k)) zsec).length = 64 := by
   rw [List.getD_eq_getElem?_getD, List.getElem?_eq_getElem (by rw [cur_len]; exact add_fit hkn hfit), Option.getD_some]
   exact hH.out.wf.cur _ (List.getElem_mem _)
  have hN := hS.out.rest
  rw [area_step d fr ln (a + k) hkn hfit] at hN
  replace hN := Lib.hid hN
  generalize hsd : d.cur.getD (fr + (a + k)) zsec = s at *
  clear hsd
  have tz : (((0 : Nat) : Int) != 0) = false := by decide
  rw [← tw5] at hR
  replace h64 := Lib.hid h64
  have hkn' := Lib.hid hkn
  have hk4 := Lib.hid (cnt_fit hkn hfit hpos)
  clear hfit ha hkn hpos hd tw3 tw5 hok
  go_wp2_with fail
  refine hR.mono ?_; rintro e w1 ⟨rfl, hq⟩
  have hS1 := Lib.hid (hS.out.kept hq)
  have hss := sec_size h64.out
  have hso := sec_one s
  have hk1 : Hid (Cln w1 (w1.alloc (.cells (byteVals s).toArray 79))) := by unfold Hid; (repeat with_reducible first | exact cR _ | assumption | refine cA ?_ _ | refine cD ?_ | refine cN ?_ _ | refine cS ?_ (by first | omega | (simp <;> omega)) _)
  have hr : Hid ((w1.alloc (.cells (byteVals s).toArray 79)).rangeAt w1.heap.size 0 (byteVals s)) := fun j v hv => by rw [Nat.zero_add, (Blk.new w1 79 (byteVals s).toArray).cell]; simpa using hv
  have hl79 : Hid ((Tryz.prog.info? 79).map (·.size) = some (byteVals s).length) := by unfold Hid; rw [hi79'.out, byteVals_length, h64.out]
  clear hR hq hS c0 c1 cl
  go_wp2_with (first | ((with_reducible refine wpList_store_new rfl 79 _ _ rfl _ (byteVals s).toArray 64 hi79'.out ?hcz hss hso ?hx ?hy ?_); (case hcz => rfl); (case hx => rfl); (case hy => rfl)) | ((with_reducible refine wpList_load_mid rfl 79 _ rfl w1.heap.size 0 ?hx (byteVals s) _ hr.out Tryz.underlying79 rfl hl79.out ?_); (case hx => rfl)))
  refine (sl_open s h64.out (w1.alloc (.cells (byteVals s).toArray 79))).mono ?_
  intro e w3 hP
  clear hss hso hr hl79
  cases ho : openS s with
  | none =>
   rw [ho] at hP
   obtain ⟨hq3, rfl⟩ := hP
   have hcl := Lib.hid (cln_trans hS1.out.cln (cln_trans hk1.out hq3))
   have hfin : Hid (oneS ((areaS d fr ln).drop a) = none) := by unfold Hid; rw [hN.out]; simp [oneGo, ho]
   clear ho hq3 hk1 hS1 hN
   go_wp2_with fail
   go_ret3
   exact ⟨hcl.out, by rw [hfin.out]; rfl⟩
  | some b =>
   rw [ho] at hP
   cases b with
   | nil =>
    obtain ⟨hq3, A2, c2, rfl, hown⟩ := hP
    have hS3 := Lib.hid ((hS1.out.kept hk1.out).kept hq3)
    have hfin : Hid (oneS ((areaS d fr ln).drop a) = none) := by unfold Hid; rw [hN.out]; simp [oneGo, ho]
    clear ho hq3 hk1 hS1 hN hown
    go_wp2_with fail
    go_ret3
    exact ⟨hS3.out.cln, by rw [hfin.out]; rfl⟩
   | cons ch bs =>
    obtain ⟨hq3, A2, c2, he, hown⟩ := hP
    rw [List.length_cons] at he hown
    subst he
    have hS3 := Lib.hid ((hS1.out.kept hk1.out).kept hq3)
    have hN' := hN.out
    rw [one_next _ _ ch bs f k acc ho] at hN'
    replace hN' := Lib.hid hN'
    have hm61 : bs.length ≤ 61 := by have := openS_len ho; simp at this; omega
    clear ho hq3 hk1 hS1 hN
    obtain ⟨g, hg⟩ : ∃ g, A2 = some ⟨g, 0, none⟩ := by
     rcases hown.2 with ⟨hv, _⟩ | ⟨g, cap, cur, hv, _⟩
     ·cases hv
     ·injection hv with e1 _ _; exact ⟨g, e1⟩
    subst hg
    have hg0 : w3.cell? ⟨g, 0, none⟩ = some (.int .u8 (ch.toNat : Nat)) := own_cell hown rfl
    have hrb := Lib.hid (own_rd hown)
    have hc2 : bs.length + 1 ≤ c2 := by obtain ⟨_, _, hv, _, h1, _⟩ := own_form hown; injection hv with _ _ e; subst e; exact h1
    have hch : ch.toNat < 256 := UInt8.toNat_lt _
    generalize hcn : ch.toNat = cn at *
    generalize hm : bs.length = m at *
    replace hcn := Lib.hid hcn; replace hm := Lib.hid hm
    replace hc2 := Lib.hid hc2
    replace hm61 := Lib.hid hm61
    clear hown
    by_cases hz : k = 0
    ·have tk := one_p6T hz
     have tk2 := one_p3F hz
     have tk3 := pos_f hz
     have tws := one_sub hch hk4.out
     have hN2 := hN'.out
     simp only [if_pos hz] at hN2
     replace hN2 := Lib.hid hN2
     replace hz := Lib.hid hz
     by_cases h1 : cn + k = cn
     rotate_left
     ·have t1 := one_p1T h1
      have hfin : Hid (oneS ((areaS d fr ln).drop a) = none) := by unfold Hid; rw [hN2.out]; exact if_pos (.inl h1)
      clear hN2 hrb hN'
      go_wp2_with fail
      go_ret3
      exact ⟨hS3.out.cln, by rw [hfin.out]; rfl⟩
     have t1 := one_p1F h1
     replace h1 := Lib.hid h1
     by_cases h2 : 63 < cn
     ·have t2 := one_p2T h2
      have t2' := decide_eq_true h2
      have hfin : Hid (oneS ((areaS d fr ln).drop a) = none) := by unfold Hid; rw [hN2.out]; exact if_pos (.inr (.inl h2))
      clear hN2 hrb hN'
      go_wp2_with fail
      go_ret3
      exact ⟨hS3.out.cln, by rw [hfin.out]; rfl⟩
     have t2 := one_p2F h2
     have t2' := decide_eq_false h2
     replace h2 := Lib.hid h2
     by_cases h3 : cn = 0
     ·have t3 := one_p3F h3
      have t3' := pos_f h3
      have t6 := one_p6T h3
      replace h3 := Lib.hid h3
      have hbad : Hid (¬ (cn + k ≠ cn ∨ 63 < cn ∨ (0 < cn ∧ m ≠ 60) ∨ (0 < k ∧ cn = 0 ∧ m = 0))) := fun e => by rcases e with e | e | e | e; exact e h1.out; exact h2.out e; exact absurd h3.out (Nat.ne_of_gt e.1); exact absurd hz.out (Nat.ne_of_gt e.1)
      have hN3 : Hid (oneS ((areaS d fr ln).drop a) = some (acc ++ bs, k + 1)) := by unfold Hid; rw [hN2.out, if_neg hbad.out, if_pos h3.out]
      obtain ⟨A', hsl, hrd⟩ := sub_1 hrb.out hc2.out
      have hbase : W.heap.size ≤ w3.heap.size := hS3.out.cln.size
      have hnb := big_next hS3.out.alen hk4.out hm61.out
      have hown3 := Lib.hid hS3.out.own
      replace hrd := Lib.hid hrd
      go_wp2_with (first | (simp only [hsl]) | (at_builtin; apply stop_here))
      refine Hid.out ?_
      show wpList _ _ _ _ _ _
      refine wpList_catB rfl _ _ rfl rfl rfl hown3.out hrd.out hnb hbase ?_
      intro A4 c4 w4 hown4 hgr4
      have hK4 := Lib.hid ((Kept.refl (fun k => W.heap.size ≤ k) w3).grown hgr4 (fun k e h => (dk_ge hown3.out k e).1))
      replace hown4 := Lib.hid hown4
      have hbox4 := Lib.hid (grown_blk hown3.out hgr4 hS3.out.box (by decide))
      clear hgr4 hown3 hrd hsl hrb
      have hcl4 : Hid (Cln W w4) := ((Kept.of_below (S := fun k => W.heap.size ≤ k) hS3.out.cln).trans hK4.out).toBelow (Nat.le_refl _) (fun k hk e => by have e : W.heap.size ≤ k := e; omega)
      have elen : Hid ((acc ++ bs).length = acc.length + m) := by unfold Hid; rw [List.length_append, hm.out]
      clear hK4 hbox4 hN2 hbad hS3 hN' hg0
      go_wp2_with fail
      go_ret3
      refine ⟨hcl4.out, ?_⟩
      rw [hN3.out]
      refine ⟨A4, c4, ?_, ?_⟩
      ·rw [elen.out]; first | rfl | (rw [tw4]; rfl)
      ·rw [elen.out]; exact hown4.out
     ·have t3 := one_p3T h3
      have t3' := pos_t h3
      have t6 := one_p6F h3
      by_cases h4 : m = 60
      rotate_left
      ·have t4 := one_p4T h4
       have t4' := one_p4T' h4
       have hfin : Hid (oneS ((areaS d fr ln).drop a) = none) := by unfold Hid; rw [hN2.out]; exact if_pos (.inr (.inr (.inl ⟨Nat.pos_of_ne_zero h3, h4⟩)))
       clear hN2 hrb hN'
       go_wp2_with fail
       go_ret3
       exact ⟨hS3.out.cln, by rw [hfin.out]; rfl⟩
      have t4 := one_p4F h4
      have t4' := one_p4F' h4
      have hbad : Hid (¬ (cn + k ≠ cn ∨ 63 < cn ∨ (0 < cn ∧ m ≠ 60) ∨ (0 < k ∧ cn = 0 ∧ m = 0))) := fun e => by rcases e with e | e | e | e; exact e h1.out; exact h2.out e; exact e.2 h4; exact h3 e.2.1
      replace h3 := Lib.hid h3; replace h4 := Lib.hid h4
      have hN3 : Hid (oneS ((areaS d fr ln).drop a) = oneGo ((areaS d fr ln).drop (a + (k + 1))) cn (k + 1) (acc ++ bs)) := by unfold Hid; rw [hN2.out, if_neg hbad.out, if_neg h3.out]; rfl
      obtain ⟨A', hsl, hrd⟩ := sub_1 hrb.out hc2.out
      have hbase : W.heap.size ≤ w3.heap.size := hS3.out.cln.size
      have hnb := big_next hS3.out.alen hk4.out hm61.out
      have hown3 := Lib.hid hS3.out.own
      replace hrd := Lib.hid hrd
      go_wp2_with (first | (simp only [hsl]) | (at_builtin; apply stop_here))
      refine Hid.out ?_
      show wpList _ _ _ _ _ _
      refine wpList_catB rfl _ _ rfl rfl rfl hown3.out hrd.out hnb hbase ?_
      intro A4 c4 w4 hown4 hgr4
      have hK4 := Lib.hid ((Kept.refl (fun k => W.heap.size ≤ k) w3).grown hgr4 (fun k e h => (dk_ge hown3.out k e).1))
      replace hown4 := Lib.hid hown4
      have hbox4 := Lib.hid (grown_blk hown3.out hgr4 hS3.out.box (by decide))
      clear hgr4 hown3 hrd hsl hrb
      have hcl4 : Hid (Cln W w4) := ((Kept.of_below (S := fun k => W.heap.size ≤ k) hS3.out.cln).trans hK4.out).toBelow (Nat.le_refl _) (fun k hk e => by have e : W.heap.size ≤ k := e; omega)
      have hS4 : Hid (OneSt W w4 d fr ln a (k + 1) cn (acc ++ bs) A4 c4) := ⟨hcl4.out, by rw [List.length_append, hm.out]; exact hown4.out, hbox4.out, hN3.out, fits_next hkn'.out, alen_next hS3.out.alen hm.out h4.out, hch⟩
      have elen : Hid ((acc ++ bs).length = acc.length + m) := by unfold Hid; rw [List.length_append, hm.out]
      clear hK4 hown4 hcl4 hbox4 hN3 hN2 hbad hS3 hN' hg0
      go_wp2_with fail
      go_roundw
      case rel => exact ⟨k + 1, cn, acc ++ bs, A4, c4, by first | (rw [tw4]; rfl) | rfl, rfl, by rw [elen.out], hS4⟩
      case measure => first | (rw [tw4]; exact one_meas hkn'.out) | exact one_meas hkn'.out
    ·have tk := one_p6F hz
     have tk2 := one_p3T hz
     have tk3 := pos_t hz
     have tws := one_sub hS3.out.flt hk4.out
     have hN2 := hN'.out
     simp only [if_neg hz] at hN2
     replace hN2 := Lib.hid hN2
     by_cases h1 : cn + k = f
     rotate_left
     ·have t1 := one_p1T h1
      have hfin : Hid (oneS ((areaS d fr ln).drop a) = none) := by unfold Hid; rw [hN2.out]; exact if_pos (.inl h1)
      clear hN2 hrb hN'
      go_wp2_with fail
      go_ret3
      exact ⟨hS3.out.cln, by rw [hfin.out]; rfl⟩
     have t1 := one_p1F h1
     replace h1 := Lib.hid h1
     by_cases h2 : 63 < cn
     ·have t2 := one_p2T h2
      have t2' := decide_eq_true h2
      have hfin : Hid (oneS ((areaS d fr ln).drop a) = none) := by unfold Hid; rw [hN2.out]; exact if_pos (.inr (.inl h2))
      clear hN2 hrb hN'
      go_wp2_with fail
      go_ret3
      exact ⟨hS3.out.cln, by rw [hfin.out]; rfl⟩
     have t2 := one_p2F h2
     have t2' := decide_eq_false h2
     replace h2 := Lib.hid h2
     by_cases h3 : cn = 0
     ·have t3 := one_p3F h3
      have t3' := pos_f h3
      have t6 := one_p6T h3
      replace h3 := Lib.hid h3
      by_cases h5 : m = 0
      ·have t7 := one_p7T h5
       have t7' := one_p7T' h5
       have hfin : Hid (oneS ((areaS d fr ln).drop a) = none) := by unfold Hid; rw [hN2.out]; exact if_pos (.inr (.inr (.inr ⟨Nat.pos_of_ne_zero hz, h3.out, h5⟩)))
       clear hN2 hrb hN'
       go_wp2_with fail
       go_ret3
       exact ⟨hS3.out.cln, by rw [hfin.out]; rfl⟩
      have t7 := one_p7F h5
      have t7' := one_p7F' h5
      have hbad : Hid (¬ (cn + k ≠ f ∨ 63 < cn ∨ (0 < cn ∧ m ≠ 60) ∨ (0 < k ∧ cn = 0 ∧ m = 0))) := fun e => by rcases e with e | e | e | e; exact e h1.out; exact h2.out e; exact absurd h3.out (Nat.ne_of_gt e.1); exact h5 e.2.2
      replace h5 := Lib.hid h5
      have hN3 : Hid (oneS ((areaS d fr ln).drop a) = some (acc ++ bs, k + 1)) := by unfold Hid; rw [hN2.out, if_neg hbad.out, if_pos h3.out]
      obtain ⟨A', hsl, hrd⟩ := sub_1 hrb.out hc2.out
      have hbase : W.heap.size ≤ w3.heap.size := hS3.out.cln.size
      have hnb := big_next hS3.out.alen hk4.out hm61.out
      have hown3 := Lib.hid hS3.out.own
      replace hrd := Lib.hid hrd
      go_wp2_with (first | (simp only [hsl]) | (at_builtin; apply stop_here))
      refine Hid.out ?_
      show wpList _ _ _ _ _ _
      refine wpList_catB rfl _ _ rfl rfl rfl hown3.out hrd.out hnb hbase ?_
      intro A4 c4 w4 hown4 hgr4
      have hK4 := Lib.hid ((Kept.refl (fun k => W.heap.size ≤ k) w3).grown hgr4 (fun k e h => (dk_ge hown3.out k e).1))
      replace hown4 := Lib.hid hown4
      have hbox4 := Lib.hid (grown_blk hown3.out hgr4 hS3.out.box (by decide))
      clear hgr4 hown3 hrd hsl hrb
      have hcl4 : Hid (Cln W w4) := ((Kept.of_below (S := fun k => W.heap.size ≤ k) hS3.out.cln).trans hK4.out).toBelow (Nat.le_refl _) (fun k hk e => by have e : W.heap.size ≤ k := e; omega)
      have elen : Hid ((acc ++ bs).length = acc.length + m) := by unfold Hid; rw [List.length_append, hm.out]
      clear hK4 hbox4 hN2 hbad hS3 hN' hg0
      go_wp2_with fail
      go_ret3
      refine ⟨hcl4.out, ?_⟩
      rw [hN3.out]
      refine ⟨A4, c4, ?_, ?_⟩
      ·rw [elen.out]; first | rfl | (rw [tw4]; rfl)
      ·rw [elen.out]; exact hown4.out
     ·have t3 := one_p3T h3
      have t3' := pos_t h3
      have t6 := one_p6F h3
      by_cases h4 : m = 60
      rotate_left
      ·have t4 := one_p4T h4
       have t4' := one_p4T' h4
       have hfin : Hid (oneS ((areaS d fr ln).drop a) = none) := by unfold Hid; rw [hN2.out]; exact if_pos (.inr (.inr (.inl ⟨Nat.pos_of_ne_zero h3, h4⟩)))
       clear hN2 hrb hN'
       go_wp2_with fail
       go_ret3
       exact ⟨hS3.out.cln, by rw [hfin.out]; rfl⟩
      have t4 := one_p4F h4
      have t4' := one_p4F' h4
      have hbad : Hid (¬ (cn + k ≠ f ∨ 63 < cn ∨ (0 < cn ∧ m ≠ 60) ∨ (0 < k ∧ cn = 0 ∧ m = 0))) := fun e => by rcases e with e | e | e | e; exact e h1.out; exact h2.out e; exact e.2 h4; exact h3 e.2.1
      replace h3 := Lib.hid h3; replace h4 := Lib.hid h4
      have hN3 : Hid (oneS ((areaS d fr ln).drop a) = oneGo ((areaS d fr ln).drop (a + (k + 1))) f (k + 1) (acc ++ bs)) := by unfold Hid; rw [hN2.out, if_neg hbad.out, if_neg h3.out]; rfl
      obtain ⟨A', hsl, hrd⟩ := sub_1 hrb.out hc2.out
      have hbase : W.heap.size ≤ w3.heap.size := hS3.out.cln.size
      have hnb := big_next hS3.out.alen hk4.out hm61.out
      have hown3 := Lib.hid hS3.out.own
      replace hrd := Lib.hid hrd
      go_wp2_with (first | (simp only [hsl]) | (at_builtin; apply stop_here))
      refine Hid.out ?_
      show wpList _ _ _ _ _ _
      refine wpList_catB rfl _ _ rfl rfl rfl hown3.out hrd.out hnb hbase ?_
      intro A4 c4 w4 hown4 hgr4
      have hK4 := Lib.hid ((Kept.refl (fun k => W.heap.size ≤ k) w3).grown hgr4 (fun k e h => (dk_ge hown3.out k e).1))
      replace hown4 := Lib.hid hown4
      have hbox4 := Lib.hid (grown_blk hown3.out hgr4 hS3.out.box (by decide))
      clear hgr4 hown3 hrd hsl hrb
      have hcl4 : Hid (Cln W w4) := ((Kept.of_below (S := fun k => W.heap.size ≤ k) hS3.out.cln).trans hK4.out).toBelow (Nat.le_refl _) (fun k hk e => by have e : W.heap.size ≤ k := e; omega)
      have hS4 : Hid (OneSt W w4 d fr ln a (k + 1) f (acc ++ bs) A4 c4) := ⟨hcl4.out, by rw [List.length_append, hm.out]; exact hown4.out, hbox4.out, hN3.out, fits_next hkn'.out, alen_next hS3.out.alen hm.out h4.out, hS3.out.flt⟩
      have elen : Hid ((acc ++ bs).length = acc.length + m) := by unfold Hid; rw [List.length_append, hm.out]
      clear hK4 hown4 hcl4 hbox4 hN3 hN2 hbad hS3 hN' hg0
      go_wp2_with fail
      go_roundw
      case rel => exact ⟨k + 1, f, acc ++ bs, A4, c4, by first | (rw [tw4]; rfl) | rfl, rfl, by rw [elen.out], hS4⟩
      case measure => first | (rw [tw4]; exact one_meas hkn'.out) | exact one_meas hkn'.out
end Go.Proofs.YtbemnfbndjolpaaGreatDoor
