import Derived.Test.YtbemnfbndjolpaaGreatDoorMem
import Derived.ChangeKeysEq
import Derived.Laws.StructEq
import Derived.Test.YtbemnfbndjolpaaGreatDoorDiskP
import Derived.Test.YtbemnfbndjolpaaGreatDoorWFlo
import Derived.OwnWalk
import Derived.Deep.RegionLaw
import Derived.Deep.MidRow
import Derived.Great.BuildSlice
import Derived.Maps.AppendAt
import Derived.OrdersHeld
import Derived.Deep.RegionHeld
import Derived.Deep.WholeRow
/- Two sectors, held against each other. No program but for its types. -/
set_option linter.unusedSimpArgs false
set_option linter.unusedVariables false
namespace Moi
open Go Go.RowKit
section
variable {P : Program}
theorem byteVals_at (s : List UInt8) (i : Nat) (h : i < s.length) : (byteVals s).toArray[i]? = some (.int .u8 ((s[i].toNat : Nat) : Int)) := by
 simp [byteVals, h]
theorem run_items_bytes (w : World) (d : Nat) {e : TypeId} {i0 : TypeInfo} (hu : P.underlying e = some (.int .u8)) (s r : List UInt8) : ∀ (k m : Nat), m + k = s.length → m + k = r.length →
  (Op.eqItems (d + 1) e 1 (byteVals s).toArray (byteVals r).toArray (List.range' m k)).run P w = .ok (s.drop m == r.drop m) w
 | 0, m, h1, h2 => by
  rw [List.drop_of_length_le (by omega), List.drop_of_length_le (by omega)]
  simp [Op.eqItems]
 | k + 1, m, h1, h2 => by
  have he : P.plainKey e = true := by simp [Program.plainKey, hu]
  have ih := run_items_bytes w d hu s r k (m + 1) (by omega) (by omega) (i0 := i0)
  rw [List.range'_succ, Op.eqItems]
  have es := List.drop_eq_getElem_cons (show m < s.length by omega)
  have er := List.drop_eq_getElem_cons (show m < r.length by omega)
  rw [es, er, List.cons_beq_cons]
  have ha := run_part_plain (P := P) (w := w) he (xs := (byteVals s).toArray) (off := m * 1) (by rw [Nat.mul_one]; exact byteVals_at s m (by omega))
  have hb := run_part_plain (P := P) (w := w) he (xs := (byteVals r).toArray) (off := m * 1) (by rw [Nat.mul_one]; exact byteVals_at r m (by omega))
  have hc := run_equalIn_int w d e .u8 .u8 ((s[m].toNat : Nat) : Int) ((r[m].toNat : Nat) : Int) hu
  simp only [Sem.run_bind, ha, hb, hc, Result.andThen_ok]
  by_cases hx : s[m] = r[m]
  ·have : (((s[m].toNat : Nat) : Int) == ((r[m].toNat : Nat) : Int)) = true := by rw [hx]; simp
   rw [this]
   have h3 : (s[m] == r[m]) = true := by rw [hx]; simp
   rw [h3]
   simpa using ih
  ·have : (((s[m].toNat : Nat) : Int) == ((r[m].toNat : Nat) : Int)) = false := by
    rw [beq_eq_false_iff_ne]; intro h
    exact hx (UInt8.toNat_inj.1 (by omega))
   rw [this]
   have h2 : (s[m] == r[m]) = false := by rw [beq_eq_false_iff_ne]; exact hx
   rw [h2]
   simp
theorem run_eq_sec (w : World) {t e : TypeId} {i : TypeInfo} (hu : P.underlying t = some (.array 64 e)) (hi : P.info? e = some i) (h1 : P.cellsOf e = 1) (he : P.underlying e = some (.int .u8)) (s r : List UInt8) (hs : s.length = 64) (hr : r.length = 64) :
  (Op.equalIn 10000 t (.agg (byteVals s).toArray) (.agg (byteVals r).toArray)).run P w = .ok (s == r) w := by
 have h := run_equalIn_array (P := P) w 9999 (byteVals s).toArray (byteVals r).toArray hu hi
 rw [h1, List.range_eq_range'] at h
 have h2 := run_items_bytes w 9998 (i0 := i) he s r 64 0 (by omega) (by omega)
 simp only [List.drop_zero] at h2
 exact h.trans h2
end
end Moi

/- A disk in memory; what a step on it keeps. -/
set_option maxRecDepth 20000
namespace Go.Proofs.YtbemnfbndjolpaaGreatDoor
open Go.RowKit Moi
theorem dk_same {w w' : World} {base e size n : Nat} {v : Value} {xs : List Value} (h : w.ownsRow base e size v n xs) (hk : ∀ k, v.ownBlock = some k → w'.heap[k]? = w.heap[k]?) : w'.ownsRow base e size v n xs := by
 refine ⟨h.1, ?_⟩
 rcases h.2 with h1 | ⟨g, cap, cur, hv, hg, hh, r⟩
 ·exact .inl h1
 ·exact .inr ⟨g, cap, cur, hv, hg, (hk g (by rw [hv]; rfl)).trans hh, r⟩
theorem dk_ge {w : World} {base e size m : Nat} {v : Value} {xs : List Value} (h : w.ownsRow base e size v m xs) : ∀ g, v.ownBlock = some g → base ≤ g ∧ g < w.heap.size := fun g hg => by
 obtain ⟨A, c, hv, hA, _⟩ := own_form h
 subst hv
 cases A with
 | none => simp [Value.ownBlock] at hg
 | some ad =>
  obtain ⟨_, _, h3, h4⟩ := hA ad rfl
  have e : ad.block = g := by simpa [Value.ownBlock] using hg
  subst e; exact ⟨h3, h4⟩
def firmVals (l : List Sec) : List Value := l.flatMap byteVals
def pendVals (l : List (Nat × Sec)) : List Value := l.flatMap fun x => .int .i64 (x.1 : Nat) :: byteVals x.2
theorem firmVals_length (l : List Sec) (h : ∀ s ∈ l, s.length = 64) : (firmVals l).length = l.length * 64 := by
 induction l with
 | nil => rfl
 | cons s l ih =>
  have h1 := h s (by simp)
  have h2 := ih fun x hx => h x (by simp [hx])
  simp only [firmVals, List.flatMap_cons, List.length_append, byteVals_length, List.length_cons] at *
  omega
theorem pendVals_length (l : List (Nat × Sec)) (h : ∀ x ∈ l, x.2.length = 64) : (pendVals l).length = l.length * 65 := by
 induction l with
 | nil => rfl
 | cons x l ih =>
  have h1 := h x (by simp)
  have h2 := ih fun y hy => h y (by simp [hy])
  simp only [pendVals, List.flatMap_cons, List.length_append, byteVals_length, List.length_cons] at *
  omega
theorem firmVals_at (l : List Sec) (h : ∀ s ∈ l, s.length = 64) : ∀ (i j : Nat) (s : Sec), l[i]? = some s → j < 64 → (firmVals l)[i * 64 + j]? = (byteVals s)[j]? := by
 induction l with
 | nil => intro i j s hs; simp at hs
 | cons x l ih =>
  intro i j s hs hj
  have h1 := h x (by simp)
  have h2 : (byteVals x).length = 64 := by rw [byteVals_length]; exact h1
  cases i with
  | zero =>
   simp at hs; subst hs
   simp only [firmVals, List.flatMap_cons, Nat.zero_mul, Nat.zero_add]
   rw [List.getElem?_append_left (by omega)]
  | succ i =>
   simp only [firmVals, List.flatMap_cons]
   rw [List.getElem?_append_right (by omega), show (i + 1) * 64 + j - (byteVals x).length = i * 64 + j from by omega]
   exact ih (fun y hy => h y (by simp [hy])) i j s (by simpa using hs) hj
theorem pendVals_at (l : List (Nat × Sec)) (h : ∀ x ∈ l, x.2.length = 64) : ∀ (i : Nat) (x : Nat × Sec), l[i]? = some x → (pendVals l)[i * 65]? = some (.int .i64 (x.1 : Nat)) ∧ ∀ j, j < 64 → (pendVals l)[i * 65 + 1 + j]? = (byteVals x.2)[j]? := by
 induction l with
 | nil => intro i s hs; simp at hs
 | cons y l ih =>
  intro i x hx
  have h1 := h y (by simp)
  have h2 : (byteVals y.2).length = 64 := by rw [byteVals_length]; exact h1
  cases i with
  | zero =>
   simp at hx; subst hx
   simp only [pendVals, List.flatMap_cons, Nat.zero_mul, Nat.zero_add]
   refine ⟨rfl, fun j hj => ?_⟩
   rw [List.getElem?_append_left (by simp; omega), show 1 + j = j + 1 from by omega, List.getElem?_cons_succ]
  | succ i =>
   have := ih (fun z hz => h z (by simp [hz])) i x (by simpa using hx)
   simp only [pendVals, List.flatMap_cons]
   constructor
   ·rw [List.getElem?_append_right (by simp; omega)]
    rw [show (i + 1) * 65 - (Value.int IntKind.i64 (y.1 : Nat) :: byteVals y.2).length = i * 65 from by simp; omega]
    exact this.1
   ·intro j hj
    rw [List.getElem?_append_right (by simp; omega)]
    rw [show (i + 1) * 65 + 1 + j - (Value.int IntKind.i64 (y.1 : Nat) :: byteVals y.2).length = i * 65 + 1 + j from by simp; omega]
    exact this.2 j hj
def dblk (W : World) (pb k : Nat) : Prop :=
 k = pb ∨ (∃ n c, W.cell? ⟨pb, 0, none⟩ = some (.slice (some ⟨k, 0, none⟩) n c)) ∨ ∃ n c, W.cell? ⟨pb, 1, none⟩ = some (.slice (some ⟨k, 0, none⟩) n c)
structure IsDisk (W : World) (lo pb : Nat) (d : MDisk) : Prop where
 low : lo ≤ pb
 ex : ∃ (F c : Nat) (G : Option Addr) (cg : Nat), Blk W pb 72 #[.slice (some ⟨F, 0, none⟩) d.firm.length c, .slice G d.pend.length cg, .int .i64 d.left, .bool d.down, .int .i64 d.writes] ∧
  W.ownsRow lo 79 64 (.slice (some ⟨F, 0, none⟩) d.firm.length c) d.firm.length (firmVals d.firm) ∧ W.ownsRow lo 103 65 (.slice G d.pend.length cg) d.pend.length (pendVals d.pend)
 wf : d.WF
 pos : 0 < d.firm.length ∧ d.firm.length ≤ 4096
theorem okAt_zero {d : MDisk} {i : Int} (h : d.okAt i = 0) : d.down = false ∧ ∃ m : Nat, i = (m : Int) ∧ m < d.firm.length := by
 unfold MDisk.okAt at h
 split at h
 ·cases h
 ·rename_i hd
  split at h
  ·cases h
  ·exact ⟨by simpa using hd, i.toNat, by omega, by omega⟩
structure DStep (pb : Nat) (a b : World) : Prop where
 kept : Kept (dblk a pb) a b
 old : ∀ k, k < a.heap.size → dblk b pb k → dblk a pb k
section
variable {a b c W W' : World} {lo pb : Nat} {d : MDisk}
theorem DStep.refl (pb : Nat) (a : World) : DStep pb a a := ⟨Kept.refl _ _, fun _ _ h => h⟩
theorem DStep.trans (h : DStep pb a b) (k : DStep pb b c) : DStep pb a c :=
 ⟨h.kept.then_ k.kept fun i hi hb => h.old i hi hb, fun i hi hc => h.old i hi (k.old i (Nat.lt_of_lt_of_le hi h.kept.size) hc)⟩
theorem IsDisk.blk (h : IsDisk W lo pb d) : ∃ cs, Blk W pb 72 cs := by obtain ⟨F, c, G, cg, hb, _⟩ := h.ex; exact ⟨_, hb⟩
theorem IsDisk.lt (h : IsDisk W lo pb d) : pb < W.heap.size := by obtain ⟨_, hb⟩ := h.blk; exact hb.lt
theorem DStep.of_cln (h : IsDisk a lo pb d) (k : Cln a b) : DStep pb a b := by
 have kk := Kept.of_below (S := fun _ => False) k
 refine ⟨Kept.of_below k, fun i hi hb => ?_⟩
 have e : b.heap[pb]? = a.heap[pb]? := k.block pb h.lt
 rcases hb with hb | ⟨n, c, hb⟩ | ⟨n, c, hb⟩
 ·exact .inl hb
 ·exact .inr (.inl ⟨n, c, by rw [World.cell?_of_block (a := ⟨pb, 0, none⟩) e] at hb; exact hb⟩)
 ·exact .inr (.inr ⟨n, c, by rw [World.cell?_of_block (a := ⟨pb, 1, none⟩) e] at hb; exact hb⟩)
theorem IsDisk.mem (h : IsDisk W lo pb d) {k : Nat} (hk : dblk W pb k) : lo ≤ k ∧ k < W.heap.size ∧ ∃ cs t, Blk W k t cs ∧ (t = 72 ∨ t = 79 ∨ t = 103) := by
 obtain ⟨F, c, G, cg, hb, hF, hG⟩ := h.ex
 have own : ∀ {e sz n : Nat} {v : Value} {xs : List Value}, W.ownsRow lo e sz v n xs → v.ownBlock = some k → lo ≤ k ∧ k < W.heap.size ∧ ∃ cs, Blk W k e cs := fun {e sz n v xs} ho hv => by
  obtain ⟨h1, h2⟩ := dk_ge ho k hv
  refine ⟨h1, h2, ?_⟩
  rcases ho.2 with ⟨rfl, _⟩ | ⟨g, cap, cur, rfl, _, hg, _⟩
  ·simp [Value.ownBlock] at hv
  ·have : g = k := by simpa [Value.ownBlock] using hv
   subst this; exact ⟨cur, hg⟩
 rcases hk with rfl | ⟨n, c', hk⟩ | ⟨n, c', hk⟩
 ·exact ⟨h.low, hb.lt, _, _, hb, .inl rfl⟩
 ·rw [hb.cell] at hk
  have hk : Value.slice (some ⟨F, 0, none⟩) d.firm.length c = .slice (some ⟨k, 0, none⟩) n c' := by simpa using hk
  injection hk with e _ _; injection e with e; injection e with e _ _; subst e
  obtain ⟨h1, h2, cs, h3⟩ := own hF rfl
  exact ⟨h1, h2, cs, _, h3, .inr (.inl rfl)⟩
 ·rw [hb.cell] at hk
  have hk : Value.slice G d.pend.length cg = .slice (some ⟨k, 0, none⟩) n c' := by simpa using hk
  injection hk with e _ _; subst e
  obtain ⟨h1, h2, cs, h3⟩ := own hG rfl
  exact ⟨h1, h2, cs, _, h3, .inr (.inr rfl)⟩
theorem IsDisk.cln (h : IsDisk a lo pb d) (k : Cln a b) : IsDisk b lo pb d := by
 obtain ⟨F, c, G, cg, hb, hF, hG⟩ := h.ex
 exact ⟨h.low, ⟨F, c, G, cg, hb.cln k, dk_same hF fun i hi => k.block i (dk_ge hF i hi).2, dk_same hG fun i hi => k.block i (dk_ge hG i hi).2⟩, h.wf, h.pos⟩
theorem DStep.cln (h : DStep pb a b) (hd : IsDisk a lo pb d) {w : World} (hw : Cln w a) (hlo : w.heap.size ≤ lo) : Cln w b :=
 hw.trans (Below.mono (h.kept.toBelow (B := w.heap.size) hw.size fun i hi hk => by have := (hd.mem hk).1; omega) (Nat.le_refl _))
theorem DStep.blk (h : DStep pb a b) (hd : IsDisk a lo pb d) {g t : Nat} {cs : Array Value} (hg : Blk a g t cs) (ht : t ≠ 72 ∧ t ≠ 79 ∧ t ≠ 103) : Blk b g t cs :=
 hg.kept h.kept fun hk => by
  obtain ⟨_, _, cs', t', hb, h3⟩ := hd.mem hk
  by_cases e : t = t'
  ·subst e; rcases h3 with h3 | h3 | h3
   ·exact ht.1 h3
   ·exact ht.2.1 h3
   ·exact ht.2.2 h3
  ·exact hg.ne_ hb e rfl
end
theorem blank_vals : byteVals zsec = List.replicate 64 (.int .u8 0) := by unfold zsec byteVals; rw [List.map_replicate]; rfl
theorem firm_blank (n : Nat) : firmVals (List.replicate n zsec) = List.replicate (n * 64) (.int .u8 0) := by
 induction n with
 | zero => rfl
 | succ n ih =>
  rw [List.replicate_succ, firmVals, List.flatMap_cons, blank_vals]
  have : List.flatMap byteVals (List.replicate n zsec) = firmVals (List.replicate n zsec) := rfl
  rw [this, ih, List.replicate_append_replicate]
  congr 1; omega
theorem made_blank (n : Nat) : (madeCells (Value.agg (byteVals zsec).toArray).cells (n * 64)).toList = firmVals (List.replicate n zsec) := by
 rw [firm_blank, blank_vals]
 apply List.ext_getElem
 ·simp [size_madeCells]
 ·intro j h1 h2
  simp only [List.getElem_replicate]
  simp only [madeCells, Value.cells, Array.toList_map, List.getElem_map, Array.toList_range, List.getElem_range, List.size_toArray, List.length_replicate]
  have hj : j % 64 < 64 := Nat.mod_lt _ (by decide)
  rw [getElem!_pos _ _ (by rw [List.size_toArray, List.length_replicate]; exact hj)]
  simp only [List.getElem_toArray, List.getElem_replicate]
theorem dk_new (n : Nat) (h1 : 1 ≤ n) (h2 : n ≤ 4096) (w : World) : Calls Tryz.prog 7 #[.int .i64 (n : Nat)] w fun e w' => ∃ pb, e = .returned (.tuple #[.pointer (some ⟨pb, 0, none⟩), .int .i64 0]) ∧ IsDisk w' w.heap.size pb (newDisk n) ∧ Cln w w' := by
 have t1 : decide ((n : Int) < 1) = false := decide_eq_false (by omega)
 have t2 : decide (4096 < (n : Int)) = false := decide_eq_false (by omega)
 obtain ⟨i, hi, hz, hsz, hby⟩ := info_parts (P := Tryz.prog) (e := 79) (z := .agg (byteVals zsec).toArray) (size := 64) (bytes := 64) (by kernel_rfl)
 obtain ⟨w1, hrun, hown, hg⟩ := run_makeSlice_full (P := Tryz.prog) w w.heap.size 69 79 i _ 64 Tryz.underlying69 hi hz hsz .i64 .i64 n (by omega) (by rw [hby]; omega) (by simp [maxLen]; omega) (Nat.le_refl _)
 rw [made_blank] at hown
 have hk : Cln w w1 := (Kept.refl (fun _ => False) w).grown hg (fun _ e => by cases e) |>.toBelow (Nat.le_refl _) (fun _ _ h => h)
 have hsz1 := hk.size
 clear hi hz hsz hby hg
 replace hown := Lib.hid hown
 go_enter Tryz.func7, Tryz.ntmps7
 go_wp2_with (simp only [hrun])
 go_ret2
 refine ⟨w1.heap.size, rfl, ⟨hk.size, ⟨w.heap.size, n, none, 0, ?_, ?_, World.ownsRow_nil _ _ _ _⟩, newDisk_wf n, by simp [newDisk]; omega⟩, by (repeat with_reducible first | exact cR _ | assumption | refine cA ?_ _ | refine cD ?_ | refine cN ?_ _ | refine cS ?_ (by first | omega | (simp <;> omega)) _)⟩
 ·have := Blk.new w1 72 #[.slice (some ⟨w.heap.size, 0, none⟩) n n, .slice none 0 0, .int .i64 0, .bool false, .int .i64 0]
  simpa [newDisk] using this
 ·have h := dk_same hown.out (w' := w1.alloc (.cells #[.slice (some ⟨w.heap.size, 0, none⟩) n n, .slice none 0 0, .int .i64 0, .bool false, .int .i64 0] 72)) (fun k hk => Below.heap_alloc w1 _ k (dk_ge hown.out k hk).2)
  simpa [newDisk] using h
theorem dk_down {W : World} {lo pb : Nat} {d : MDisk} (h : IsDisk W lo pb d) : Calls Tryz.prog 28 #[.pointer (some ⟨pb, 0, none⟩)] W fun e w' => e = .returned (.bool d.down) ∧ Cln W w' := by
 obtain ⟨F, c, G, cg, hb, hF, hG⟩ := h.ex
 have c3 := hb.cell 3
 have hl := hb.lt
 go_enter Tryz.func28, Tryz.ntmps28
 go_wp2_with fail
 go_ret
 exact ⟨rfl, by (repeat with_reducible first | exact cR _ | assumption | refine cA ?_ _ | refine cD ?_ | refine cN ?_ _ | refine cS ?_ (by first | omega | (simp <;> omega)) _)⟩
theorem dk_len {W : World} {lo pb : Nat} {d : MDisk} (h : IsDisk W lo pb d) : Calls Tryz.prog 67 #[.pointer (some ⟨pb, 0, none⟩)] W fun e w' => e = .returned (.int .i64 (d.firm.length : Nat)) ∧ Cln W w' := by
 obtain ⟨F, c, G, cg, hb, hF, hG⟩ := h.ex
 have c0 := hb.cell 0
 have hl := hb.lt
 go_enter Tryz.func67, Tryz.ntmps67
 go_wp2_with fail
 go_ret
 exact ⟨rfl, by (repeat with_reducible first | exact cR _ | assumption | refine cA ?_ _ | refine cD ?_ | refine cN ?_ _ | refine cS ?_ (by first | omega | (simp <;> omega)) _)⟩
theorem dk_pending {W : World} {lo pb : Nat} {d : MDisk} (h : IsDisk W lo pb d) : Calls Tryz.prog 19 #[.pointer (some ⟨pb, 0, none⟩)] W fun e w' => e = .returned (.int .i64 (d.pend.length : Nat)) ∧ Cln W w' := by
 obtain ⟨F, c, G, cg, hb, hF, hG⟩ := h.ex
 have c1 := hb.cell 1
 have hl := hb.lt
 go_enter Tryz.func19, Tryz.ntmps19
 go_wp2_with fail
 go_ret
 exact ⟨rfl, by (repeat with_reducible first | exact cR _ | assumption | refine cA ?_ _ | refine cD ?_ | refine cN ?_ _ | refine cS ?_ (by first | omega | (simp <;> omega)) _)⟩
theorem dk_writes {W : World} {lo pb : Nat} {d : MDisk} (h : IsDisk W lo pb d) : Calls Tryz.prog 15 #[.pointer (some ⟨pb, 0, none⟩)] W fun e w' => e = .returned (.int .i64 d.writes) ∧ Cln W w' := by
 obtain ⟨F, c, G, cg, hb, hF, hG⟩ := h.ex
 have c4 := hb.cell 4
 have hl := hb.lt
 go_enter Tryz.func15, Tryz.ntmps15
 go_wp2_with fail
 go_ret
 exact ⟨rfl, by (repeat with_reducible first | exact cR _ | assumption | refine cA ?_ _ | refine cD ?_ | refine cN ?_ _ | refine cS ?_ (by first | omega | (simp <;> omega)) _)⟩
theorem dk_new_bad (n : Int) (h : n < 1 ∨ 4096 < n) (w : World) : Calls Tryz.prog 7 #[.int .i64 n] w fun e w' => e = .returned (.tuple #[.pointer none, .int .i64 1]) ∧ Cln w w' := by
 by_cases h1 : n < 1
 ·have t1 : decide (n < 1) = true := decide_eq_true h1
  go_enter Tryz.func7, Tryz.ntmps7
  go_wp2_with fail
  go_ret2
  exact ⟨rfl, by (repeat with_reducible first | exact cR _ | assumption | refine cA ?_ _ | refine cD ?_ | refine cN ?_ _ | refine cS ?_ (by first | omega | (simp <;> omega)) _)⟩
 ·have t1 : decide (n < 1) = false := decide_eq_false h1
  have t2 : decide (4096 < n) = true := decide_eq_true (by omega)
  go_enter Tryz.func7, Tryz.ntmps7
  go_wp2_with fail
  go_ret2
  exact ⟨rfl, by (repeat with_reducible first | exact cR _ | assumption | refine cA ?_ _ | refine cD ?_ | refine cN ?_ _ | refine cS ?_ (by first | omega | (simp <;> omega)) _)⟩
theorem dk_ok {W : World} {lo pb : Nat} {d : MDisk} (h : IsDisk W lo pb d) (i : Int) : Calls Tryz.prog 50 #[.pointer (some ⟨pb, 0, none⟩), .int .i64 i] W fun e w' => e = .returned (.int .i64 (d.okAt i : Nat)) ∧ Cln W w' := by
 obtain ⟨F, c, G, cg, hb, hF, hG⟩ := h.ex
 have c0 := hb.cell 0; have c3 := hb.cell 3
 have hl := hb.lt
 clear hF hG
 cases hd : d.down with
 | true =>
  rw [show d.okAt i = 14 from by unfold MDisk.okAt; rw [if_pos hd]]
  have hdH := Lib.hid hd
  simp only [hd] at c3
  clear hd
  go_enter Tryz.func50, Tryz.ntmps50
  go_wp2_with fail
  go_ret
  exact ⟨rfl, by (repeat with_reducible first | exact cR _ | assumption | refine cA ?_ _ | refine cD ?_ | refine cN ?_ _ | refine cS ?_ (by first | omega | (simp <;> omega)) _)⟩
 | false =>
  simp only [hd] at c3
  by_cases h1 : i < 0
  ·rw [show d.okAt i = 1 from by unfold MDisk.okAt; rw [if_neg (by rw [hd]; decide), if_pos (.inl h1)]]
   clear hd
   have t1 : decide (i < 0) = true := decide_eq_true h1
   go_enter Tryz.func50, Tryz.ntmps50
   go_wp2_with fail
   go_ret
   exact ⟨rfl, by (repeat with_reducible first | exact cR _ | assumption | refine cA ?_ _ | refine cD ?_ | refine cN ?_ _ | refine cS ?_ (by first | omega | (simp <;> omega)) _)⟩
  have t1 : decide (i < 0) = false := decide_eq_false h1
  by_cases h2 : (d.firm.length : Int) ≤ i
  ·rw [show d.okAt i = 1 from by unfold MDisk.okAt; rw [if_neg (by rw [hd]; decide), if_pos (.inr h2)]]
   clear hd
   have t2 : decide ((d.firm.length : Int) ≤ i) = true := decide_eq_true h2
   go_enter Tryz.func50, Tryz.ntmps50
   go_wp2_with fail
   go_ret
   exact ⟨rfl, by (repeat with_reducible first | exact cR _ | assumption | refine cA ?_ _ | refine cD ?_ | refine cN ?_ _ | refine cS ?_ (by first | omega | (simp <;> omega)) _)⟩
  ·rw [show d.okAt i = 0 from by unfold MDisk.okAt; rw [if_neg (by rw [hd]; decide), if_neg (by omega)]]
   clear hd
   have t2 : decide ((d.firm.length : Int) ≤ i) = false := decide_eq_false h2
   go_enter Tryz.func50, Tryz.ntmps50
   go_wp2_with fail
   go_ret
   exact ⟨rfl, by (repeat with_reducible first | exact cR _ | assumption | refine cA ?_ _ | refine cD ?_ | refine cN ?_ _ | refine cS ?_ (by first | omega | (simp <;> omega)) _)⟩
theorem setRow_blk {w : World} {b t : Nat} {cur : Array Value} (h : Blk w b t cur) (new : Array Value) : Blk (w.setRow b new) b t new := by
 unfold Blk at h ⊢
 simp [World.setRow, Array.getElem?_modify, h]
theorem setRow_kept (w : World) (b : Nat) (new : Array Value) : Kept (fun k => k = b) w (w.setRow b new) := by
 refine ⟨rfl, rfl, rfl, by simp [World.setRow], fun k _ hk => ?_⟩
 simp only [World.setRow, Array.getElem?_modify]
 rw [if_neg (fun e => hk e.symm)]
theorem run_store_row {P : Program} {w : World} {b t : Nat} {cur new : Array Value} (hb : Blk w b t cur) {n : Nat} (hi : (P.info? t).map (·.size) = some n) (hc : cur.size = n) (hn : new.size = n) (h1 : new.all (·.oneCell') = true) :
  (Instr.storeAt t (.pointer (some ⟨b, 0, none⟩)) (.agg new)).run P w = .ok () (w.setRow b new) := by
 simp only [Instr.storeAt, Instr.sureAddr, Sem.run_bind, Sem.run_pure, Result.andThen_ok]
 exact run_storeVar_row _ _ t t cur new hb (by rw [hi, hn]) (by rw [hc, hn]) h1
theorem wpList_store_row {P : Program} {ops : Array Oper} {rest : List Oper} {op : Oper} {a : Act} {w : World} {Q : Exit → Act → World → Prop} (hgd : op.guard = none) (ty : TypeId) (x y : Operand) (ho : op.op = .store ty x y)
  (b : Nat) (cur new : Array Value) (n : Nat) (hb : Blk w b ty cur) (hi : (P.info? ty).map (·.size) = some n) (hc : cur.size = n) (hn : new.size = n) (h1 : new.all (·.oneCell') = true)
  (hx : a.eval x = .pointer (some ⟨b, 0, none⟩)) (hy : a.eval y = .agg new)
  (h : wpList P ops Q rest (a.put op.dst undef) (w.setRow b new)) : wpList P ops Q (op :: rest) a w :=
 wpList_plain hgd fun K hK => by
  unfold Oper.wp execOp
  simp only [ho, hx, hy, run_store_row hb hi hc hn h1, Sem.run_bind, Sem.run_pure, Result.andThen_ok]
  exact hK _ _ h
theorem sec_one (s : List UInt8) : (byteVals s).toArray.all (·.oneCell') = true := all_oneCell_toArray (fun v hv => by obtain ⟨b, _, rfl⟩ := List.mem_map.1 hv; rfl)
theorem sec_size {s : List UInt8} (h : s.length = 64) : (byteVals s).toArray.size = 64 := by simp [byteVals, h]
def zeroArr : Array Value := #[.int .u8 0, .int .u8 0, .int .u8 0, .int .u8 0, .int .u8 0, .int .u8 0, .int .u8 0, .int .u8 0, .int .u8 0, .int .u8 0, .int .u8 0, .int .u8 0, .int .u8 0, .int .u8 0, .int .u8 0, .int .u8 0, .int .u8 0, .int .u8 0, .int .u8 0, .int .u8 0, .int .u8 0, .int .u8 0, .int .u8 0, .int .u8 0, .int .u8 0, .int .u8 0, .int .u8 0, .int .u8 0, .int .u8 0, .int .u8 0, .int .u8 0, .int .u8 0, .int .u8 0, .int .u8 0, .int .u8 0, .int .u8 0, .int .u8 0, .int .u8 0, .int .u8 0, .int .u8 0, .int .u8 0, .int .u8 0, .int .u8 0, .int .u8 0, .int .u8 0, .int .u8 0, .int .u8 0, .int .u8 0, .int .u8 0, .int .u8 0, .int .u8 0, .int .u8 0, .int .u8 0, .int .u8 0, .int .u8 0, .int .u8 0, .int .u8 0, .int .u8 0, .int .u8 0, .int .u8 0, .int .u8 0, .int .u8 0, .int .u8 0, .int .u8 0]
theorem zeroArr_eq : zeroArr = (byteVals zsec).toArray := rfl
theorem results_dk {P : Program} {fn : Func} {p p' : Tmp} {ty : TypeId} (h : fn.results = #[.cell p ty, .tmp p']) (tmps : Array Value) (w : World) (g : Nat) (t : TypeId) (cs : Array Value) (d : TypeDesc)
  (hp : tmps.getD p undef = .pointer (some ⟨g, 0, none⟩)) (hg : Blk w g t cs)
  (hu : P.underlying ty = some d) (hd : (match d with | .struct _ | .array _ _ => true | _ => false) = true) (hi : (P.info? ty).map (·.size) = some cs.size) :
  (results fn tmps).run P w = .ok (.tuple #[.agg cs, tmps.getD p' undef]) w := by
 have h1 : tmps[p]?.getD undef = .pointer (some ⟨g, 0, none⟩) := by simpa using hp
 simp [results, h, h1, asAddr, run_loadVar_row w g t ty cs (0, 0) d hg hu hd hi]
theorem own_range {W : World} {lo e sz n c F o : Nat} {xs cs : List Value} (h : W.ownsRow lo e sz (.slice (some ⟨F, 0, none⟩) n c) n xs) (hx : ∀ j v, cs[j]? = some v → xs[o + j]? = some v) : W.rangeAt F o cs := fun j v hv => by
 have := h.cells (g := F) rfl (o + j) v (hx j v hv)
 have e : (⟨F, 0, none⟩ : Addr).add (o + j) = ⟨F, o + j, none⟩ := by unfold Addr.add; split <;> simp_all
 rwa [e] at this
theorem own_cell {W : World} {lo e sz n c F o : Nat} {xs : List Value} {v : Value} (h : W.ownsRow lo e sz (.slice (some ⟨F, 0, none⟩) n c) n xs) (hx : xs[o]? = some v) : W.cell? ⟨F, o, none⟩ = some v := by
 have := h.cells (g := F) rfl o v hx
 have e : (⟨F, 0, none⟩ : Addr).add o = ⟨F, o, none⟩ := by unfold Addr.add; split <;> simp_all
 rwa [e] at this
set_option maxHeartbeats 4000000 in
theorem dk_read {W : World} {lo pb : Nat} {d : MDisk} (h : IsDisk W lo pb d) (i : Int) : Calls Tryz.prog 48 #[.pointer (some ⟨pb, 0, none⟩), .int .i64 i] W fun e w' => e = .returned (.tuple #[.agg (byteVals (if d.okAt i = 0 then d.cur.getD i.toNat zsec else zsec)).toArray, .int .i64 (d.okAt i : Nat)]) ∧ Cln W w' := by
 have hi79 : (Tryz.prog.info? 79).map (·.size) = some 64 := by kernel_rfl
 have hk0 : Cln W (W.alloc (.cells #[.int .u8 0, .int .u8 0, .int .u8 0, .int .u8 0, .int .u8 0, .int .u8 0, .int .u8 0, .int .u8 0, .int .u8 0, .int .u8 0, .int .u8 0, .int .u8 0, .int .u8 0, .int .u8 0, .int .u8 0, .int .u8 0, .int .u8 0, .int .u8 0, .int .u8 0, .int .u8 0, .int .u8 0, .int .u8 0, .int .u8 0, .int .u8 0, .int .u8 0, .int .u8 0, .int .u8 0, .int .u8 0, .int .u8 0, .int .u8 0, .int .u8 0, .int .u8 0, .int .u8 0, .int .u8 0, .int .u8 0, .int .u8 0, .int .u8 0, .int .u8 0, .int .u8 0, .int .u8 0, .int .u8 0, .int .u8 0, .int .u8 0, .int .u8 0, .int .u8 0, .int .u8 0, .int .u8 0, .int .u8 0, .int .u8 0, .int .u8 0, .int .u8 0, .int .u8 0, .int .u8 0, .int .u8 0, .int .u8 0, .int .u8 0, .int .u8 0, .int .u8 0, .int .u8 0, .int .u8 0, .int .u8 0, .int .u8 0, .int .u8 0, .int .u8 0] 79)) := by (repeat with_reducible first | exact cR _ | assumption | refine cA ?_ _ | refine cD ?_ | refine cN ?_ _ | refine cS ?_ (by first | omega | (simp <;> omega)) _)
 have hb0 : Blk (W.alloc (.cells #[.int .u8 0, .int .u8 0, .int .u8 0, .int .u8 0, .int .u8 0, .int .u8 0, .int .u8 0, .int .u8 0, .int .u8 0, .int .u8 0, .int .u8 0, .int .u8 0, .int .u8 0, .int .u8 0, .int .u8 0, .int .u8 0, .int .u8 0, .int .u8 0, .int .u8 0, .int .u8 0, .int .u8 0, .int .u8 0, .int .u8 0, .int .u8 0, .int .u8 0, .int .u8 0, .int .u8 0, .int .u8 0, .int .u8 0, .int .u8 0, .int .u8 0, .int .u8 0, .int .u8 0, .int .u8 0, .int .u8 0, .int .u8 0, .int .u8 0, .int .u8 0, .int .u8 0, .int .u8 0, .int .u8 0, .int .u8 0, .int .u8 0, .int .u8 0, .int .u8 0, .int .u8 0, .int .u8 0, .int .u8 0, .int .u8 0, .int .u8 0, .int .u8 0, .int .u8 0, .int .u8 0, .int .u8 0, .int .u8 0, .int .u8 0, .int .u8 0, .int .u8 0, .int .u8 0, .int .u8 0, .int .u8 0, .int .u8 0, .int .u8 0, .int .u8 0] 79)) W.heap.size 79 zeroArr := Blk.new W _ _
 have hO := dk_ok (h.cln hk0) i
 have hi79' := Lib.hid hi79
 have hzs : zeroArr.size = 64 := rfl
 have hzo : zeroArr.all (·.oneCell') = true := sec_one zsec
 clear hi79
 by_cases hz : d.okAt i = 0
 case neg =>
  rw [if_neg hz]
  go_enter Tryz.func48, Tryz.ntmps48
  go_wp2_with fail
  refine hO.mono ?_; rintro e w1 ⟨rfl, hq⟩
  have hb1 := hb0.cln hq
  have hcl1 := Lib.hid (cln_trans hk0 hq)
  clear hO hb0 hk0 hq
  have tz : (((d.okAt i : Nat) : Int) != 0) = true := by rw [bne_iff_ne]; omega
  have hb2 := Lib.hid (setRow_blk hb1 zeroArr)
  have hk2 := Lib.hid (setRow_kept w1 W.heap.size zeroArr)
  replace hb1 := Lib.hid hb1
  go_wp2_with ((with_reducible refine wpList_store_row rfl 79 _ _ rfl W.heap.size zeroArr zeroArr 64 hb1.out hi79'.out hzs hzs hzo ?hx ?hy ?_); (case hx => rfl); (case hy => rfl))
  refine bodyPost_ret (v := .tuple #[.agg zeroArr, .int .i64 (d.okAt i : Nat)]) ?_ rfl ⟨by rw [zeroArr_eq], ?_⟩
  ·exact results_dk Tryz.results48 _ _ W.heap.size 79 zeroArr _ rfl hb2.out Tryz.underlying79 rfl (by rw [hi79'.out, hzs])
  ·exact ((Kept.of_below (S := fun k => k = W.heap.size) hcl1.out).trans hk2.out).toBelow (Nat.le_refl _) (fun k hk e => by have e : k = W.heap.size := e; omega)
 rw [if_pos hz]
 obtain ⟨hdn, m, rfl, hm⟩ := okAt_zero hz
 rw [hz] at hO ⊢
 obtain ⟨F, c, G, cg, hbd, hF, hG⟩ := h.ex
 have hkb : d.pend.length ≤ 9223372036854775807 := by obtain ⟨_, _, hv, _, h1, h2⟩ := own_form hG; injection hv with _ _ e; simp [maxLen] at h2; omega
 have hwf := h.wf
 have hcur : d.cur.getD ((m : Int)).toNat zsec = (d.cur[m]?).getD zsec := by rw [List.getD_eq_getElem?_getD]; rfl
 rw [hcur]
 clear hcur
 have hG0 := Lib.hid hG; have hF0 := Lib.hid hF; have hbd0 := Lib.hid hbd
 clear hG hF hbd
 go_enter Tryz.func48, Tryz.ntmps48
 go_wp2_with fail
 refine hO.mono ?_; rintro e w1 ⟨rfl, hq⟩
 have hb1 := Lib.hid (hb0.cln hq)
 have hcl1 := Lib.hid (cln_trans hk0 hq)
 clear hO hb0 hk0 hq hz
 have c1 := (hbd0.out.cln hcl1.out).cell 1
 have cl := (hbd0.out.cln hcl1.out).lt
 have tz : (((0 : Nat) : Int) != 0) = false := by decide
 have tw : wrap64 ((d.pend.length : Int) - 1) = (d.pend.length : Int) - 1 := by unfold wrap64; omega
 replace hkb := Lib.hid hkb
 go_wp2_with fail
 go_loopw [7] (fun v wr => ∃ (t : Nat) (z : Int), t ≤ d.pend.length ∧ z = (t : Int) - 1 ∧ v = .int .i64 z ∧ Hid (∀ j y, t ≤ j → d.pend[j]? = some y → y.1 ≠ m) ∧ Hid (Cln W wr) ∧ Hid (Blk wr W.heap.size 79 zeroArr)) (fun v _ => (intOf v + 1).toNat)
 case atStart =>
  refine ⟨d.pend.length, (d.pend.length : Int) - 1, Nat.le_refl _, rfl, by rw [tw], fun j y h1 h2 => ?_, Lib.hid (cln_trans hcl1.out (by (repeat with_reducible first | exact cR _ | assumption | refine cA ?_ _ | refine cD ?_ | refine cN ?_ _ | refine cS ?_ (by first | omega | (simp <;> omega)) _))), Lib.hid (hb1.out.cln (by (repeat with_reducible first | exact cR _ | assumption | refine cA ?_ _ | refine cD ?_ | refine cN ?_ _ | refine cS ?_ (by first | omega | (simp <;> omega)) _)))⟩
  rw [List.getElem?_eq_none h1] at h2; cases h2
 case round =>
  clear hcl1 hb1 c1 cl tw
  obtain ⟨t, z, ht, hze, rfl, hno, hcl, hb⟩ := hrel
  have c1 := (hbd0.out.cln hcl.out).cell 1; have c0 := (hbd0.out.cln hcl.out).cell 0
  have cl := (hbd0.out.cln hcl.out).lt
  have hb2 := fun s : List UInt8 => Lib.hid (setRow_blk hb.out (byteVals s).toArray)
  by_cases h0 : t = 0
  ·have t1 : decide (0 ≤ z) = false := decide_eq_false (by omega)
   have hcm := List.getElem?_eq_getElem hm
   have hcv : d.cur[m]? = some d.firm[m] := by unfold MDisk.cur; rw [layAll_none _ _ m (fun x hx => ?_), hcm]; obtain ⟨j, hj, rfl⟩ := List.getElem_of_mem hx; exact hno.out j _ (by omega) (List.getElem?_eq_getElem hj)
   have hlen := hwf.firm d.firm[m] (List.getElem_mem hm)
   have hr : wr.rangeAt F (m * 64) (byteVals d.firm[m]) := own_range (dk_same hF0.out (fun k hk => hcl.out.block k (dk_ge hF0.out k hk).2)) (fun j v hv => by rw [firmVals_at _ hwf.firm m j _ hcm (by have := (List.getElem?_eq_some_iff.1 hv).1; rw [byteVals_length] at this; omega)]; exact hv)
   have hl : (Tryz.prog.info? 79).map (·.size) = some (byteVals d.firm[m]).length := by rw [hi79'.out, byteVals_length, hlen]
   replace hcv := Lib.hid hcv
   clear hno hcm
   generalize d.firm[m] = s at *
   have hss := sec_size hlen
   have hso := sec_one s
   have ig1 : (0 : Int) ≤ (m : Int) := by omega
   have ig2 : (m : Int) < (d.firm.length : Int) := by omega
   replace hr := Lib.hid hr; replace hl := Lib.hid hl
   go_wp2_with (first | ((with_reducible refine wpList_store_row rfl 79 _ _ rfl W.heap.size zeroArr (byteVals s).toArray 64 hb.out hi79'.out hzs hss hso ?hx ?hy ?_); (case hx => rfl); (case hy => rfl)) | ((with_reducible refine wpList_load_mid rfl 79 _ rfl F (m * 64) ?hx (byteVals s) _ hr.out Tryz.underlying79 rfl hl.out ?_); (case hx => rfl)))
   refine bodyPost_ret (v := .tuple #[.agg (byteVals s).toArray, .int .i64 0]) ?_ rfl ⟨by rw [hcv.out]; rfl, ?_⟩
   ·exact results_dk Tryz.results48 _ _ W.heap.size 79 (byteVals s).toArray _ rfl (setRow_blk hb.out _) Tryz.underlying79 rfl (by rw [hi79'.out, hss])
   ·exact ((Kept.of_below (S := fun k => k = W.heap.size) hcl.out).trans (setRow_kept wr W.heap.size _)).toBelow (Nat.le_refl _) (fun k hk e => by have e : k = W.heap.size := e; omega)
  ·obtain ⟨u, rfl⟩ : ∃ u, t = u + 1 := ⟨t - 1, by omega⟩
   obtain rfl : z = (u : Int) := by omega
   clear hze h0
   have t1 : decide (0 ≤ (u : Int)) = true := decide_eq_true (by omega)
   have hG1 : wr.ownsRow lo 103 65 (.slice G d.pend.length cg) d.pend.length (pendVals d.pend) := dk_same hG0.out (fun k hk => hcl.out.block k (dk_ge hG0.out k hk).2)
   obtain ⟨g, cap, hv⟩ : ∃ g cap, Value.slice G d.pend.length cg = .slice (some ⟨g, 0, none⟩) d.pend.length cap := by
    rcases hG1.2 with ⟨_, hn⟩ | ⟨g, cap, cur, hv, _⟩
    ·omega
    ·exact ⟨g, cap, hv⟩
   injection hv with e1 e3 e2; subst e1; subst e2; clear e3
   have hu : u < d.pend.length := by omega
   obtain ⟨x, hx⟩ : ∃ x, d.pend[u]? = some x := ⟨_, List.getElem?_eq_getElem hu⟩
   have hxm : x ∈ d.pend := List.mem_of_getElem? hx
   obtain ⟨hx1, hx2⟩ := hwf.pend x hxm
   obtain ⟨pv0, pv1⟩ := pendVals_at _ (fun y hy => (hwf.pend y hy).2) u x hx
   have gc : wr.cell? ⟨g, u * 65, none⟩ = some (.int .i64 (x.1 : Nat)) := own_cell hG1 pv0
   have ig1 : (0 : Int) ≤ (u : Int) := by omega
   have ig2 : (u : Int) < (d.pend.length : Int) := by omega
   by_cases he : x.1 = m
   ·have te : (((x.1 : Nat) : Int) == (m : Int)) = true := by rw [beq_iff_eq]; omega
    have hcv := Lib.hid (show d.cur[m]? = some x.2 from layAll_last d.firm d.pend u m x hx he hm (fun j y h1 h2 => hno.out j y (by omega) h2))
    have hr : wr.rangeAt g (u * 65 + 1) (byteVals x.2) := own_range hG1 (fun j v hv => by rw [pv1 j (by have := (List.getElem?_eq_some_iff.1 hv).1; rw [byteVals_length] at this; omega)]; exact hv)
    have hl : (Tryz.prog.info? 79).map (·.size) = some (byteVals x.2).length := by rw [hi79'.out, byteVals_length, hx2]
    clear hno pv0 pv1 hG1 he hxm hx1 hx hu
    replace ht := Lib.hid ht
    generalize x.2 = s at *
    have hss := sec_size hx2
    have hso := sec_one s
    replace hr := Lib.hid hr; replace hl := Lib.hid hl
    go_wp2_with (first | ((with_reducible refine wpList_store_row rfl 79 _ _ rfl W.heap.size zeroArr (byteVals s).toArray 64 hb.out hi79'.out hzs hss hso ?hx ?hy ?_); (case hx => rfl); (case hy => rfl)) | ((with_reducible refine wpList_load_mid rfl 79 _ rfl g (u * 65 + 1) ?hx (byteVals s) _ hr.out Tryz.underlying79 rfl hl.out ?_); (case hx => rfl)))
    refine bodyPost_ret (v := .tuple #[.agg (byteVals s).toArray, .int .i64 0]) ?_ rfl ⟨by rw [hcv.out]; rfl, ?_⟩
    ·exact results_dk Tryz.results48 _ _ W.heap.size 79 (byteVals s).toArray _ rfl (setRow_blk hb.out _) Tryz.underlying79 rfl (by rw [hi79'.out, hss])
    ·exact ((Kept.of_below (S := fun k => k = W.heap.size) hcl.out).trans (setRow_kept wr W.heap.size _)).toBelow (Nat.le_refl _) (fun k hk e => by have e : k = W.heap.size := e; omega)
   ·have te : (((x.1 : Nat) : Int) == (m : Int)) = false := by rw [beq_eq_false_iff_ne]; omega
    have tw : wrap64 ((u : Int) - 1) = (u : Int) - 1 := by have := hkb.out; unfold wrap64; omega
    have hno' : Hid (∀ j y, u ≤ j → d.pend[j]? = some y → y.1 ≠ m) := fun j y h1 h2 => by
     rcases Nat.lt_or_ge u j with h3 | h3
     ·exact hno.out j y (by omega) h2
     ·obtain rfl : j = u := by omega
      rw [hx] at h2; injection h2 with h2; subst h2; exact he
    clear hno pv0 pv1 hG1 hx hxm hx1 hu
    replace ht := Lib.hid ht
    go_wp2_with fail
    go_roundw
    case rel => exact ⟨u, (u : Int) - 1, by have := ht.out; omega, rfl, by rw [tw], hno', hcl, hb⟩
    case measure => simp [intOf]; omega
theorem foldl_fill (off : Nat) : ∀ (l : List Value) (j0 : Nat) (acc : Array Value), off + j0 + l.length ≤ acc.size →
  (l.zipIdx j0).foldl (fun cs x => cs.setIfInBounds (off + x.2) x.1) acc = (acc.toList.take (off + j0) ++ (l ++ acc.toList.drop (off + j0 + l.length))).toArray
 | [], j0, acc, _ => by simp
 | v :: r, j0, acc, h => by
  have ih := foldl_fill off r (j0 + 1) (acc.setIfInBounds (off + j0) v) (by simp at h ⊢; omega)
  rw [List.zipIdx_cons, List.foldl_cons, ih]
  congr 1
  have hlt : off + j0 < acc.toList.length := by simp at h ⊢; omega
  rw [Array.toList_setIfInBounds, List.length_cons]
  have e1 : (acc.toList.set (off + j0) v).take (off + (j0 + 1)) = acc.toList.take (off + j0) ++ [v] := by
   rw [show off + (j0 + 1) = off + j0 + 1 from by omega, List.take_add_one, List.take_set_of_le (by omega), List.getElem?_set, if_pos rfl, if_pos hlt]
   rfl
  have e2 : (acc.toList.set (off + j0) v).drop (off + (j0 + 1) + r.length) = acc.toList.drop (off + j0 + (r.length + 1)) := by
   rw [List.drop_set_of_lt (by omega)]
   congr 1; omega
  rw [e1, e2]; simp
theorem fill_cons (place : Nat → Option (Nat × Nat)) (cells : Array Value) (i : Nat) (v : Value) (rest : List (Nat × Value)) (off : Nat) (cs : List Value) (hp : place i = some (off, cs.length)) (hv : v.cells = cs.toArray) (hc : off + cs.length ≤ cells.size) :
  Instr.fill place cells ((i, v) :: rest) = Instr.fill place (cells.toList.take off ++ (cs ++ cells.toList.drop (off + cs.length))).toArray rest := by
 have h := foldl_fill off cs 0 cells (by omega)
 simp only [Nat.add_zero] at h
 rw [Instr.fill, hp]
 simp only [hv]
 rw [if_neg (by simp; omega), ← h]
 congr 1
 rw [← Array.foldl_toList, Array.toList_zipIdx]
def pendCells (i : Nat) (s : List UInt8) : List Value := .int .i64 (i : Nat) :: byteVals s
theorem pendCells_length (i : Nat) {s : List UInt8} (h : s.length = 64) : (pendCells i s).length = 65 := by simp [pendCells, byteVals_length, h]
theorem pendCells_one (i : Nat) (s : List UInt8) : ∀ v ∈ pendCells i s, v.oneCell' = true := fun v hv => by
 rcases List.mem_cons.1 hv with rfl | h
 ·rfl
 ·obtain ⟨b, _, rfl⟩ := List.mem_map.1 h; rfl
theorem info_write : (Tryz.prog.info? 103).map (fun i => (i.zero, i.size, i.bytes)) = some (some (.agg (pendCells 0 zsec).toArray), 65, 72) := by kernel_rfl
theorem places_write : ∃ fs, Tryz.prog.underlying 103 = some (.struct fs) ∧ fs.toList.mapM (fun f => (Tryz.prog.info? f.type).map fun i => (f.offset, i.size)) = some [(0, 1), (1, 64)] := ⟨_, Tryz.underlying103, by kernel_rfl⟩
theorem build_write (i : Nat) (s : List UInt8) (hs : s.length = 64) (w : World) : (Instr.build 103 #[(0, .int .i64 (i : Nat)), (1, .agg (byteVals s).toArray)]).run Tryz.prog w = .ok (.agg (pendCells i s).toArray) w := by
 obtain ⟨it, hit, hz, _, _⟩ := info_parts info_write
 obtain ⟨fs, hu, hp⟩ := places_write
 refine run_build w _ _ _ ?_
 unfold Program.built
 simp only [hit, hu, hz, hp]
 show Instr.fill _ (pendCells 0 zsec).toArray [(0, Value.int .i64 (i : Nat)), (1, .agg (byteVals s).toArray)] = _
 rw [fill_cons _ _ 0 _ _ 0 [.int .i64 (i : Nat)] rfl rfl (by simp [pendCells, byteVals]), fill_cons _ _ 1 _ _ 1 (byteVals s) (by rw [byteVals_length, hs]; rfl) rfl (by simp [pendCells, byteVals_length, hs, zsec])]
 have hd : (byteVals zsec).drop (byteVals s).length = [] := List.drop_of_length_le (by rw [byteVals_length, byteVals_length, hs, blank_len]; exact Nat.le_refl _)
 simp [Instr.fill, pendCells, Nat.add_comm 1, hd]
theorem row_write (i : Nat) (s : List UInt8) (hs : s.length = 64) (w : World) : (Instr.buildSlice 70 1 #[(0, .agg (pendCells i s).toArray)]).run Tryz.prog w = .ok (.slice (some ⟨w.heap.size, 0, none⟩) 1 1) (w.alloc (.cells (pendCells i s).toArray 103)) := by
 obtain ⟨it, hit, hz, hsz, _⟩ := info_parts info_write
 refine run_buildSlice w _ _ 1 _ _ it _ Tryz.underlying70 hit hz (by rw [hsz]; decide) (by rw [hsz]; decide) ?_
 rw [hsz]
 show Instr.fill _ _ [(0, .agg (pendCells i s).toArray)] = _
 rw [fill_cons _ _ 0 _ _ 0 (pendCells i s) (by rw [pendCells_length i hs]) rfl (by simp [pendCells_length i hs])]
 have hl := pendCells_length i hs
 simp only [Instr.fill, List.take_zero, List.nil_append]
 rw [List.drop_of_length_le (by simp [hl]), List.append_nil]
def downCode (d : MDisk) : Int := if d.down then 14 else 0
theorem step_load_sec {P : Program} {w : World} {ops : Array Oper} {o : Oper} {a : Act} {K : Act → World → Prop} {Q : Exit → Act → World → Prop} {E : Prop} (hgd : o.guard = none) (ty : TypeId) (x : Operand) (ho : o.op = .load ty x)
  (b of_ : Nat) (hx : a.eval x = .pointer (some ⟨b, of_, none⟩)) (cs : List Value) (d : TypeDesc) (hc : w.rangeAt b of_ cs) (hu : P.underlying ty = some d) (hd : d.isRow = true) (hi : (P.info? ty).map (·.size) = some cs.length)
  (h : K (a.put o.dst (.agg cs.toArray)) w) : if Region.wanted o (yielded ops a.tmps) = true then Oper.wp P o a w K Q else E := by
 have hw : Region.wanted o (yielded ops a.tmps) = true := by simp [Region.wanted, hgd]
 rw [if_pos hw]
 exact wp_load_mid ty x ho b of_ hx cs d hc hu hd hi h
theorem step_push1 {P : Program} {w0 : World} {ops : Array Oper} {o : Oper} {a : Act} {K : Act → World → Prop} {Q : Exit → Act → World → Prop} {E : Prop} (hgd : o.guard = none) (s x : Operand) (t : TypeId)
  (ho : o.op = .call { callee := .builtin .append, args := #[s, x], argTypes := #[t, t] })
  (base : Nat) (e : TypeId) (i : TypeInfo) (z : Value) (size bytes : Nat) (ht : P.underlying t = some (.slice e)) (hi : P.info? e = some i) (hz : i.zero = some z)
  (hsize : i.size = size) (hby : i.bytes = bytes) (hzs : z.cells.size = size) (hsz : 0 < size) (hbpos : 0 < bytes)
  (v : Value) (n : Nat) (xs : List Value) (l : List Value) (hl : l.length = size) (h1 : ∀ u ∈ l, u.oneCell' = true)
  (hs : a.eval s = v) (hx : a.eval x = .slice (some ⟨w0.heap.size, 0, none⟩) 1 1)
  (hown : w0.ownsRow base e size v n xs) (hbytes : (n + 1) * bytes ≤ 140737488355328) (hbase : base ≤ w0.heap.size)
  (h : ∀ v' w', w'.ownsRow base e size v' (n + 1) (xs ++ l) → (w0.alloc (.cells l.toArray e)).grownBy w' v.ownBlock → (v'.ownBlock = v.ownBlock ∨ v'.ownBlock = some (w0.alloc (.cells l.toArray e)).heap.size) → K (a.put o.dst v') w') :
  if Region.wanted o (yielded ops a.tmps) = true then Oper.wp P o a (w0.alloc (.cells l.toArray e)) K Q else E := by
 have hw : Region.wanted o (yielded ops a.tmps) = true := by simp [Region.wanted, hgd]
 rw [if_pos hw]
 have h63 : n + 1 ≤ maxLen := by
  have : n + 1 ≤ (n + 1) * bytes := Nat.le_mul_of_pos_right _ hbpos
  simp only [maxLen]; omega
 obtain ⟨v', w', hr, h2, h3, h4, h5⟩ := run_append_own_at (P := P) (w0.alloc (.cells l.toArray e)) base t o.type e i z size bytes ht hi hz hsize hby hzs hsz v n xs (dk_same hown (fun k hk => Below.heap_alloc w0 _ k (dk_ge hown k hk).2)) ⟨w0.heap.size, 0, none⟩ 1 1 l (by omega) (by
  intro j u hj
  have e2 : (⟨w0.heap.size, 0, none⟩ : Addr).add j = ⟨w0.heap.size, j, none⟩ := by unfold Addr.add; split <;> simp_all
  rw [e2, (Blk.new w0 e l.toArray).cell j]
  simpa using hj) h1 h63 hbytes (by simp; omega)
 unfold Oper.wp execOp
 simp only [ho, resolve, invoke, builtin, Sem.run_bind, Sem.run_pure, Result.andThen_ok, List.map_toArray, List.map_cons, List.map_nil, hs, hx, hr]
 exact h v' w' h2 h3 h5
theorem run_build_op {P : Program} {o : Oper} {a : Act} {t : TypeId} {parts : Array (Nat × Operand)} {parts' : Array (Nat × Value)} {v : Value} (ho : o.op = .build t parts) (hp : (parts.toList.map fun x => (x.1, a.eval x.2)) = parts'.toList) (hr : ∀ w, (Instr.build t parts').run P w = .ok v w) (w : World) : (execOp a.eval o).run P w = .ok (.value v) w := by
 obtain rfl : (parts.map fun x => (x.1, a.eval x.2)) = parts' := Array.ext' (by simpa using hp)
 unfold execOp
 simp only [ho, Sem.run_bind, hr w, Result.andThen_ok, Sem.run_pure]
theorem step_row {P : Program} {w w' : World} {ops : Array Oper} {o : Oper} {a : Act} {K : Act → World → Prop} {Q : Exit → Act → World → Prop} {E : Prop} {t : TypeId} {n : Nat} {parts : Array (Nat × Operand)} {parts' : Array (Nat × Value)} {v : Value} (hgd : o.guard = none) (ho : o.op = .buildSlice t n parts) (hp : (parts.toList.map fun x => (x.1, a.eval x.2)) = parts'.toList)
  (hr : (Instr.buildSlice t n parts').run P w = .ok v w') (h : K (a.put o.dst v) w') : if Region.wanted o (yielded ops a.tmps) = true then Oper.wp P o a w K Q else E := by
 have hw : Region.wanted o (yielded ops a.tmps) = true := by simp [Region.wanted, hgd]
 rw [if_pos hw]
 obtain rfl : (parts.map fun x => (x.1, a.eval x.2)) = parts' := Array.ext' (by simpa using hp)
 unfold Oper.wp execOp
 simp only [ho, Sem.run_bind, hr, Result.andThen_ok, Sem.run_pure]
 exact h
structure WrMid (W w3 : World) (lo pb : Nat) (d : MDisk) (F c : Nat) (A2 : Option Addr) (c2 m : Nat) (s : List UInt8) : Prop where
 blk : Blk w3 pb 72 #[.slice (some ⟨F, 0, none⟩) d.firm.length c, .slice A2 (d.pend.length + 1) c2, .int .i64 d.left, .bool false, .int .i64 d.writes]
 firm : w3.ownsRow lo 79 64 (.slice (some ⟨F, 0, none⟩) d.firm.length c) d.firm.length (firmVals d.firm)
 pend : w3.ownsRow lo 103 65 (.slice A2 (d.pend.length + 1) c2) (d.pend.length + 1) (pendVals (d.pend ++ [(m, s)]))
 kept : Kept (dblk W pb) W w3
 fresh : ∀ g, (Value.slice A2 (d.pend.length + 1) c2).ownBlock = some g → g < W.heap.size → dblk W pb g
 old : dblk W pb F
theorem write_mid {W w1 w2 : World} {lo pb : Nat} {d : MDisk} {F c : Nat} {G A2 : Option Addr} {cg c2 m : Nat} {s : List UInt8} (hcl : Cln W w1)
  (hb : Blk W pb 72 #[.slice (some ⟨F, 0, none⟩) d.firm.length c, .slice G d.pend.length cg, .int .i64 d.left, .bool false, .int .i64 d.writes]) (hF : W.ownsRow lo 79 64 (.slice (some ⟨F, 0, none⟩) d.firm.length c) d.firm.length (firmVals d.firm)) (hG : W.ownsRow lo 103 65 (.slice G d.pend.length cg) d.pend.length (pendVals d.pend))
  (hown : w2.ownsRow lo 103 65 (.slice A2 (d.pend.length + 1) c2) (d.pend.length + 1) (pendVals d.pend ++ pendCells m s))
  (hgr : (w1.drew.alloc (.cells (pendCells m s).toArray 103)).grownBy w2 (Value.slice G d.pend.length cg).ownBlock)
  (hv : (Value.slice A2 (d.pend.length + 1) c2).ownBlock = (Value.slice G d.pend.length cg).ownBlock ∨ (Value.slice A2 (d.pend.length + 1) c2).ownBlock = some (w1.drew.alloc (.cells (pendCells m s).toArray 103)).heap.size) :
  Blk w2 pb 72 #[.slice (some ⟨F, 0, none⟩) d.firm.length c, .slice G d.pend.length cg, .int .i64 d.left, .bool false, .int .i64 d.writes] ∧ WrMid W (w2.setCell ⟨pb, 1, none⟩ (.slice A2 (d.pend.length + 1) c2)) lo pb d F c A2 c2 m s := by
 have hsz : W.heap.size ≤ w1.heap.size := hcl.size
 have hGb : ∀ g, (Value.slice G d.pend.length cg).ownBlock = some g → dblk W pb g := fun g hg => by
  obtain ⟨A', c', hv', hA, _⟩ := own_form hG
  injection hv' with e1 _ e2; subst e1; subst e2
  cases G with
  | none => simp [Value.ownBlock] at hg
  | some ad =>
   obtain ⟨h1, h2, _, _⟩ := hA ad rfl
   have e : ad.block = g := by simpa [Value.ownBlock] using hg
   refine .inr (.inr ⟨d.pend.length, cg, ?_⟩)
   rw [hb.cell]
   have : ad = ⟨g, 0, none⟩ := by cases ad; simp_all
   rw [this]; rfl
 have hk2 : Kept (dblk W pb) W w2 := ((Kept.of_below (S := dblk W pb) hcl).drew.alloc _).grown hgr (fun k hk _ => hGb k hk)
 have hb1 : Blk (w1.drew.alloc (.cells (pendCells m s).toArray 103)) pb 72 #[.slice (some ⟨F, 0, none⟩) d.firm.length c, .slice G d.pend.length cg, .int .i64 d.left, .bool false, .int .i64 d.writes] := (hb.cln hcl).drew.alloc _
 have hneG : (Value.slice G d.pend.length cg).ownBlock ≠ some pb := own_ne hG hb (by decide)
 have hb2 : Blk w2 pb 72 #[.slice (some ⟨F, 0, none⟩) d.firm.length c, .slice G d.pend.length cg, .int .i64 d.left, .bool false, .int .i64 d.writes] := (hgr.block pb hb1.lt (fun e => hneG e.symm)).trans hb1
 have hne2 : (Value.slice A2 (d.pend.length + 1) c2).ownBlock ≠ some pb := own_ne hown hb2 (by decide)
 have hFF : dblk W pb F := .inr (.inl ⟨d.firm.length, c, by rw [hb.cell]; rfl⟩)
 have hFne : F ≠ pb := fun e => own_ne hF hb (by decide) (by rw [e]; rfl)
 have hF2 : w2.ownsRow lo 79 64 (.slice (some ⟨F, 0, none⟩) d.firm.length c) d.firm.length (firmVals d.firm) := dk_same hF (fun k hk => by
  have hkl := (dk_ge hF k hk).2
  have hne : some k ≠ (Value.slice G d.pend.length cg).ownBlock := fun e => by
   rcases hF.2 with ⟨hh, _⟩ | ⟨g, cap, cur, hh, _, hgg, _⟩
   ·cases hh
   ·have : g = k := by rw [hh] at hk; simpa [Value.ownBlock] using hk
    subst this
    exact own_ne hG (show Blk W g 79 cur from hgg) (by decide) e.symm
  exact (hgr.block k (by simp; omega) hne).trans ((Below.heap_alloc w1.drew _ k (show k < w1.heap.size by omega)).trans (hcl.block k hkl)))
 refine ⟨hb2, ?_, ?_, ?_, ?_, ?_, hFF⟩
 ·exact hb2.set_ 1 _
 ·exact dk_same hF2 (fun k hk => Below.heap_setCell w2 _ _ k (by have e9 : F = k := (by simpa [Value.ownBlock] using hk); subst e9; exact hFne))
 ·have e : pendVals (d.pend ++ [(m, s)]) = pendVals d.pend ++ pendCells m s := by simp [pendVals, pendCells]
  rw [e]
  exact dk_same hown (fun k hk => Below.heap_setCell w2 _ _ k (fun e => hne2 (by rw [hk]; exact congrArg some e)))
 ·exact hk2.setCell (p := ⟨pb, 1, none⟩) (fun _ => .inl rfl) _
 ·intro g hg hlt
  rcases hv with h1 | h1
  ·exact hGb g (h1 ▸ hg)
  ·rw [h1] at hg; injection hg with hg; simp at hg; omega
theorem wr_done {W w3 w4 : World} {lo pb : Nat} {d : MDisk} {F c : Nat} {A2 : Option Addr} {c2 m : Nat} {s : List UInt8} {l' n' : Int} {b' : Bool} (h : IsDisk W lo pb d) (hm : m < d.firm.length) (hs : s.length = 64) (hst : WrMid W w3 lo pb d F c A2 c2 m s)
  (hk : Kept (fun k => k = pb) w3 w4) (hb : Blk w4 pb 72 #[.slice (some ⟨F, 0, none⟩) d.firm.length c, .slice A2 (d.pend.length + 1) c2, .int .i64 l', .bool b', .int .i64 n']) :
  IsDisk w4 lo pb ⟨d.firm, d.pend ++ [(m, s)], l', b', n'⟩ ∧ DStep pb W w4 := by
 have hwf : (MDisk.mk d.firm (d.pend ++ [(m, s)]) l' b' n').WF := by
  refine ⟨h.wf.firm, fun p hp => ?_⟩
  rcases List.mem_append.1 hp with h1 | h1
  ·exact h.wf.pend p h1
  ·simp at h1; subst h1; exact ⟨hm, hs⟩
 refine ⟨⟨h.low, ⟨F, c, A2, c2, ?_, ?_, ?_⟩, hwf, h.pos⟩, ?_, ?_⟩
 ·simpa using hb
 ·exact dk_same hst.firm (fun k hk' => hk.block k (dk_ge hst.firm k hk').2 (fun e => own_ne hst.firm hst.blk (by decide) (by rw [hk', e])))
 ·have := dk_same hst.pend (fun k hk' => hk.block k (dk_ge hst.pend k hk').2 (fun e => own_ne hst.pend hst.blk (by decide) (by rw [hk', e])))
  simpa using this
 ·exact hst.kept.trans (hk.mono (S2 := dblk W pb) (fun i _ e => .inl e))
 ·intro k hkl hd
  rcases hd with hd | ⟨n, c', hd⟩ | ⟨n, c', hd⟩
  ·exact .inl hd
  ·rw [hb.cell] at hd
   have hd : Value.slice (some ⟨F, 0, none⟩) d.firm.length c = .slice (some ⟨k, 0, none⟩) n c' := by simpa using hd
   injection hd with e _ _; injection e with e; injection e with e _ _; subst e
   exact hst.old
  ·rw [hb.cell] at hd
   have hd : Value.slice A2 (d.pend.length + 1) c2 = .slice (some ⟨k, 0, none⟩) n c' := by simpa using hd
   refine hst.fresh k ?_ hkl
   rw [hd]; rfl
theorem dk_write_bad {W : World} {lo pb : Nat} {d : MDisk} (h : IsDisk W lo pb d) (i : Int) (hz : d.okAt i ≠ 0) (s : List UInt8) : Calls Tryz.prog 32 #[.pointer (some ⟨pb, 0, none⟩), .int .i64 i, .agg (byteVals s).toArray] W fun e w' => e = .returned (.int .i64 (d.okAt i : Nat)) ∧ Cln W w' := by
 have hk0 : Cln W (W.alloc (.cells (byteVals s).toArray 79)) := by (repeat with_reducible first | exact cR _ | assumption | refine cA ?_ _ | refine cD ?_ | refine cN ?_ _ | refine cS ?_ (by first | omega | (simp <;> omega)) _)
 have hO := dk_ok (h.cln hk0) i
 go_enter Tryz.func32, Tryz.ntmps32
 go_wp2_with fail
 refine hO.mono ?_; rintro e w1 ⟨rfl, hq⟩
 have tz : (((d.okAt i : Nat) : Int) != 0) = true := by rw [bne_iff_ne]; omega
 have hcl1 := Lib.hid (cln_trans hk0 hq)
 clear hO hk0 hq h
 go_wp2_with fail
 go_ret
 exact ⟨rfl, hcl1.out⟩
set_option maxHeartbeats 4000000 in
theorem dk_write_ok {W : World} {lo pb : Nat} {d : MDisk} (h : IsDisk W lo pb d) (m : Nat) (hz : d.okAt (m : Int) = 0) (s : List UInt8) (hs : s.length = 64) (hnum : 0 ≤ d.left ∧ d.left ≤ 1000000000 ∧ 0 ≤ d.writes ∧ d.writes ≤ 1000000000) (hpn : d.pend.length ≤ 1000000) :
  Calls Tryz.prog 32 #[.pointer (some ⟨pb, 0, none⟩), .int .i64 (m : Int), .agg (byteVals s).toArray] W fun e w' => e = .returned (.int .i64 (downCode (d.write m s))) ∧ IsDisk w' lo pb (d.write m s) ∧ DStep pb W w' := by
 have hi79 : (Tryz.prog.info? 79).map (·.size) = some 64 := by kernel_rfl
 have hi79' := Lib.hid hi79
 clear hi79
 have hk0 : Cln W (W.alloc (.cells (byteVals s).toArray 79)) := by (repeat with_reducible first | exact cR _ | assumption | refine cA ?_ _ | refine cD ?_ | refine cN ?_ _ | refine cS ?_ (by first | omega | (simp <;> omega)) _)
 have hb0 : Blk (W.alloc (.cells (byteVals s).toArray 79)) W.heap.size 79 (byteVals s).toArray := Blk.new W _ _
 have hO := dk_ok (h.cln hk0) m
 obtain ⟨hdn, m', e0, hm⟩ := okAt_zero hz
 obtain rfl : m = m' := by omega
 rw [hz] at hO
 obtain ⟨F, c, G, cg, hbd, hF, hG⟩ := h.ex
 rw [hdn] at hbd
 have hG0 := Lib.hid hG; have hF0 := Lib.hid hF; have hbd0 := Lib.hid hbd
 have hH := Lib.hid h
 have hdn' := Lib.hid hdn
 have hpl : lo ≤ W.heap.size := by have := h.low; have := h.lt; omega
 clear hG hF hbd h hz hdn e0
 obtain ⟨i0, hi0, hz0, hz1, hz2⟩ := info_parts info_write
 have hB := build_write m s hs
 have hBS := row_write m s hs
 go_enter Tryz.func32, Tryz.ntmps32
 go_wp2_with fail
 refine hO.mono ?_; rintro e w1 ⟨rfl, hq⟩
 have hb1 := Lib.hid (hb0.cln hq)
 have hcl1 := Lib.hid (cln_trans hk0 hq)
 clear hO hb0 hk0 hq
 have hbk := hbd0.out.cln hcl1.out
 have c0 := hbk.cell 0; have c1 := hbk.cell 1; have c2 := hbk.cell 2; have c3 := hbk.cell 3; have c4 := hbk.cell 4
 have cl := hbk.lt; have cf := hbk.frozen 1
 have tz : (((0 : Nat) : Int) != 0) = false := by decide
 have hr : w1.rangeAt W.heap.size 0 (byteVals s) := fun j v hv => by rw [Nat.zero_add, hb1.out.cell]; simpa using hv
 have hl : (Tryz.prog.info? 79).map (·.size) = some (byteVals s).length := by rw [hi79'.out, byteVals_length, hs]
 have hG1 : Hid (w1.ownsRow lo 103 65 (.slice G d.pend.length cg) d.pend.length (pendVals d.pend)) := dk_same hG0.out (fun k hk => hcl1.out.block k (dk_ge hG0.out k hk).2)
 have hlo1 : lo ≤ w1.heap.size := by have := hcl1.out.size; omega
 replace hr := Lib.hid hr; replace hl := Lib.hid hl
 replace hbk := Lib.hid hbk
 go_wp2_with fail
 have hpcl := pendCells_length m hs
 have hpco := pendCells_one m s
 rename_i KA hKA
 have hJ : ∀ (s14 s15 s16 s17 s18 s19 s20 s21 s22 s23 s24 s25 : Value) (A2 : Option Addr) (c2 : Nat) (w3 : World), WrMid W w3 lo pb d F c A2 c2 m s → KA { tmps := #[.pointer (some ⟨pb, 0, none⟩), .int .i64 (m : Int), .agg (byteVals s).toArray, undef, undef, .pointer (some ⟨W.heap.size, 0, none⟩), .int .i64 0, .int .i64 0, .pointer (some ⟨pb, 0, none⟩), .int .i64 (m : Int), .int .i64 0, .int .i64 0, .bool false, undef, s14, s15, s16, s17, s18, s19, s20, s21, s22, s23, s24, s25, undef, undef, undef, undef, undef, undef, undef, undef, undef, undef, undef, undef, undef, undef, undef, undef, undef, undef, undef, undef, undef, undef, undef, undef, undef, undef, undef, undef, undef, undef, undef], defers := [] } w3 := by
  intro s14 s15 s16 s17 s18 s19 s20 s21 s22 s23 s24 s25 A2 c9 w3 hst
  refine hKA _ _ ?_
  clear hKA c0 c1 c2 c3 c4 cl cf hr hl hbk hG1 hlo1 hB hBS hi0 hz0 hz1 hz2 tz
  have hE : Hid (d.write m s = ⟨d.firm, d.pend ++ [(m, s)], if 0 < d.left then d.left - 1 else d.left, if 0 < d.left then d.left - 1 == 0 else false, d.writes + 1⟩) := by unfold Hid MDisk.write; rw [hdn'.out]
  have c2' := hst.blk.cell 2; have c3' := hst.blk.cell 3; have c4' := hst.blk.cell 4
  have cl := hst.blk.lt; have cf2 := hst.blk.frozen 2; have cf3 := hst.blk.frozen 3; have cf4 := hst.blk.frozen 4
  have hb4 := Lib.hid (hst.blk.set_ 4 (.int .i64 (d.writes + 1)))
  replace hst := Lib.hid hst
  have tw : wrap64 (d.writes + 1) = d.writes + 1 := by unfold wrap64; omega
  by_cases hl0 : 0 < d.left
  case neg =>
   have tl : decide (0 < d.left) = false := decide_eq_false hl0
   rw [if_neg hl0, if_neg hl0] at hE
   go_wp2_with fail
   go_ret
   have hfin := wr_done hH.out hm hs hst.out (keptSet w3 pb 4 (.int .i64 (d.writes + 1))) hb4.out
   rw [hE.out]
   exact ⟨by simp [downCode], hfin⟩
  have tl : decide (0 < d.left) = true := decide_eq_true hl0
  rw [if_pos hl0, if_pos hl0] at hE
  have tw2 : wrap64 (d.left - 1) = d.left - 1 := by unfold wrap64; omega
  have hb5 := Lib.hid ((hb4.out.set_ 2 (.int .i64 (d.left - 1))).set_ 3 (.bool (d.left - 1 == 0)))
  have hk5 := Lib.hid (((keptSet w3 pb 4 (.int .i64 (d.writes + 1))).trans (keptSet _ pb 2 (.int .i64 (d.left - 1)))).trans (keptSet _ pb 3 (.bool (d.left - 1 == 0))))
  cases hq : (d.left - 1 == 0) with
  | true =>
   rw [hq] at hb5 hk5 hE
   go_wp2_with fail
   go_ret
   have hfin := wr_done hH.out hm hs hst.out hk5.out hb5.out
   rw [hE.out]
   exact ⟨by simp [downCode], hfin⟩
  | false =>
   rw [hq] at hb5 hk5 hE
   go_wp2_with fail
   go_ret
   have hfin := wr_done hH.out hm hs hst.out hk5.out hb5.out
   rw [hE.out]
   exact ⟨by simp [downCode], hfin⟩
 clear hKA
 refine wp_region_any (by kernel_rfl) ?_
 refine wpAny_take (i := 0) (oi := { dst := some 14, op := Op.move (Operand.tmp 0), type := 24, pos := "disk.go:70", after := #[], guard := none }) (v := ?v4) rfl (by kernel_rfl) (by kernel_rfl) (by kernel_rfl) (fun _ _ _ h => h) (Or.inl ⟨by rfl, ?hy4⟩) ?rest4
 case hy4 => intro w; go_simp <;> with_reducible rfl
 try simp only [Act.put, List.setIfInBounds_toArray, List.set_cons_zero, List.set_cons_succ]
 refine wpAny_take (i := 1) (oi := { dst := some 15, op := Op.move (Operand.tmp 0), type := 24, pos := "disk.go:70", after := #[], guard := none }) (v := ?v5) rfl (by kernel_rfl) (by kernel_rfl) (by kernel_rfl) (fun _ _ _ h => h) (Or.inl ⟨by rfl, ?hy5⟩) ?rest5
 case hy5 => intro w; go_simp <;> with_reducible rfl
 try simp only [Act.put, List.setIfInBounds_toArray, List.set_cons_zero, List.set_cons_succ]
 refine wpAny_take (i := 2) (oi := { dst := some 16, op := Op.nilCheck (Operand.tmp 15), type := 0, pos := "disk.go:70", after := #[{ on := 1, ground := Ground.data }], guard := none }) (v := ?v6) rfl (by kernel_rfl) (by kernel_rfl) (by kernel_rfl) (fun _ _ _ h => h) (Or.inl ⟨by rfl, ?hy6⟩) ?rest6
 case hy6 => intro w; go_simp <;> with_reducible rfl
 try simp only [Act.put, List.setIfInBounds_toArray, List.set_cons_zero, List.set_cons_succ]
 refine wpAny_take (i := 3) (oi := { dst := some 17, op := Op.fieldAddr 72 (Operand.tmp 16) 1, type := 0, pos := "disk.go:70", after := #[{ on := 2, ground := Ground.data }], guard := none }) (v := ?v7) rfl (by kernel_rfl) (by kernel_rfl) (by kernel_rfl) (fun _ _ _ h => h) (Or.inl ⟨by rfl, ?hy7⟩) ?rest7
 case hy7 => intro w; go_simp <;> with_reducible rfl
 try simp only [Act.put, List.setIfInBounds_toArray, List.set_cons_zero, List.set_cons_succ]
 refine wpAny_take (i := 5) (oi := { dst := some 19, op := Op.move (Operand.tmp 1), type := 3, pos := "disk.go:70", after := #[], guard := none }) (v := ?v8) rfl (by kernel_rfl) (by kernel_rfl) (by kernel_rfl) (fun _ _ _ h => h) (Or.inl ⟨by rfl, ?hy8⟩) ?rest8
 case hy8 => intro w; go_simp <;> with_reducible rfl
 try simp only [Act.put, List.setIfInBounds_toArray, List.set_cons_zero, List.set_cons_succ]
 refine wpAny_ready (rs := [4, 6]) (by kernel_rfl) (by simp) (AllReady.cons (o := { dst := some 18, op := Op.load 70 (Operand.tmp 17), type := 70, pos := "disk.go:70", after := #[{ on := 3, ground := Ground.data }], guard := none }) rfl (fun K hK => ?_) (AllReady.cons (o := { dst := some 20, op := Op.load 79 (Operand.tmp 5), type := 79, pos := "disk.go:70", after := #[], guard := none }) rfl (fun K hK => ?_) (AllReady.nil)))
 ·go_simp
  refine hK _ _ ?_
  clear hK K
  try simp only [Act.put, List.setIfInBounds_toArray, List.set_cons_zero, List.set_cons_succ]
  refine wpAny_ready (rs := [6]) (by kernel_rfl) (by simp) (AllReady.cons (o := { dst := some 20, op := Op.load 79 (Operand.tmp 5), type := 79, pos := "disk.go:70", after := #[], guard := none }) rfl (fun K hK => ?_) (AllReady.nil))
  refine step_load_sec rfl 79 _ rfl W.heap.size 0 rfl (byteVals s) _ (show World.rangeAt _ _ _ _ from hr.out) Tryz.underlying79 rfl hl.out ?_
  refine hK _ _ ?_
  clear hK K
  try simp only [Act.put, List.setIfInBounds_toArray, List.set_cons_zero, List.set_cons_succ]
  refine wpAny_take (i := 7) (oi := { dst := some 21, op := Op.build 103 #[(0, Operand.tmp 19), (1, Operand.tmp 20)], type := 103, pos := "disk.go:70", after := #[{ on := 5, ground := Ground.data }, { on := 6, ground := Ground.data }], guard := none }) (v := ?v9) rfl (by kernel_rfl) (by kernel_rfl) (by kernel_rfl) (fun _ _ _ h => h) (Or.inl ⟨by rfl, ?hy9⟩) ?rest9
  case hy9 => intro w; (refine run_build_op (parts := #[(0, Operand.tmp 19), (1, Operand.tmp 20)]) (parts' := #[(0, .int .i64 (m : Int)), (1, .agg (byteVals s).toArray)]) ?_ ?_ hB w; rfl; rfl)
  try simp only [Act.put, List.setIfInBounds_toArray, List.set_cons_zero, List.set_cons_succ]
  refine wpAny_ready (rs := [8]) (by kernel_rfl) (by simp) (AllReady.cons (o := { dst := some 22, op := Op.buildSlice 70 1 #[(0, Operand.tmp 21)], type := 70, pos := "disk.go:70", after := #[{ on := 7, ground := Ground.data }], guard := none }) rfl (fun K hK => ?_) (AllReady.nil))
  refine step_row (parts' := #[(0, .agg (pendCells m s).toArray)]) (by rfl) (by rfl) (by rfl) (hBS _) ?_
  refine hK _ _ ?_
  clear hK K
  try simp only [Act.put, List.setIfInBounds_toArray, List.set_cons_zero, List.set_cons_succ]
  refine wpAny_ready (rs := [9]) (by kernel_rfl) (by simp) (AllReady.cons (o := { dst := some 23, op := Op.call { callee := Callee.builtin Builtin.append, args := #[Operand.tmp 18, Operand.tmp 22], argTypes := #[70, 70] }, type := 70, pos := "disk.go:70", after := #[{ on := 4, ground := Ground.data }, { on := 8, ground := Ground.data }], guard := none }) rfl (fun K hK => ?_) (AllReady.nil))
  refine step_push1 (w0 := w1.drew) rfl _ _ 70 rfl lo 103 i0 (.agg (pendCells 0 zsec).toArray) 65 72 Tryz.underlying70 hi0 hz0 hz1 hz2 rfl (by decide) (by decide) (.slice G d.pend.length cg) d.pend.length (pendVals d.pend) (pendCells m s) hpcl hpco rfl rfl hG1.out (by omega) hlo1 ?_
  intro v' w2 hown2 hgr2 hv2
  refine hK _ _ ?_
  clear hK K
  try simp only [Act.put, List.setIfInBounds_toArray, List.set_cons_zero, List.set_cons_succ]
  obtain ⟨A2, c2, rfl, _⟩ := own_form hown2
  obtain ⟨hb2, hst⟩ := write_mid hcl1.out hbd0.out hF0.out hG0.out hown2 hgr2 hv2
  have c1' := hb2.cell 1; have cl' := hb2.lt; have cf' := hb2.frozen 1
  replace hb2 := Lib.hid hb2; replace hst := Lib.hid hst
  refine wpAny_take (i := 10) (oi := { dst := some 24, op := Op.nilCheck (Operand.tmp 14), type := 0, pos := "disk.go:70", after := #[{ on := 0, ground := Ground.data }, { on := 0, ground := Ground.phase }, { on := 1, ground := Ground.phase }, { on := 2, ground := Ground.phase }, { on := 3, ground := Ground.phase }, { on := 4, ground := Ground.phase }, { on := 5, ground := Ground.phase }, { on := 6, ground := Ground.phase }, { on := 7, ground := Ground.phase }, { on := 8, ground := Ground.phase }, { on := 9, ground := Ground.phase }], guard := none }) (v := ?v10) rfl (by kernel_rfl) (by kernel_rfl) (by kernel_rfl) (fun _ _ _ h => h) (Or.inl ⟨by rfl, ?hy10⟩) ?rest10
  case hy10 => intro w; go_simp <;> with_reducible rfl
  try simp only [Act.put, List.setIfInBounds_toArray, List.set_cons_zero, List.set_cons_succ]
  refine wpAny_take (i := 11) (oi := { dst := some 25, op := Op.fieldAddr 72 (Operand.tmp 24) 1, type := 0, pos := "disk.go:70", after := #[{ on := 10, ground := Ground.data }, { on := 0, ground := Ground.phase }, { on := 1, ground := Ground.phase }, { on := 2, ground := Ground.phase }, { on := 3, ground := Ground.phase }, { on := 4, ground := Ground.phase }, { on := 5, ground := Ground.phase }, { on := 6, ground := Ground.phase }, { on := 7, ground := Ground.phase }, { on := 8, ground := Ground.phase }, { on := 9, ground := Ground.phase }], guard := none }) (v := ?v11) rfl (by kernel_rfl) (by kernel_rfl) (by kernel_rfl) (fun _ _ _ h => h) (Or.inl ⟨by rfl, ?hy11⟩) ?rest11
  case hy11 => intro w; go_simp <;> with_reducible rfl
  try simp only [Act.put, List.setIfInBounds_toArray, List.set_cons_zero, List.set_cons_succ]
  refine wpAny_ready (rs := [12]) (by kernel_rfl) (by simp) (AllReady.cons (o := { dst := none, op := Op.store 70 (Operand.tmp 25) (Operand.tmp 23), type := 0, pos := "disk.go:70", after := #[{ on := 11, ground := Ground.data }, { on := 9, ground := Ground.data }, { on := 9, ground := Ground.chain }, { on := 0, ground := Ground.phase }, { on := 1, ground := Ground.phase }, { on := 2, ground := Ground.phase }, { on := 3, ground := Ground.phase }, { on := 4, ground := Ground.phase }, { on := 5, ground := Ground.phase }, { on := 6, ground := Ground.phase }, { on := 7, ground := Ground.phase }, { on := 8, ground := Ground.phase }, { on := 9, ground := Ground.phase }], guard := none }) rfl (fun K hK => ?_) (AllReady.nil))
  go_simp
  refine hK _ _ ?_
  clear hK K
  try simp only [Act.put, List.setIfInBounds_toArray, List.set_cons_zero, List.set_cons_succ]
  refine wpAny_done (by kernel_rfl) ?_ _
  exact hJ _ _ _ _ _ _ _ _ _ _ _ _ _ _ _ hst.out
 ·refine step_load_sec rfl 79 _ rfl W.heap.size 0 rfl (byteVals s) _ (show World.rangeAt _ _ _ _ from hr.out) Tryz.underlying79 rfl hl.out ?_
  refine hK _ _ ?_
  clear hK K
  try simp only [Act.put, List.setIfInBounds_toArray, List.set_cons_zero, List.set_cons_succ]
  refine wpAny_take (i := 7) (oi := { dst := some 21, op := Op.build 103 #[(0, Operand.tmp 19), (1, Operand.tmp 20)], type := 103, pos := "disk.go:70", after := #[{ on := 5, ground := Ground.data }, { on := 6, ground := Ground.data }], guard := none }) (v := ?v12) rfl (by kernel_rfl) (by kernel_rfl) (by kernel_rfl) (fun _ _ _ h => h) (Or.inl ⟨by rfl, ?hy12⟩) ?rest12
  case hy12 => intro w; (refine run_build_op (parts := #[(0, Operand.tmp 19), (1, Operand.tmp 20)]) (parts' := #[(0, .int .i64 (m : Int)), (1, .agg (byteVals s).toArray)]) ?_ ?_ hB w; rfl; rfl)
  try simp only [Act.put, List.setIfInBounds_toArray, List.set_cons_zero, List.set_cons_succ]
  refine wpAny_ready (rs := [4, 8]) (by kernel_rfl) (by simp) (AllReady.cons (o := { dst := some 18, op := Op.load 70 (Operand.tmp 17), type := 70, pos := "disk.go:70", after := #[{ on := 3, ground := Ground.data }], guard := none }) rfl (fun K hK => ?_) (AllReady.cons (o := { dst := some 22, op := Op.buildSlice 70 1 #[(0, Operand.tmp 21)], type := 70, pos := "disk.go:70", after := #[{ on := 7, ground := Ground.data }], guard := none }) rfl (fun K hK => ?_) (AllReady.nil)))
  ·go_simp
   refine hK _ _ ?_
   clear hK K
   try simp only [Act.put, List.setIfInBounds_toArray, List.set_cons_zero, List.set_cons_succ]
   refine wpAny_ready (rs := [8]) (by kernel_rfl) (by simp) (AllReady.cons (o := { dst := some 22, op := Op.buildSlice 70 1 #[(0, Operand.tmp 21)], type := 70, pos := "disk.go:70", after := #[{ on := 7, ground := Ground.data }], guard := none }) rfl (fun K hK => ?_) (AllReady.nil))
   refine step_row (parts' := #[(0, .agg (pendCells m s).toArray)]) (by rfl) (by rfl) (by rfl) (hBS _) ?_
   refine hK _ _ ?_
   clear hK K
   try simp only [Act.put, List.setIfInBounds_toArray, List.set_cons_zero, List.set_cons_succ]
   refine wpAny_ready (rs := [9]) (by kernel_rfl) (by simp) (AllReady.cons (o := { dst := some 23, op := Op.call { callee := Callee.builtin Builtin.append, args := #[Operand.tmp 18, Operand.tmp 22], argTypes := #[70, 70] }, type := 70, pos := "disk.go:70", after := #[{ on := 4, ground := Ground.data }, { on := 8, ground := Ground.data }], guard := none }) rfl (fun K hK => ?_) (AllReady.nil))
   refine step_push1 (w0 := w1.drew) rfl _ _ 70 rfl lo 103 i0 (.agg (pendCells 0 zsec).toArray) 65 72 Tryz.underlying70 hi0 hz0 hz1 hz2 rfl (by decide) (by decide) (.slice G d.pend.length cg) d.pend.length (pendVals d.pend) (pendCells m s) hpcl hpco rfl rfl hG1.out (by omega) hlo1 ?_
   intro v' w2 hown2 hgr2 hv2
   refine hK _ _ ?_
   clear hK K
   try simp only [Act.put, List.setIfInBounds_toArray, List.set_cons_zero, List.set_cons_succ]
   obtain ⟨A2, c2, rfl, _⟩ := own_form hown2
   obtain ⟨hb2, hst⟩ := write_mid hcl1.out hbd0.out hF0.out hG0.out hown2 hgr2 hv2
   have c1' := hb2.cell 1; have cl' := hb2.lt; have cf' := hb2.frozen 1
   replace hb2 := Lib.hid hb2; replace hst := Lib.hid hst
   refine wpAny_take (i := 10) (oi := { dst := some 24, op := Op.nilCheck (Operand.tmp 14), type := 0, pos := "disk.go:70", after := #[{ on := 0, ground := Ground.data }, { on := 0, ground := Ground.phase }, { on := 1, ground := Ground.phase }, { on := 2, ground := Ground.phase }, { on := 3, ground := Ground.phase }, { on := 4, ground := Ground.phase }, { on := 5, ground := Ground.phase }, { on := 6, ground := Ground.phase }, { on := 7, ground := Ground.phase }, { on := 8, ground := Ground.phase }, { on := 9, ground := Ground.phase }], guard := none }) (v := ?v13) rfl (by kernel_rfl) (by kernel_rfl) (by kernel_rfl) (fun _ _ _ h => h) (Or.inl ⟨by rfl, ?hy13⟩) ?rest13
   case hy13 => intro w; go_simp <;> with_reducible rfl
   try simp only [Act.put, List.setIfInBounds_toArray, List.set_cons_zero, List.set_cons_succ]
   refine wpAny_take (i := 11) (oi := { dst := some 25, op := Op.fieldAddr 72 (Operand.tmp 24) 1, type := 0, pos := "disk.go:70", after := #[{ on := 10, ground := Ground.data }, { on := 0, ground := Ground.phase }, { on := 1, ground := Ground.phase }, { on := 2, ground := Ground.phase }, { on := 3, ground := Ground.phase }, { on := 4, ground := Ground.phase }, { on := 5, ground := Ground.phase }, { on := 6, ground := Ground.phase }, { on := 7, ground := Ground.phase }, { on := 8, ground := Ground.phase }, { on := 9, ground := Ground.phase }], guard := none }) (v := ?v14) rfl (by kernel_rfl) (by kernel_rfl) (by kernel_rfl) (fun _ _ _ h => h) (Or.inl ⟨by rfl, ?hy14⟩) ?rest14
   case hy14 => intro w; go_simp <;> with_reducible rfl
   try simp only [Act.put, List.setIfInBounds_toArray, List.set_cons_zero, List.set_cons_succ]
   refine wpAny_ready (rs := [12]) (by kernel_rfl) (by simp) (AllReady.cons (o := { dst := none, op := Op.store 70 (Operand.tmp 25) (Operand.tmp 23), type := 0, pos := "disk.go:70", after := #[{ on := 11, ground := Ground.data }, { on := 9, ground := Ground.data }, { on := 9, ground := Ground.chain }, { on := 0, ground := Ground.phase }, { on := 1, ground := Ground.phase }, { on := 2, ground := Ground.phase }, { on := 3, ground := Ground.phase }, { on := 4, ground := Ground.phase }, { on := 5, ground := Ground.phase }, { on := 6, ground := Ground.phase }, { on := 7, ground := Ground.phase }, { on := 8, ground := Ground.phase }, { on := 9, ground := Ground.phase }], guard := none }) rfl (fun K hK => ?_) (AllReady.nil))
   go_simp
   refine hK _ _ ?_
   clear hK K
   try simp only [Act.put, List.setIfInBounds_toArray, List.set_cons_zero, List.set_cons_succ]
   refine wpAny_done (by kernel_rfl) ?_ _
   exact hJ _ _ _ _ _ _ _ _ _ _ _ _ _ _ _ hst.out
  ·refine step_row (parts' := #[(0, .agg (pendCells m s).toArray)]) (by rfl) (by rfl) (by rfl) (hBS _) ?_
   refine hK _ _ ?_
   clear hK K
   try simp only [Act.put, List.setIfInBounds_toArray, List.set_cons_zero, List.set_cons_succ]
   refine wpAny_ready (rs := [4]) (by kernel_rfl) (by simp) (AllReady.cons (o := { dst := some 18, op := Op.load 70 (Operand.tmp 17), type := 70, pos := "disk.go:70", after := #[{ on := 3, ground := Ground.data }], guard := none }) rfl (fun K hK => ?_) (AllReady.nil))
   go_simp
   refine hK _ _ ?_
   clear hK K
   try simp only [Act.put, List.setIfInBounds_toArray, List.set_cons_zero, List.set_cons_succ]
   refine wpAny_ready (rs := [9]) (by kernel_rfl) (by simp) (AllReady.cons (o := { dst := some 23, op := Op.call { callee := Callee.builtin Builtin.append, args := #[Operand.tmp 18, Operand.tmp 22], argTypes := #[70, 70] }, type := 70, pos := "disk.go:70", after := #[{ on := 4, ground := Ground.data }, { on := 8, ground := Ground.data }], guard := none }) rfl (fun K hK => ?_) (AllReady.nil))
   refine step_push1 (w0 := w1.drew) rfl _ _ 70 rfl lo 103 i0 (.agg (pendCells 0 zsec).toArray) 65 72 Tryz.underlying70 hi0 hz0 hz1 hz2 rfl (by decide) (by decide) (.slice G d.pend.length cg) d.pend.length (pendVals d.pend) (pendCells m s) hpcl hpco rfl rfl hG1.out (by omega) hlo1 ?_
   intro v' w2 hown2 hgr2 hv2
   refine hK _ _ ?_
   clear hK K
   try simp only [Act.put, List.setIfInBounds_toArray, List.set_cons_zero, List.set_cons_succ]
   obtain ⟨A2, c2, rfl, _⟩ := own_form hown2
   obtain ⟨hb2, hst⟩ := write_mid hcl1.out hbd0.out hF0.out hG0.out hown2 hgr2 hv2
   have c1' := hb2.cell 1; have cl' := hb2.lt; have cf' := hb2.frozen 1
   replace hb2 := Lib.hid hb2; replace hst := Lib.hid hst
   refine wpAny_take (i := 10) (oi := { dst := some 24, op := Op.nilCheck (Operand.tmp 14), type := 0, pos := "disk.go:70", after := #[{ on := 0, ground := Ground.data }, { on := 0, ground := Ground.phase }, { on := 1, ground := Ground.phase }, { on := 2, ground := Ground.phase }, { on := 3, ground := Ground.phase }, { on := 4, ground := Ground.phase }, { on := 5, ground := Ground.phase }, { on := 6, ground := Ground.phase }, { on := 7, ground := Ground.phase }, { on := 8, ground := Ground.phase }, { on := 9, ground := Ground.phase }], guard := none }) (v := ?v15) rfl (by kernel_rfl) (by kernel_rfl) (by kernel_rfl) (fun _ _ _ h => h) (Or.inl ⟨by rfl, ?hy15⟩) ?rest15
   case hy15 => intro w; go_simp <;> with_reducible rfl
   try simp only [Act.put, List.setIfInBounds_toArray, List.set_cons_zero, List.set_cons_succ]
   refine wpAny_take (i := 11) (oi := { dst := some 25, op := Op.fieldAddr 72 (Operand.tmp 24) 1, type := 0, pos := "disk.go:70", after := #[{ on := 10, ground := Ground.data }, { on := 0, ground := Ground.phase }, { on := 1, ground := Ground.phase }, { on := 2, ground := Ground.phase }, { on := 3, ground := Ground.phase }, { on := 4, ground := Ground.phase }, { on := 5, ground := Ground.phase }, { on := 6, ground := Ground.phase }, { on := 7, ground := Ground.phase }, { on := 8, ground := Ground.phase }, { on := 9, ground := Ground.phase }], guard := none }) (v := ?v16) rfl (by kernel_rfl) (by kernel_rfl) (by kernel_rfl) (fun _ _ _ h => h) (Or.inl ⟨by rfl, ?hy16⟩) ?rest16
   case hy16 => intro w; go_simp <;> with_reducible rfl
   try simp only [Act.put, List.setIfInBounds_toArray, List.set_cons_zero, List.set_cons_succ]
   refine wpAny_ready (rs := [12]) (by kernel_rfl) (by simp) (AllReady.cons (o := { dst := none, op := Op.store 70 (Operand.tmp 25) (Operand.tmp 23), type := 0, pos := "disk.go:70", after := #[{ on := 11, ground := Ground.data }, { on := 9, ground := Ground.data }, { on := 9, ground := Ground.chain }, { on := 0, ground := Ground.phase }, { on := 1, ground := Ground.phase }, { on := 2, ground := Ground.phase }, { on := 3, ground := Ground.phase }, { on := 4, ground := Ground.phase }, { on := 5, ground := Ground.phase }, { on := 6, ground := Ground.phase }, { on := 7, ground := Ground.phase }, { on := 8, ground := Ground.phase }, { on := 9, ground := Ground.phase }], guard := none }) rfl (fun K hK => ?_) (AllReady.nil))
   go_simp
   refine hK _ _ ?_
   clear hK K
   try simp only [Act.put, List.setIfInBounds_toArray, List.set_cons_zero, List.set_cons_succ]
   refine wpAny_done (by kernel_rfl) ?_ _
   exact hJ _ _ _ _ _ _ _ _ _ _ _ _ _ _ _ hst.out
theorem dk_set {w : World} {base e sz n c g j : Nat} {xs : List Value} (h : w.ownsRow base e sz (.slice (some ⟨g, 0, none⟩) n c) n xs) (u : Value) : (w.setCell ⟨g, j, none⟩ u).ownsRow base e sz (.slice (some ⟨g, 0, none⟩) n c) n (xs.set j u) := by
 refine ⟨by rw [List.length_set]; exact h.1, ?_⟩
 rcases h.2 with ⟨hv, _⟩ | ⟨g', cap, cur, hv, hb, hg, hn, hm, hsz, htake⟩
 ·cases hv
 ·injection hv with h1 h2 h3
  injection h1 with h1; injection h1 with h1
  subst h1; subst h3
  refine .inr ⟨g, c, cur.setIfInBounds j u, rfl, hb, Blk.set_ hg j u, hn, hm, by simpa using hsz, ?_⟩
  rw [← htake, Array.toList_setIfInBounds, List.take_set]
def setMany : List Value → Nat → List Value → List Value
 | xs, _, [] => xs
 | xs, o, v :: r => setMany (xs.set o v) (o + 1) r
theorem setMany_get : ∀ (cs xs : List Value) (o k : Nat), (setMany xs o cs)[k]? = if o ≤ k ∧ k < o + cs.length ∧ k < xs.length then cs[k - o]? else xs[k]?
 | [], xs, o, k => by rw [setMany, if_neg (by simp; omega)]
 | v :: r, xs, o, k => by
  rw [setMany, setMany_get r]
  simp only [List.length_set, List.length_cons]
  by_cases h : o + 1 ≤ k ∧ k < o + 1 + r.length ∧ k < xs.length
  ·rw [if_pos h, if_pos (by omega), show k - o = k - (o + 1) + 1 from by omega, List.getElem?_cons_succ]
  ·rw [if_neg h, List.getElem?_set]
   by_cases hk : o = k
   ·subst hk
    rw [if_pos rfl]
    by_cases hx : o < xs.length
    ·rw [if_pos hx, if_pos (by omega), Nat.sub_self]; rfl
    ·rw [if_neg hx, if_neg (by omega), List.getElem?_eq_none (by omega)]
   ·rw [if_neg hk, if_neg (by omega)]
theorem own_setCells {base e sz n c g : Nat} : ∀ (cs : List Value) {w : World} {o : Nat} {xs : List Value}, w.ownsRow base e sz (.slice (some ⟨g, 0, none⟩) n c) n xs → (w.setCells g o cs).ownsRow base e sz (.slice (some ⟨g, 0, none⟩) n c) n (setMany xs o cs)
 | [], _, _, _, h => h
 | v :: r, w, o, xs, h => by rw [World.setCells, setMany]; exact own_setCells r (dk_set h v)
theorem firmVals_set (l : List Sec) (hl : ∀ s ∈ l, s.length = 64) (i : Nat) (s : Sec) (hs : s.length = 64) : firmVals (l.set i s) = setMany (firmVals l) (i * 64) (byteVals s) := by
 have hl' : ∀ x ∈ l.set i s, x.length = 64 := fun x hx => by
  rcases List.mem_or_eq_of_mem_set hx with h | h
  ·exact hl x h
  ·rw [h]; exact hs
 apply List.ext_getElem?
 intro k
 rw [setMany_get, firmVals_length l hl, byteVals_length, hs]
 by_cases hk : k < l.length * 64
 ·have hj : k / 64 < l.length := by omega
  obtain ⟨x, hx⟩ : ∃ x, l[k / 64]? = some x := ⟨_, List.getElem?_eq_getElem hj⟩
  have hdm : k / 64 * 64 + k % 64 = k := by omega
  by_cases hi : k / 64 = i
  ·have h1 := firmVals_at (l.set i s) hl' (k / 64) (k % 64) s (by rw [hi, List.getElem?_set, if_pos rfl, if_pos (by omega)]) (by omega)
   rw [hdm] at h1
   rw [h1, if_pos (by omega), show k - i * 64 = k % 64 from by omega]
  ·have h1 := firmVals_at (l.set i s) hl' (k / 64) (k % 64) x (by rw [List.getElem?_set, if_neg (fun e => hi e.symm)]; exact hx) (by omega)
   have h2 := firmVals_at l hl (k / 64) (k % 64) x hx (by omega)
   rw [hdm] at h1 h2
   rw [h1, if_neg (by omega), h2]
 ·rw [if_neg (by omega), List.getElem?_eq_none (by rw [firmVals_length _ hl', List.length_set]; omega), List.getElem?_eq_none (by rw [firmVals_length l hl]; omega)]
theorem own_there {W : World} {lo e sz n c F o k : Nat} {xs : List Value} (h : W.ownsRow lo e sz (.slice (some ⟨F, 0, none⟩) n c) n xs) (ho : o + k ≤ n * sz) : W.there F o k := fun j hj => by
 have hl := h.1
 have hx : xs[o + j]? = some xs[o + j] := List.getElem?_eq_getElem (by omega)
 refine ⟨by rw [own_cell h hx]; rfl, ?_⟩
 rcases h.2 with ⟨hv, _⟩ | ⟨g, cap, cur, hv, _, hg, _⟩
 ·cases hv
 ·injection hv with e1 _ _; injection e1 with e1; injection e1 with e1 _ _; subst e1
  exact Blk.frozen (t := e) hg (o + j)
theorem setCells_kept (b : Nat) : ∀ (cs : List Value) (o : Nat) (w : World), Kept (fun k => k = b) w (w.setCells b o cs)
 | [], _, w => Kept.refl _ _
 | v :: r, o, w => by rw [World.setCells]; exact (keptSet w b o v).trans (setCells_kept b r (o + 1) _)
theorem wpList_store_new {P : Program} {ops : Array Oper} {rest : List Oper} {op : Oper} {a : Act} {w : World} {Q : Exit → Act → World → Prop} (hgd : op.guard = none) (ty : TypeId) (x y : Operand) (ho : op.op = .store ty x y)
  (cur new : Array Value) (n : Nat) (hi : (P.info? ty).map (·.size) = some n) (hc : cur.size = n) (hn : new.size = n) (h1 : new.all (·.oneCell') = true)
  (hx : a.eval x = .pointer (some ⟨w.heap.size, 0, none⟩)) (hy : a.eval y = .agg new)
  (h : wpList P ops Q rest (a.put op.dst undef) (w.alloc (.cells new ty))) : wpList P ops Q (op :: rest) a (w.alloc (.cells cur ty)) :=
 wpList_plain hgd fun K hK => by
  unfold Oper.wp execOp
  simp only [ho, hx, hy, run_store_row (Blk.new w ty cur) hi hc hn h1, Sem.run_bind, Sem.run_pure, Result.andThen_ok, World.setRow_alloc_new]
  exact hK _ _ h
theorem meas_lt (n j : Nat) (h : j < n) : ((n : Int) - ((j : Int) + 1)).toNat < ((n : Int) - (j : Int)).toNat := by omega
theorem step_store_sec {P : Program} {w : World} {ops : Array Oper} {o : Oper} {a : Act} {K : Act → World → Prop} {Q : Exit → Act → World → Prop} {E : Prop} (hgd : o.guard = none) (ty : TypeId) (x y : Operand) (ho : o.op = .store ty x y)
  (b of_ : Nat) (cells : Array Value) (hx : a.eval x = .pointer (some ⟨b, of_, none⟩)) (hy : a.eval y = .agg cells) (ht : w.there b of_ cells.size) (hi : (P.info? ty).map (·.size) = some cells.size) (h1 : cells.all (·.oneCell') = true)
  (h : K (a.put o.dst undef) (w.setCells b of_ cells.toList)) : if Region.wanted o (yielded ops a.tmps) = true then Oper.wp P o a w K Q else E := by
 have hw : Region.wanted o (yielded ops a.tmps) = true := by simp [Region.wanted, hgd]
 rw [if_pos hw]
 exact wp_store_mid ty x y ho b of_ cells hx hy ht hi h1 h
set_option maxHeartbeats 4000000 in
theorem dk_sync_down {W : World} {lo pb : Nat} {d : MDisk} (h : IsDisk W lo pb d) (hd : d.down = true) : Calls Tryz.prog 33 #[.pointer (some ⟨pb, 0, none⟩)] W fun e w' => e = .returned (.int .i64 14) ∧ Cln W w' := by
 obtain ⟨F, c, G, cg, hb, hF, hG⟩ := h.ex
 rw [hd] at hb
 have c3 := hb.cell 3; have hl := hb.lt
 clear hF hG hd
 go_enter Tryz.func33, Tryz.ntmps33
 go_wp2_with fail
 go_ret
 exact ⟨rfl, by (repeat with_reducible first | exact cR _ | assumption | refine cA ?_ _ | refine cD ?_ | refine cN ?_ _ | refine cS ?_ (by first | omega | (simp <;> omega)) _)⟩
set_option maxHeartbeats 4000000 in
theorem dk_sync {W : World} {lo pb : Nat} {d : MDisk} (h : IsDisk W lo pb d) (hd : d.down = false) : Calls Tryz.prog 33 #[.pointer (some ⟨pb, 0, none⟩)] W fun e w' => e = .returned (.int .i64 0) ∧ IsDisk w' lo pb d.sync ∧ DStep pb W w' := by
 have hi79' : Hid ((Tryz.prog.info? 79).map (·.size) = some 64) := by unfold Hid; kernel_rfl
 have hi103 : Hid ((Tryz.prog.info? 103).map (·.size) = some 65) := by unfold Hid; kernel_rfl
 obtain ⟨F, c, G, cg, hbd, hF, hG⟩ := h.ex
 rw [hd] at hbd
 have hdH := Lib.hid hd
 have hH := Lib.hid h
 have hwf := Lib.hid h.wf
 have hkb : Hid (d.pend.length ≤ 9223372036854775807) := by obtain ⟨_, _, hv, _, h1, h2⟩ := own_form hG; injection hv with _ _ e; unfold Hid; simp [maxLen] at h2; omega
 have c1 := hbd.cell 1; have c3 := hbd.cell 3; have cl := hbd.lt
 have hbd0 := Lib.hid hbd; have hF0 := Lib.hid hF; have hG0 := Lib.hid hG
 clear h hd hbd hF hG
 go_enter Tryz.func33, Tryz.ntmps33
 go_wp2_with fail
 go_loopw [14] (fun v wr => ∃ j : Nat, j ≤ d.pend.length ∧ v = .int .i64 (j : Nat) ∧ Hid (Kept (fun k => k = F) W wr) ∧ Hid (wr.ownsRow lo 79 64 (.slice (some ⟨F, 0, none⟩) d.firm.length c) d.firm.length (firmVals (layAll d.firm (d.pend.take j))))) (fun v _ => (d.pend.length - intOf v).toNat)
 case atStart => exact ⟨0, Nat.zero_le _, rfl, Lib.hid ((Kept.refl _ W).below_ (by (repeat with_reducible first | exact cR _ | assumption | refine cA ?_ _ | refine cD ?_ | refine cN ?_ _ | refine cS ?_ (by first | omega | (simp <;> omega)) _))), Lib.hid (by simpa [layAll] using dk_same hF0.out (fun k hk => (show Cln W _ from by (repeat with_reducible first | exact cR _ | assumption | refine cA ?_ _ | refine cD ?_ | refine cN ?_ _ | refine cS ?_ (by first | omega | (simp <;> omega)) _)).block k (dk_ge hF0.out k hk).2))⟩
 case round =>
  clear c1 c3 cl
  obtain ⟨j, hj, rfl, hK, hFr⟩ := hrel
  have hpF : ¬ pb = F := fun e => own_ne hF0.out hbd0.out (by decide) (by rw [e]; rfl)
  have hbr := Lib.hid (hbd0.out.kept hK.out (fun e => hpF e))
  have c0 := hbr.out.cell 0; have c1 := hbr.out.cell 1
  have cl := hbr.out.lt; have cf := hbr.out.frozen 1
  by_cases hlt : j < d.pend.length
  ·have t1 : decide ((j : Int) < (d.pend.length : Int)) = true := decide_eq_true (by omega)
   obtain ⟨g, cap, hv⟩ : ∃ g cap, Value.slice G d.pend.length cg = .slice (some ⟨g, 0, none⟩) d.pend.length cap := by
    rcases hG0.out.2 with ⟨_, hn⟩ | ⟨g, cap, cur, hv, _⟩
    ·omega
    ·exact ⟨g, cap, hv⟩
   injection hv with e1 e3 e2; subst e1; subst e2; clear e3
   have hgF : ¬ g = F := fun e => by
    rcases hF0.out.2 with ⟨hh, _⟩ | ⟨g', cap', cur, hh, _, hgg, _⟩
    ·cases hh
    ·injection hh with hh _ _; injection hh with hh; injection hh with hh _ _
     exact own_ne hG0.out (show Blk W g' 79 cur from hgg) (by decide) (by rw [← hh, ← e]; rfl)
   have hGr : wr.ownsRow lo 103 65 (.slice (some ⟨g, 0, none⟩) d.pend.length cg) d.pend.length (pendVals d.pend) := dk_same hG0.out (fun k hk => hK.out.block k (dk_ge hG0.out k hk).2 (fun e => hgF ((show g = k from by simpa [Value.ownBlock] using hk).trans e)))
   obtain ⟨x, hx⟩ : ∃ x, d.pend[j]? = some x := ⟨_, List.getElem?_eq_getElem hlt⟩
   have hxm : x ∈ d.pend := List.mem_of_getElem? hx
   obtain ⟨hx1, hx2⟩ := hwf.out.pend x hxm
   obtain ⟨pv0, pv1⟩ := pendVals_at _ (fun y hy => (hwf.out.pend y hy).2) j x hx
   have hr : Hid (wr.rangeAt g (j * 65) (pendCells x.1 x.2)) := own_range hGr (fun i v hv => by
    have hi := (List.getElem?_eq_some_iff.1 hv).1
    rw [pendCells_length _ hx2] at hi
    cases i with
    | zero => rw [Nat.add_zero, pv0]; exact hv
    | succ i => rw [show j * 65 + (i + 1) = j * 65 + 1 + i from by omega, pv1 i (by omega)]; simpa [pendCells] using hv)
   have hl103 : Hid ((Tryz.prog.info? 103).map (·.size) = some (pendCells x.1 x.2).length) := by unfold Hid; rw [hi103.out, pendCells_length _ hx2]
   have hstep : Hid (layAll d.firm (d.pend.take (j + 1)) = (layAll d.firm (d.pend.take j)).set x.1 x.2) := by
    unfold Hid; rw [List.take_add_one, hx, layAll_append]; rfl
   have hzp : (Tryz.zeroCells103).size = 65 := by kernel_rfl
   have hpn : (pendCells x.1 x.2).toArray.size = 65 := by simp [pendCells_length _ hx2]
   have hpo : (pendCells x.1 x.2).toArray.all (·.oneCell') = true := all_oneCell_toArray (pendCells_one _ _)
   have ig1 : (0 : Int) ≤ (j : Int) := by omega
   have ig2 : (j : Int) < (d.pend.length : Int) := by omega
   have gl : g < wr.heap.size := (dk_ge hGr g rfl).2
   replace hx1 := Lib.hid hx1
   clear hxm pv0 pv1 hGr hx
   go_wp2_with (first | ((with_reducible refine wpList_load_mid rfl 103 _ rfl g (j * 65) ?hx (pendCells x.1 x.2) _ hr.out Tryz.underlying103 rfl hl103.out ?_); (case hx => rfl)) | ((with_reducible refine wpList_store_new rfl 103 _ _ rfl Tryz.zeroCells103 (pendCells x.1 x.2).toArray 65 hi103.out hzp hpn hpo ?hx ?hy ?_); (case hx => rfl); (case hy => rfl)))
   have hwb := Lib.hid ((Blk.new wr 103 (pendCells x.1 x.2).toArray).drew)
   have hs79 : (byteVals x.2).toArray.size = 64 := sec_size hx2
   have hl79 : Hid ((Tryz.prog.info? 79).map (·.size) = some (byteVals x.2).length) := by unfold Hid; rw [hi79'.out, byteVals_length, hx2]
   have hFa : Hid ((wr.alloc (.cells (pendCells x.1 x.2).toArray 103)).drew.ownsRow lo 79 64 (.slice (some ⟨F, 0, none⟩) d.firm.length c) d.firm.length (firmVals (layAll d.firm (d.pend.take j)))) := dk_same hFr.out (fun k hk => Below.heap_alloc wr _ k (dk_ge hFr.out k hk).2)
   have hba : Hid (Blk (wr.alloc (.cells (pendCells x.1 x.2).toArray 103)).drew pb 72 #[.slice (some ⟨F, 0, none⟩) d.firm.length c, .slice (some ⟨g, 0, none⟩) d.pend.length cg, .int .i64 d.left, .bool false, .int .i64 d.writes]) := (hbr.out.alloc _).drew
   have hwF : ¬ wr.heap.size = F := fun e => by have := (dk_ge hFr.out F rfl).2; omega
   have ix1 : (0 : Int) ≤ ((x.1 : Nat) : Int) := by omega
   have ix2 : ((x.1 : Nat) : Int) < (d.firm.length : Int) := by have := hx1.out; omega
   have hth : Hid ((wr.alloc (.cells (pendCells x.1 x.2).toArray 103)).drew.there F (x.1 * 64) (byteVals x.2).toArray.size) := by unfold Hid; rw [hs79]; exact own_there hFa.out (by have := hx1.out; omega)
   refine wp_region_held_drew (S := fun W' => W'.cell? ⟨pb, 0, none⟩ = some (.slice (some ⟨F, 0, none⟩) d.firm.length c) ∧ W'.cell? ⟨wr.heap.size, 0, none⟩ = some (.int .i64 (x.1 : Nat)) ∧ Hid (W'.rangeAt wr.heap.size 1 (byteVals x.2))) (by kernel_rfl) ?hS6 (fun hHeld => ?_)
   case hS6 => exact ⟨hba.out.cell 0, by rw [hwb.out.cell]; simp [pendCells], fun i v hv => by rw [hwb.out.cell, Nat.add_comm]; simpa [pendCells] using hv⟩
   refine wpAnyH_take (i := 0) (oi := { dst := some 18, op := Op.move (Operand.tmp 0), type := 24, pos := "disk.go:88", after := #[], guard := none }) (v := ?v1) rfl (by kernel_rfl) (by kernel_rfl) (by kernel_rfl) (fun _ _ _ h => h) (Or.inl ⟨by rfl, ?hy1⟩) (by assumption) ?rest1
   case hy1 => intro w hSw; (try dsimp only at hSw); go_simp <;> with_reducible rfl
   try simp only [Act.put, List.setIfInBounds_toArray, List.set_cons_zero, List.set_cons_succ]
   refine wpAnyH_take (i := 1) (oi := { dst := some 19, op := Op.nilCheck (Operand.tmp 18), type := 0, pos := "disk.go:88", after := #[{ on := 0, ground := Ground.data }], guard := none }) (v := ?v2) rfl (by kernel_rfl) (by kernel_rfl) (by kernel_rfl) (fun _ _ _ h => h) (Or.inl ⟨by rfl, ?hy2⟩) (by assumption) ?rest2
   case hy2 => intro w hSw; (try dsimp only at hSw); go_simp <;> with_reducible rfl
   try simp only [Act.put, List.setIfInBounds_toArray, List.set_cons_zero, List.set_cons_succ]
   refine wpAnyH_take (i := 2) (oi := { dst := some 20, op := Op.fieldAddr 72 (Operand.tmp 19) 0, type := 0, pos := "disk.go:88", after := #[{ on := 1, ground := Ground.data }], guard := none }) (v := ?v3) rfl (by kernel_rfl) (by kernel_rfl) (by kernel_rfl) (fun _ _ _ h => h) (Or.inl ⟨by rfl, ?hy3⟩) (by assumption) ?rest3
   case hy3 => intro w hSw; (try dsimp only at hSw); go_simp <;> with_reducible rfl
   try simp only [Act.put, List.setIfInBounds_toArray, List.set_cons_zero, List.set_cons_succ]
   refine wpAnyH_take (i := 3) (oi := { dst := some 21, op := Op.load 69 (Operand.tmp 20), type := 69, pos := "disk.go:88", after := #[{ on := 2, ground := Ground.data }], guard := none }) (v := ?v4) rfl (by kernel_rfl) (by kernel_rfl) (by kernel_rfl) (fun _ _ _ h => h) (Or.inl ⟨by rfl, ?hy4⟩) (by assumption) ?rest4
   case hy4 => intro w hSw; (try dsimp only at hSw); go_simp <;> with_reducible rfl
   try simp only [Act.put, List.setIfInBounds_toArray, List.set_cons_zero, List.set_cons_succ]
   refine wpAnyH_take (i := 4) (oi := { dst := some 22, op := Op.fieldAddr 103 (Operand.tmp 4) 0, type := 0, pos := "disk.go:88", after := #[], guard := none }) (v := ?v5) rfl (by kernel_rfl) (by kernel_rfl) (by kernel_rfl) (fun _ _ _ h => h) (Or.inl ⟨by rfl, ?hy5⟩) (by assumption) ?rest5
   case hy5 => intro w hSw; (try dsimp only at hSw); go_simp <;> with_reducible rfl
   try simp only [Act.put, List.setIfInBounds_toArray, List.set_cons_zero, List.set_cons_succ]
   refine wpAnyH_take (i := 5) (oi := { dst := some 23, op := Op.load 3 (Operand.tmp 22), type := 3, pos := "disk.go:88", after := #[{ on := 4, ground := Ground.data }], guard := none }) (v := ?v6) rfl (by kernel_rfl) (by kernel_rfl) (by kernel_rfl) (fun _ _ _ h => h) (Or.inl ⟨by rfl, ?hy6⟩) (by assumption) ?rest6
   case hy6 => intro w hSw; (try dsimp only at hSw); go_simp <;> with_reducible rfl
   try simp only [Act.put, List.setIfInBounds_toArray, List.set_cons_zero, List.set_cons_succ]
   refine wpAnyH_take (i := 6) (oi := { dst := some 24, op := Op.fieldAddr 103 (Operand.tmp 4) 1, type := 0, pos := "disk.go:88", after := #[], guard := none }) (v := ?v7) rfl (by kernel_rfl) (by kernel_rfl) (by kernel_rfl) (fun _ _ _ h => h) (Or.inl ⟨by rfl, ?hy7⟩) (by assumption) ?rest7
   case hy7 => intro w hSw; (try dsimp only at hSw); go_simp <;> with_reducible rfl
   try simp only [Act.put, List.setIfInBounds_toArray, List.set_cons_zero, List.set_cons_succ]
   refine wpAnyH_take (i := 7) (oi := { dst := some 25, op := Op.load 79 (Operand.tmp 24), type := 79, pos := "disk.go:88", after := #[{ on := 6, ground := Ground.data }], guard := none }) (v := .agg (byteVals x.2).toArray) rfl (by kernel_rfl) (by kernel_rfl) (by kernel_rfl) (fun _ _ _ h => h) (yieldsIf_load_mid (by rfl) 79 _ rfl wr.heap.size 1 (by rfl) (byteVals x.2) _ (fun w hw => hw.2.2.out) Tryz.underlying79 rfl hl79.out) (by assumption) ?_
   try simp only [Act.put, List.setIfInBounds_toArray, List.set_cons_zero, List.set_cons_succ]
   refine wpAnyH_take (i := 8) (oi := { dst := some 26, op := Op.indexAddr 69 (Operand.tmp 21) (Operand.tmp 23), type := 0, pos := "disk.go:88", after := #[{ on := 3, ground := Ground.data }, { on := 5, ground := Ground.data }, { on := 0, ground := Ground.phase }, { on := 1, ground := Ground.phase }, { on := 2, ground := Ground.phase }, { on := 3, ground := Ground.phase }, { on := 4, ground := Ground.phase }, { on := 5, ground := Ground.phase }, { on := 6, ground := Ground.phase }, { on := 7, ground := Ground.phase }], guard := none }) (v := ?v8) rfl (by kernel_rfl) (by kernel_rfl) (by kernel_rfl) (fun _ _ _ h => h) (Or.inl ⟨by rfl, ?hy8⟩) (by assumption) ?rest8
   case hy8 => intro w hSw; (try dsimp only at hSw); go_simp <;> with_reducible rfl
   try simp only [Act.put, List.setIfInBounds_toArray, List.set_cons_zero, List.set_cons_succ]
   refine wpAnyH_ready (rs := [9]) (by kernel_rfl) (by simp) ?_
   refine AllReadyH.cons (o := { dst := none, op := Op.store 79 (Operand.tmp 26) (Operand.tmp 25), type := 0, pos := "disk.go:88", after := #[{ on := 8, ground := Ground.data }, { on := 7, ground := Ground.data }, { on := 0, ground := Ground.phase }, { on := 1, ground := Ground.phase }, { on := 2, ground := Ground.phase }, { on := 3, ground := Ground.phase }, { on := 4, ground := Ground.phase }, { on := 5, ground := Ground.phase }, { on := 6, ground := Ground.phase }, { on := 7, ground := Ground.phase }], guard := none }) rfl (fun K hK => ?_) AllReadyH.nil
   refine step_store_sec rfl 79 _ _ rfl F (x.1 * 64) (byteVals x.2).toArray (by rfl) (by rfl) hth.out (by rw [hi79'.out, hs79]) (sec_one x.2) ?_
   have hks := setCells_kept F (byteVals x.2).toArray.toList (x.1 * 64) (wr.alloc (.cells (pendCells x.1 x.2).toArray 103)).drew
   have hbs := hba.out.kept hks (fun e => hpF e)
   have hws := hwb.out.kept hks (fun e => hwF e)
   refine hK.out _ _ ?_ (fun hHeld => ?_)
   ·exact ⟨hbs.cell 0, by rw [hws.cell]; simp [pendCells], fun i v hv => by rw [hws.cell, Nat.add_comm]; simpa [pendCells] using hv⟩
   clear hK K
   try simp only [Act.put, List.setIfInBounds_toArray, List.set_cons_zero, List.set_cons_succ]
   refine wpAnyH_done (by kernel_rfl) ?_ _
   have hF9 := own_setCells (byteVals x.2).toArray.toList (o := x.1 * 64) hFa.out
   have hF9 : Hid (((wr.alloc (.cells (pendCells x.1 x.2).toArray 103)).drew.setCells F (x.1 * 64) (byteVals x.2).toArray.toList).ownsRow lo 79 64 (.slice (some ⟨F, 0, none⟩) d.firm.length c) d.firm.length (firmVals (layAll d.firm (d.pend.take (j + 1))))) := by
    unfold Hid
    rw [hstep.out, firmVals_set _ (layAll_each _ _ hwf.out.firm (fun y hy => hwf.out.pend y (List.mem_of_mem_take hy))) x.1 x.2 hx2]
    exact hF9
   have hK9 := Lib.hid ((hK.out.alloc (.cells (pendCells x.1 x.2).toArray 103)).drew.trans hks)
   clear hHeld hks hbs hws hFa hth hba hwb hbr c0 c1 cl cf hFr hK hr hl103 hl79 hstep gl
   go_wp2_with fail
   have tw : wrap64 ((j : Int) + 1) = (j : Int) + 1 := by have := hkb.out; unfold wrap64; omega
   go_roundw
   case rel => exact ⟨j + 1, hlt, by rw [tw]; simp, hK9, hF9⟩
   case measure => rw [tw]; exact meas_lt _ _ hlt
  ·obtain rfl : d.pend.length = j := by omega
   have t1 : decide ((d.pend.length : Int) < (d.pend.length : Int)) = false := decide_eq_false (by omega)
   have hbn := Lib.hid (hbr.out.set_ 1 (.slice none 0 0))
   go_wp2_with fail
   go_ret
   refine ⟨rfl, ⟨hH.out.low, ⟨F, c, none, 0, ?_, ?_, World.ownsRow_nil _ _ _ _⟩, hwf.out.sync, ?_⟩, ?_, ?_⟩
   ·have h := hbn.out
    rw [← hdH.out] at h
    simpa [MDisk.sync, cur_len] using h
   ·have h := hFr.out
    rw [List.take_length] at h
    have h2 := dk_same h (w' := wr.setCell ⟨pb, 1, none⟩ (.slice none 0 0)) (fun k hk => Below.heap_setCell wr _ _ k (by have e9 : F = k := (by simpa [Value.ownBlock] using hk); subst e9; exact fun e => hpF e.symm))
    have e : d.sync.firm.length = d.firm.length := cur_len d
    rw [e]
    exact h2
   ·have e : d.sync.firm.length = d.firm.length := cur_len d
    rw [e]; exact hH.out.pos
   ·exact (hK.out.mono (S2 := dblk W pb) (fun k _ e => .inr (.inl ⟨d.firm.length, c, by have e : k = F := e; subst e; rw [hbd0.out.cell]; rfl⟩))).setCell (p := ⟨pb, 1, none⟩) (fun _ => .inl rfl) _
   ·intro k hkl hd
    rcases hd with hd | ⟨n', c', hd⟩ | ⟨n', c', hd⟩
    ·exact .inl hd
    ·rw [hbn.out.cell] at hd
     have hd : Value.slice (some ⟨F, 0, none⟩) d.firm.length c = .slice (some ⟨k, 0, none⟩) n' c' := by simpa using hd
     injection hd with e _ _; injection e with e; injection e with e _ _; subst e
     exact .inr (.inl ⟨d.firm.length, c, by rw [hbd0.out.cell]; rfl⟩)
    ·rw [hbn.out.cell] at hd
     simp at hd
end Go.Proofs.YtbemnfbndjolpaaGreatDoor
