/- What a call keeps of memory; blocks known whole; bytes that are read; readers and writers. No program but for its type numbers. -/
import Derived.Below
import Derived.Laws.OwnMore
import Derived.Laws.Rows
import Derived.Deep.Draws
import Derived.OwnWalk
import Derived.OneCell
import Derived.StillTailTactics
set_option linter.unusedSimpArgs false
set_option linter.unusedVariables false
namespace Moi
open Go Go.RowKit

structure Kept (S : Nat → Prop) (w w' : World) : Prop where
 os : w'.os = w.os
 tape : w'.tape = w.tape
 output : w'.output = w.output
 size : w.heap.size ≤ w'.heap.size
 block : ∀ k, k < w.heap.size → ¬ S k → w'.heap[k]? = w.heap[k]?

section
variable {S S2 : Nat → Prop} {w w1 w' a b c : World}
theorem Kept.refl (S : Nat → Prop) (w : World) : Kept S w w := ⟨rfl, rfl, rfl, Nat.le_refl _, fun _ _ _ => rfl⟩
theorem Kept.then_ (h : Kept S a b) (k : Kept S2 b c) (hs : ∀ i, i < a.heap.size → S2 i → S i) : Kept S a c :=
 ⟨k.os.trans h.os, k.tape.trans h.tape, k.output.trans h.output, Nat.le_trans h.size k.size,
  fun i hi hn => (k.block i (Nat.lt_of_lt_of_le hi h.size) (fun h2 => hn (hs i hi h2))).trans (h.block i hi hn)⟩
theorem Kept.trans (h : Kept S a b) (k : Kept S b c) : Kept S a c := h.then_ k fun _ _ h => h
theorem Kept.mono (h : Kept S a b) (hs : ∀ i, i < a.heap.size → S i → S2 i) : Kept S2 a b :=
 ⟨h.os, h.tape, h.output, h.size, fun i hi hn => h.block i hi (fun h2 => hn (hs i hi h2))⟩
theorem Kept.drew (h : Kept S a w) : Kept S a w.drew := ⟨h.os, h.tape, h.output, h.size, h.block⟩
theorem Kept.drewN (h : Kept S a w) (n : Nat) : Kept S a (w.drewN n) := ⟨h.os, h.tape, h.output, h.size, h.block⟩
theorem Kept.alloc (h : Kept S a w) (o : Obj) : Kept S a (w.alloc o) :=
 ⟨h.os, h.tape, h.output, Nat.le_trans h.size (by simp), fun i hi hn => (Below.heap_alloc w o i (Nat.lt_of_lt_of_le hi h.size)).trans (h.block i hi hn)⟩
theorem Kept.setCell (h : Kept S a w) {p : Addr} (hp : p.block < a.heap.size → S p.block) (u : Value) : Kept S a (w.setCell p u) :=
 ⟨h.os, h.tape, h.output, by simpa [World.setCell] using h.size, fun i hi hn => (Below.heap_setCell w p u i (by rintro rfl; exact hn (hp hi))).trans (h.block i hi hn)⟩
theorem Kept.grown (h : Kept S a w) {row : Option Nat} (hg : w.grownBy w' row) (hr : ∀ k, row = some k → k < a.heap.size → S k) : Kept S a w' :=
 ⟨hg.os.trans h.os, hg.tape.trans h.tape, hg.output.trans h.output, Nat.le_trans h.size hg.size,
  fun i hi hn => (hg.block i (Nat.lt_of_lt_of_le hi h.size) (fun e => hn (hr i e.symm hi))).trans (h.block i hi hn)⟩
theorem Kept.below {B : Nat} (h : Kept S a w) (hb : Below B w w') (hs : ∀ i, i < a.heap.size → B ≤ i → S i) : Kept S a w' :=
 ⟨hb.os.trans h.os, hb.tape.trans h.tape, hb.output.trans h.output, Nat.le_trans h.size hb.size,
  fun i hi hn => (hb.block i (by rcases Nat.lt_or_ge i B with h1 | h1; exact h1; exact absurd (hs i hi h1) hn)).trans (h.block i hi hn)⟩
theorem Kept.below_ (h : Kept S a w) (hb : Below w.heap.size w w') : Kept S a w' := h.below hb fun i hi h2 => absurd h.size (by omega)
theorem Kept.of_below (hb : Below w.heap.size w w') : Kept S w w' := (Kept.refl S w).below_ hb
theorem Kept.toBelow {B : Nat} (h : Kept S w w') (hB : B ≤ w.heap.size) (hs : ∀ i, i < B → ¬ S i) : Below B w w' :=
 ⟨h.os, h.tape, h.output, h.size, fun i hi => h.block i (by omega) (hs i hi)⟩
theorem Kept.heap (h : Kept S w w') {k : Nat} {o : Obj} (hk : w.heap[k]? = some o) (hn : ¬ S k) : w'.heap[k]? = some o :=
 (h.block k (lt_of_block hk) hn).trans hk
theorem Kept.cell (h : Kept S w w') {p : Addr} {v : Value} (hc : w.cell? p = some v) (hn : ¬ S p.block) : w'.cell? p = some v :=
 (World.cell?_of_block (h.block p.block (World.block_lt_of_cell? w p hc) hn)).trans hc
theorem Kept.frozen (h : Kept S w w') {p : Addr} (hp : p.block < w.heap.size) (hn : ¬ S p.block) : w'.frozen? p = w.frozen? p :=
 World.frozen?_of_block (h.block p.block hp hn)
end

theorem keptSet (w : World) (g i : Nat) (u : Value) : Kept (fun k => k = g) w (w.setCell ⟨g, i, none⟩ u) :=
 (Kept.refl (fun k => k = g) w).setCell (p := ⟨g, i, none⟩) (fun _ => rfl) u
theorem keptSetA (w : World) (q : Addr) (u : Value) : Kept (fun k => k = q.block) w (w.setCell q u) :=
 (Kept.refl (fun k => k = q.block) w).setCell (p := q) (fun _ => rfl) u
abbrev Cln (w w' : World) : Prop := Below w.heap.size w w'
theorem cln_trans {a b c : World} (h : Cln a b) (k : Cln b c) : Cln a c := h.trans (k.mono h.size)

def Blk (w : World) (g : Nat) (t : TypeId) (cs : Array Value) : Prop := w.heap[g]? = some (.cells cs t (0, 0))
section
variable {S : Nat → Prop} {w w' : World} {g : Nat} {t : TypeId} {cs : Array Value}
theorem Blk.lt (h : Blk w g t cs) : g < w.heap.size := lt_of_block h
theorem Blk.cell (h : Blk w g t cs) (i : Nat) : w.cell? ⟨g, i, none⟩ = cs[i]? := cell_of_row w g i cs t (0, 0) h
theorem Blk.frozen (h : Blk w g t cs) (i : Nat) : w.frozen? ⟨g, i, none⟩ = false := by
 unfold Blk at h; simp [World.frozen?, h]
theorem Blk.new (w : World) (t : TypeId) (cs : Array Value) : Blk (w.alloc (.cells cs t)) w.heap.size t cs := heap_alloc_new w _
theorem Blk.drew (h : Blk w g t cs) : Blk w.drew g t cs := h
theorem Blk.drewN (h : Blk w g t cs) (n : Nat) : Blk (w.drewN n) g t cs := h
theorem Blk.alloc (h : Blk w g t cs) (o : Obj) : Blk (w.alloc o) g t cs := (Below.heap_alloc w o g h.lt).trans h
theorem Blk.set_ (h : Blk w g t cs) (i : Nat) (u : Value) : Blk (w.setCell ⟨g, i, none⟩ u) g t (cs.setIfInBounds i u) := by
 unfold Blk at h ⊢
 simp [World.setCell, Array.getElem?_modify, h]
theorem Blk.far (h : Blk w g t cs) {p : Addr} (hp : g ≠ p.block) (u : Value) : Blk (w.setCell p u) g t cs := (Below.heap_setCell w p u g hp).trans h
theorem Blk.kept (h : Blk w g t cs) (k : Kept S w w') (hn : ¬ S g) : Blk w' g t cs := k.heap h hn
theorem Blk.cln (h : Blk w g t cs) (k : Cln w w') : Blk w' g t cs := (k.block g h.lt).trans h
theorem Blk.ne_ {g' : Nat} {t' : TypeId} {cs' : Array Value} (h : Blk w g t cs) (h' : Blk w g' t' cs') (hne : t ≠ t') : g ≠ g' := by
 rintro rfl
 unfold Blk at h h'
 rw [h] at h'
 injection h' with h'
 injection h' with _ ht
 exact hne ht
end

def byteAt (bs : List UInt8) (i : Nat) : Nat := (bs.getD i 0).toNat
theorem byteAt_lt (bs : List UInt8) (i : Nat) : byteAt bs i < 256 := UInt8.toNat_lt _
structure RdBytes (w : World) (A : Option Addr) (n : Nat) (bs : List UInt8) : Prop where
 len : bs.length = n
 spot : ∀ ad, A = some ad → ad.spot = none
 cells : 0 < n → ∃ b o, A = some ⟨b, o, none⟩ ∧ b < w.heap.size ∧ ∀ i, i < n → w.cell? ⟨b, o + i, none⟩ = some (.int .u8 (byteAt bs i : Nat))
section
variable {S : Nat → Prop} {w w' : World} {A : Option Addr} {n : Nat} {bs : List UInt8}
theorem RdBytes.kept (h : RdBytes w A n bs) (k : Kept S w w') (hn : ∀ ad, A = some ad → ad.block < w.heap.size → ¬ S ad.block) : RdBytes w' A n bs := by
 refine ⟨h.len, h.spot, fun h0 => ?_⟩
 obtain ⟨b, o, rfl, hb, hc⟩ := h.cells h0
 exact ⟨b, o, rfl, Nat.lt_of_lt_of_le hb k.size, fun i hi => k.cell (hc i hi) (hn ⟨b, o, none⟩ rfl hb)⟩
theorem RdBytes.drewN (h : RdBytes w A n bs) (k : Nat) : RdBytes (w.drewN k) A n bs := ⟨h.len, h.spot, h.cells⟩
theorem RdBytes.drew (h : RdBytes w A n bs) : RdBytes w.drew A n bs := ⟨h.len, h.spot, h.cells⟩
theorem RdBytes.cln (h : RdBytes w A n bs) (k : Cln w w') : RdBytes w' A n bs :=
 h.kept (Kept.of_below (S := fun _ => False) k) fun _ _ _ h => h
end

def byteVals (bs : List UInt8) : List Value := bs.map fun b => .int .u8 (b.toNat : Nat)
theorem byteVals_length (bs : List UInt8) : (byteVals bs).length = bs.length := List.length_map ..
theorem byteVals_append (a b : List UInt8) : byteVals (a ++ b) = byteVals a ++ byteVals b := List.map_append
theorem own_form {w : World} {base e size n : Nat} {v : Value} {xs : List Value} (h : w.ownsRow base e size v n xs) : ∃ A c, v = .slice A n c ∧ (∀ ad, A = some ad → ad.spot = none ∧ ad.off = 0 ∧ base ≤ ad.block ∧ ad.block < w.heap.size) ∧ n ≤ c ∧ c ≤ maxLen := by
 rcases h.2 with ⟨rfl, rfl⟩ | ⟨g, cap, cur, rfl, hb, hg, hn, hm, _⟩
 ·exact ⟨none, 0, rfl, (fun _ e => by cases e), Nat.le_refl _, Nat.zero_le _⟩
 ·exact ⟨_, _, rfl, fun ad e => by injection e with e; subst e; exact ⟨rfl, rfl, hb, lt_of_block hg⟩, hn, hm⟩
theorem own_ne {w : World} {base e size n : Nat} {v : Value} {xs : List Value} {g : Nat} {t : TypeId} {cs : Array Value} (h : w.ownsRow base e size v n xs) (hb : Blk w g t cs) (hne : e ≠ t) : v.ownBlock ≠ some g := by
 rcases h.2 with ⟨rfl, _⟩ | ⟨g', cap, cur, rfl, _, hh, _⟩
 ·simp [Value.ownBlock]
 ·intro he
  have : g' = g := by simpa [Value.ownBlock] using he
  subst this
  exact Blk.ne_ (t := e) hh hb hne rfl
theorem own_rd {w : World} {base e n : Nat} {A : Option Addr} {c : Nat} {bs : List UInt8} (h : w.ownsRow base e 1 (.slice A n c) n (byteVals bs)) : RdBytes w A n bs := by
 obtain ⟨A', c', hv, hA, _⟩ := own_form h
 injection hv with h1 h2 h3
 subst h1
 have hl := h.1
 rw [byteVals_length, Nat.mul_one] at hl
 refine ⟨hl, fun ad e => (hA ad e).1, fun h0 => ?_⟩
 rcases h.2 with ⟨hv, h00⟩ | ⟨g, cap, cur, hv, _, hg, hn, _, _, htake⟩
 ·omega
 ·injection hv with h1 h2 h3
  subst h1
  refine ⟨g, 0, rfl, lt_of_block hg, fun i hi => ?_⟩
  have := h.cells (g := g) rfl i (.int .u8 (byteAt bs i : Nat)) (by
   unfold byteVals byteAt
   have : i < bs.length := by omega
   simp [List.getD, this])
  have e : (⟨g, 0, none⟩ : Addr).add i = ⟨g, 0 + i, none⟩ := by unfold Addr.add; split <;> simp_all
  rwa [e] at this
theorem wpList_push {P : Program} {w0 : World} {ops : Array Oper} {rest : List Oper} {o : Oper} {a : Act} {Q : Exit → Act → World → Prop} (hgd : o.guard = none) (s x : Operand) (t : TypeId)
  (ho : o.op = .call { callee := .builtin .append, args := #[s, x], argTypes := #[t, t] })
  (base : Nat) (e : TypeId) (i : TypeInfo) (z : Value) (size bytes : Nat) (ht : P.underlying t = some (.slice e)) (hi : P.info? e = some i) (hz : i.zero = some z)
  (hsize : i.size = size) (hby : i.bytes = bytes) (hzs : z.cells.size = size) (hsz : 0 < size) (hbpos : 0 < bytes)
  (v : Value) (n : Nat) (xs : List Value) (l : List Value) (hl : l.length = size) (h1 : ∀ u ∈ l, u.oneCell' = true)
  (hs : a.eval s = v) (hx : a.eval x = .slice (some ⟨w0.heap.size, 0, none⟩) 1 1)
  (hown : w0.ownsRow base e size v n xs) (hbytes : (n + 1) * bytes ≤ 140737488355328) (hbase : base ≤ w0.heap.size)
  (h : ∀ v' w', w'.ownsRow base e size v' (n + 1) (xs ++ l) → (w0.alloc (.cells l.toArray e)).grownBy w' v.ownBlock → wpList P ops Q rest (a.put o.dst v') w') :
  wpList P ops Q (o :: rest) a (w0.alloc (.cells l.toArray e)) := by
 have h63 : n + 1 ≤ maxLen := by
  have : n + 1 ≤ (n + 1) * bytes := Nat.le_mul_of_pos_right _ hbpos
  simp only [maxLen]; omega
 refine wpList_append_own _ hgd s x t ho base e i z size bytes ht hi hz hsize hby hzs hsz v n xs hs (hown.alloc _) ⟨w0.heap.size, 0, none⟩ 1 1 l hx (by omega) ?_ h1 h63 hbytes (by simp; omega) fun v' w' h2 h3 _ => h v' w' h2 h3
 intro j u hj
 have e2 : (⟨w0.heap.size, 0, none⟩ : Addr).add j = ⟨w0.heap.size, j, none⟩ := by unfold Addr.add; split <;> simp_all
 rw [e2, (Blk.new w0 e l.toArray).cell j]
 simpa using hj
theorem run_append_of_none {P : Program} {w : World} {base : Nat} {t ty e : TypeId} {i : TypeInfo} {size : Nat} (ht : P.underlying t = some (.slice e)) (hi : P.info? e = some i)
  {v : Value} {n : Nat} {xs : List Value} (hown : w.ownsRow base e size v n xs) (c : Nat) : (Builtin.append_ #[t, t] ty #[v, .slice none 0 c]).run P w = .ok v w := by
 rcases hown.2 with ⟨rfl, rfl⟩ | ⟨g, cap, cur, rfl, _, _, hnc, _⟩
 ·simp [Builtin.append_, run_underlying ht, Go.sizeOf, typeInfo, hi, Builtin.lenOf, Builtin.firstCells]
 ·simp [Builtin.append_, run_underlying ht, Go.sizeOf, typeInfo, hi, Builtin.lenOf, Builtin.firstCells, hnc, storeCells]
theorem wpList_cat {P : Program} {w : World} {ops : Array Oper} {rest : List Oper} {o : Oper} {a : Act} {Q : Exit → Act → World → Prop} (hgd : o.guard = none) (s x : Operand) (t : TypeId)
  (ho : o.op = .call { callee := .builtin .append, args := #[s, x], argTypes := #[t, t] })
  (base : Nat) (e : TypeId) (i : TypeInfo) (z : Value) (size bytes : Nat) (ht : P.underlying t = some (.slice e)) (hi : P.info? e = some i) (hz : i.zero = some z)
  (hsize : i.size = size) (hby : i.bytes = bytes) (hzs : z.cells.size = size) (hsz : 0 < size) (hbpos : 0 < bytes)
  (v : Value) (n : Nat) (xs : List Value) (A : Option Addr) (m c : Nat) (news : List Value) (hl : news.length = m * size) (h1 : ∀ u ∈ news, u.oneCell' = true)
  (hsrc : ∀ ad, A = some ad → ∀ j u, news[j]? = some u → w.cell? (ad.add j) = some u) (hnone : A = none → m = 0)
  (hs : a.eval s = v) (hx : a.eval x = .slice A m c)
  (hown : w.ownsRow base e size v n xs) (hbytes : (n + m) * bytes ≤ 140737488355328) (hbase : base ≤ w.heap.size)
  (h : ∀ v' w', w'.ownsRow base e size v' (n + m) (xs ++ news) → w.grownBy w' v.ownBlock → wpList P ops Q rest (a.put o.dst v') w') :
  wpList P ops Q (o :: rest) a w := by
 have h63 : n + m ≤ maxLen := by
  have : n + m ≤ (n + m) * bytes := Nat.le_mul_of_pos_right _ hbpos
  simp only [maxLen]; omega
 rcases A with _ | ad
 ·obtain rfl := hnone rfl
  have hn : news = [] := List.eq_nil_of_length_eq_zero (by omega)
  subst hn
  refine wpList_plain hgd fun K hK => ?_
  unfold Oper.wp execOp
  simp only [ho, resolve, invoke, builtin, Sem.run_bind, Sem.run_pure, Result.andThen_ok, List.map_toArray, List.map_cons, List.map_nil, hs, hx, run_append_of_none ht hi hown]
  exact hK _ _ (h v w (by simpa using hown) (World.grownBy.refl _ _))
 ·exact wpList_append_own _ hgd s x t ho base e i z size bytes ht hi hz hsize hby hzs hsz v n xs hs hown ad m c news hx hl (hsrc ad rfl) h1 h63 hbytes hbase fun v' w' h2 h3 _ => h v' w' h2 h3
theorem own_src {w : World} {base e size n c : Nat} {A : Option Addr} {xs : List Value} (h : w.ownsRow base e size (.slice A n c) n xs) :
  (∀ ad, A = some ad → ∀ j u, xs[j]? = some u → w.cell? (ad.add j) = some u) ∧ (A = none → n = 0) := by
 constructor
 ·rintro ad rfl j u hj
  rcases h.2 with ⟨hv, _⟩ | ⟨g, cap, cur, hv, _⟩
  ·cases hv
  ·injection hv with h1 h2 h3
   injection h1 with h1
   subst h1
   exact h.cells (g := g) rfl j u hj
 ·rintro rfl
  rcases h.2 with ⟨_, h0⟩ | ⟨g, cap, cur, hv, _⟩
  ·exact h0
  ·cases hv
theorem byteVals_one_cell (bs : List UInt8) : ∀ u ∈ byteVals bs, u.oneCell' = true := by
 intro u hu
 obtain ⟨b, _, rfl⟩ := List.mem_map.1 hu
 rfl
theorem below_drewN {B : Nat} {a w : World} (h : Below B a w) (n : Nat) : Below B a (w.drewN n) := ⟨h.os, h.tape, h.output, h.size, h.block⟩
theorem region_tail {P : Program} {id : Nat} {Q : Exit → Act → World → Prop} {a : Act} {w : World} {l : List Oper} (n : Nat) (hm : P.follows .mixedOrders = true) (hB : Region.lexTailB .any l.toArray n = true)
  (h : wpStill P l.toArray w.drew (fun a' => wpList P l.toArray Q (l.drop n) a' w.drew) (l.take n) a) : (Code.region id l.toArray true).wp P Q a w := wp_region_still_tail n hm hB h
theorem own_base {w : World} {base base' e size n : Nat} {v : Value} {xs : List Value} (h : w.ownsRow base' e size v n xs) (hb : base ≤ base') : w.ownsRow base e size v n xs := by
 refine ⟨h.1, ?_⟩
 rcases h.2 with h1 | ⟨g, cap, cur, hv, hg, r⟩
 ·exact .inl h1
 ·exact .inr ⟨g, cap, cur, hv, Nat.le_trans hb hg, r⟩
/-! A block stored cell by cell. -/
theorem Blk.store2 {w : World} {g : Nat} {t : TypeId} {a0 a1 v0 v1 : Value} (h : Blk w g t #[a0, a1]) : Blk ((w.setCell ⟨g, 0, none⟩ v0).setCell ⟨g, 1, none⟩ v1) g t #[v0, v1] := by
 have h0 : Blk _ g t #[v0, a1] := h.set_ 0 v0
 have h1 : Blk _ g t #[v0, v1] := h0.set_ 1 v1
 exact h1
theorem Blk.store8 {w : World} {g : Nat} {t : TypeId} {a0 a1 a2 a3 a4 a5 a6 a7 v0 v1 v2 v3 v4 v5 v6 v7 : Value} (h : Blk w g t #[a0, a1, a2, a3, a4, a5, a6, a7]) : Blk ((((((((w.setCell ⟨g, 0, none⟩ v0).setCell ⟨g, 1, none⟩ v1).setCell ⟨g, 2, none⟩ v2).setCell ⟨g, 3, none⟩ v3).setCell ⟨g, 4, none⟩ v4).setCell ⟨g, 5, none⟩ v5).setCell ⟨g, 6, none⟩ v6).setCell ⟨g, 7, none⟩ v7) g t #[v0, v1, v2, v3, v4, v5, v6, v7] := by
 have h0 : Blk _ g t #[v0, a1, a2, a3, a4, a5, a6, a7] := h.set_ 0 v0
 have h1 : Blk _ g t #[v0, v1, a2, a3, a4, a5, a6, a7] := h0.set_ 1 v1
 have h2 : Blk _ g t #[v0, v1, v2, a3, a4, a5, a6, a7] := h1.set_ 2 v2
 have h3 : Blk _ g t #[v0, v1, v2, v3, a4, a5, a6, a7] := h2.set_ 3 v3
 have h4 : Blk _ g t #[v0, v1, v2, v3, v4, a5, a6, a7] := h3.set_ 4 v4
 have h5 : Blk _ g t #[v0, v1, v2, v3, v4, v5, a6, a7] := h4.set_ 5 v5
 have h6 : Blk _ g t #[v0, v1, v2, v3, v4, v5, v6, a7] := h5.set_ 6 v6
 have h7 : Blk _ g t #[v0, v1, v2, v3, v4, v5, v6, v7] := h6.set_ 7 v7
 exact h7
theorem cR (w : World) : Cln w w := Below.refl _ _
theorem cA {w w' : World} (h : Cln w w') (o : Obj) : Cln w (w'.alloc o) := Below.alloc h h.size o
theorem cS {w w' : World} {p : Addr} (h : Cln w w') (hp : w.heap.size ≤ p.block) (v : Value) : Cln w (w'.setCell p v) := Below.setCell h hp v
theorem cD {w w' : World} (h : Cln w w') : Cln w w'.drew := Below.drew h
theorem cN {w w' : World} (h : Cln w w') (n : Nat) : Cln w (w'.drewN n) := below_drewN h n
end Moi
