import Derived.Test.YtbemnfbndjolpaaGreatDoorRows2
import Derived.Test.YtbemnfbndjolpaaGreatDoorWAct6
import Derived.Maps.AppendAt
import Derived.Test.YtbemnfbndjolpaaGreatDoorRds
import Derived.Deep.RegionLaw
import Derived.RegionDies
import Derived.Test.YtbemnfbndjolpaaGreatDoorWAct4
import Derived.Test.YtbemnfbndjolpaaGreatDoorWAct5
/- What hangs on some blocks alone; rows of acts and of deals that a call makes itself. -/
set_option linter.unusedSimpArgs false
set_option linter.unusedVariables false
set_option maxRecDepth 20000
namespace Go.Proofs.YtbemnfbndjolpaaGreatDoor
open Go.RowKit Moi
def OnlyBy (S : Nat → Prop) (w : World) (P : World → Prop) : Prop := ∀ w' : World, (∀ k, S k → w'.heap[k]? = w.heap[k]?) → P w'
theorem OnlyBy.here {S : Nat → Prop} {w : World} {P : World → Prop} (h : OnlyBy S w P) : P w := h w fun _ _ => rfl
theorem OnlyBy.mono {S S2 : Nat → Prop} {w : World} {P : World → Prop} (h : OnlyBy S w P) (hs : ∀ k, S k → S2 k) : OnlyBy S2 w P := fun w' k => h w' fun i hi => k i (hs i hi)
theorem OnlyBy.to {S S2 : Nat → Prop} {w w1 : World} {P : World → Prop} (h : OnlyBy S w P) (hk : ∀ k, S k → w1.heap[k]? = w.heap[k]?) (hs : ∀ k, S k → S2 k) : OnlyBy S2 w1 P :=
 fun w' k => h w' fun i hi => (k i (hs i hi)).trans (hk i hi)
theorem OnlyBy.imp {S : Nat → Prop} {w : World} {P Q : World → Prop} (h : OnlyBy S w P) (hi : ∀ w', P w' → Q w') : OnlyBy S w Q := fun w' k => hi w' (h w' k)
theorem RdItems.only {w : World} {A : Option Addr} {n base : Nat} {l : List MItem} (h : RdItems w A n l) (hA : ∀ ad, A = some ad → base ≤ ad.block) : OnlyBy (fun k => base ≤ k ∧ k < w.heap.size) w fun W => RdItems W A n l := by
 intro w' hk
 refine ⟨h.len, h.wf, fun h0 => ?_⟩
 obtain ⟨b, o, rfl, hb, hc⟩ := h.cells h0
 have e := hk b ⟨hA _ rfl, hb⟩
 have hc' : ∀ i v, w.cell? ⟨b, i, none⟩ = some v → w'.cell? ⟨b, i, none⟩ = some v := fun i v hv => (World.cell?_of_block (a := ⟨b, i, none⟩) e).trans hv
 exact ⟨b, o, rfl, World.block_lt_of_cell? _ _ (hc' _ _ (hc 0 h0).1), fun i hi => ⟨hc' _ _ (hc i hi).1, hc' _ _ (hc i hi).2⟩⟩
theorem own_same {w w' : World} {base e size n : Nat} {v : Value} {xs : List Value} (h : w.ownsRow base e size v n xs) (hk : ∀ k, v.ownBlock = some k → w'.heap[k]? = w.heap[k]?) : w'.ownsRow base e size v n xs := by
 refine ⟨h.1, ?_⟩
 rcases h.2 with h1 | ⟨g, cap, cur, hv, hg, hh, r⟩
 ·exact .inl h1
 ·exact .inr ⟨g, cap, cur, hv, hg, (hk g (by rw [hv]; rfl)).trans hh, r⟩
structure AQ where
 a : MAct
 A : Option Addr
 n : Nat
 c : Nat
def AQ.vals (q : AQ) : List Value := [.int .i64 q.a.kind, .string (str q.a.key), .int .i64 q.a.n, .float .f64 q.a.x, .string (str q.a.s), .int .i64 q.a.make.kind, .int .i64 q.a.make.num, .int .i64 q.a.make.low, .int .i64 q.a.make.high, .float .f64 q.a.make.real, .int .i64 q.a.make.cap, .string (str q.a.make.text), .slice q.A q.n q.c, .bool q.a.must]
def aqVals (l : List AQ) : List Value := l.flatMap AQ.vals
theorem aqVals_length (l : List AQ) : (aqVals l).length = l.length * 14 := by
 induction l with
 | nil => rfl
 | cons x l ih => simp only [aqVals, List.flatMap_cons, List.length_append, List.length_cons] at *; rw [ih]; simp [AQ.vals]; omega
theorem aqVals_get (l : List AQ) : ∀ i j, i < l.length → j < 14 → (aqVals l)[i * 14 + j]? = ((l.getD i ⟨zeroAct, none, 0, 0⟩).vals)[j]? := by
 induction l with
 | nil => intro i j hi; simp at hi
 | cons x l ih =>
  intro i j hi hj
  have hx : x.vals.length = 14 := rfl
  cases i with
  | zero => simp only [aqVals, List.flatMap_cons, Nat.zero_mul, Nat.zero_add, List.getD_cons_zero]; rw [List.getElem?_append_left (by omega)]
  | succ i =>
   simp only [aqVals, List.flatMap_cons, List.getD_cons_succ]
   rw [List.getElem?_append_right (by omega), show (i + 1) * 14 + j - x.vals.length = i * 14 + j from by omega]
   exact ih i j (by simpa using hi) hj
structure OwnActs (W : World) (base : Nat) (v : Value) (n : Nat) (l : List AQ) : Prop where
 own : W.ownsRow base 64 14 v n (aqVals l)
 it : ∀ q ∈ l, q.a.WF ∧ OnlyBy (fun k => base ≤ k ∧ k < W.heap.size ∧ v.ownBlock ≠ some k) W fun w' => RdItems w' q.A q.n q.a.make.list
theorem OwnActs.nil (W : World) (base : Nat) : OwnActs W base (.slice none 0 0) 0 [] := ⟨World.ownsRow_nil _ _ _ _, fun _ h => by cases h⟩
theorem OwnActs.len {W : World} {base : Nat} {v : Value} {n : Nat} {l : List AQ} (h : OwnActs W base v n l) : l.length = n := by have := h.own.1; rw [aqVals_length] at this; omega
theorem OwnActs.kept {S : Nat → Prop} {W W' : World} {base : Nat} {v : Value} {n : Nat} {l : List AQ} (h : OwnActs W base v n l) (k : Kept S W W') (hS : ∀ i, base ≤ i → i < W.heap.size → ¬ S i) : OwnActs W' base v n l :=
 ⟨own_same h.own (fun g hg => by have := own_ge h.own g hg; exact k.block g this.2 (hS g this.1 this.2)), fun q hq => ⟨(h.it q hq).1, (h.it q hq).2.to (fun i hi => k.block i hi.2.1 (hS i hi.1 hi.2.1)) fun i hi => ⟨hi.1, Nat.lt_of_lt_of_le hi.2.1 k.size, hi.2.2⟩⟩⟩
theorem OwnActs.cln {W W' : World} {base : Nat} {v : Value} {n : Nat} {l : List AQ} (h : OwnActs W base v n l) (k : Cln W W') : OwnActs W' base v n l :=
 h.kept (Kept.of_below (S := fun _ => False) k) fun _ _ _ h => h
theorem OwnActs.same {W W' : World} {base : Nat} {v : Value} {n : Nat} {l : List AQ} (h : OwnActs W base v n l) (hk : ∀ k, base ≤ k → k < W.heap.size → W'.heap[k]? = W.heap[k]?) :
  W'.ownsRow base 64 14 v n (aqVals l) ∧ ∀ q ∈ l, q.a.WF ∧ RdItems W' q.A q.n q.a.make.list :=
 ⟨own_same h.own (fun g hg => by have := own_ge h.own g hg; exact hk g this.1 this.2), fun q hq => ⟨(h.it q hq).1, (h.it q hq).2 W' fun i hi => hk i hi.1 hi.2.1⟩⟩
theorem own_acts {W : World} {base n c : Nat} {A : Option Addr} {l : List AQ} (h : W.ownsRow base 64 14 (.slice A n c) n (aqVals l)) (hit : ∀ q ∈ l, q.a.WF ∧ RdItems W q.A q.n q.a.make.list) : RdActs W A n (l.map (·.a)) := by
 have hl := h.1
 rw [aqVals_length] at hl
 have hl' : l.length = n := by omega
 refine ⟨by simpa using hl', fun h0 => ?_⟩
 rcases h.2 with ⟨hv, h00⟩ | ⟨g, cap, cur, hv, _, hg, _⟩
 ·omega
 ·injection hv with h1 h2 h3
  subst h1
  refine ⟨g, 0, rfl, lt_of_block hg, fun i hi => ?_⟩
  have hmem : l.getD i ⟨zeroAct, none, 0, 0⟩ ∈ l := by simp [List.getD, show i < l.length by omega]
  have hq := hit _ hmem
  have hat : actAt (l.map (·.a)) i = (l.getD i ⟨zeroAct, none, 0, 0⟩).a := by simp [actAt, List.getD, show i < l.length by omega]
  rw [hat]
  have hx := fun j (hj : j < 14) => aqVals_get l i j (by omega) hj
  generalize l.getD i ⟨zeroAct, none, 0, 0⟩ = q at hq hx
  have hc : ∀ j u, j < 14 → q.vals[j]? = some u → W.cell? ⟨g, 0 + i * 14 + j, none⟩ = some u := fun j u hj hu => by
   have := h.cells (g := g) rfl (i * 14 + j) u ((hx j hj).trans hu)
   have e : (⟨g, 0, none⟩ : Addr).add (i * 14 + j) = ⟨g, 0 + i * 14 + j, none⟩ := by unfold Addr.add; split <;> simp_all
   rwa [e] at this
  exact ⟨q.A, q.n, q.c, hc 0 _ (by decide) rfl, hc 1 _ (by decide) rfl, hc 2 _ (by decide) rfl, hc 3 _ (by decide) rfl, hc 4 _ (by decide) rfl, hc 5 _ (by decide) rfl, hc 6 _ (by decide) rfl, hc 7 _ (by decide) rfl, hc 8 _ (by decide) rfl, hc 9 _ (by decide) rfl, hc 10 _ (by decide) rfl, hc 11 _ (by decide) rfl, hc 12 _ (by decide) rfl, hc 13 _ (by decide) rfl, hq.2, hq.1⟩
theorem OwnActs.rd {W : World} {base n c : Nat} {A : Option Addr} {l : List AQ} (h : OwnActs W base (.slice A n c) n l) : RdActs W A n (l.map (·.a)) :=
 own_acts (h.same fun _ _ _ => rfl).1 (h.same fun _ _ _ => rfl).2
theorem OwnActs.only {W : World} {base n c : Nat} {A : Option Addr} {l : List AQ} (h : OwnActs W base (.slice A n c) n l) : OnlyBy (fun k => base ≤ k ∧ k < W.heap.size) W fun w' => RdActs w' A n (l.map (·.a)) :=
 fun w' hk => own_acts (h.same fun k h1 h2 => hk k ⟨h1, h2⟩).1 (h.same fun k h1 h2 => hk k ⟨h1, h2⟩).2
theorem OwnActs.push {W1 w2 : World} {base n b1 : Nat} {v v' : Value} {l : List AQ} {q : AQ} {o : Obj} (h : OwnActs W1 base v n l) (hown : w2.ownsRow base 64 14 v' (n + 1) (aqVals (l ++ [q])))
  (hg : (W1.alloc o).grownBy w2 v.ownBlock) (hv : v'.ownBlock = v.ownBlock ∨ v'.ownBlock = some (W1.alloc o).heap.size) (hb : base ≤ b1) (hvb : ∀ g, v.ownBlock = some g → g < b1) (hwf : q.a.WF)
  (hq : OnlyBy (fun k => b1 ≤ k ∧ k < W1.heap.size) W1 fun w' => RdItems w' q.A q.n q.a.make.list) : OwnActs w2 base v' (n + 1) (l ++ [q]) := by
 have hsz : W1.heap.size + 1 ≤ w2.heap.size := by have := hg.size; simpa using this
 have hk : ∀ k, k < W1.heap.size → v.ownBlock ≠ some k → w2.heap[k]? = W1.heap[k]? := fun k hk hne =>
  (hg.block k (by simp; omega) (fun e => hne e.symm)).trans (Below.heap_alloc W1 o k hk)
 have hne : ∀ k, k < W1.heap.size → v.ownBlock ≠ some k → v'.ownBlock ≠ some k := fun k hk hne e => by
  rcases hv with h1 | h1
  ·exact hne (h1 ▸ e)
  ·rw [h1] at e; injection e with e; simp at e; omega
 refine ⟨hown, fun x hx => ?_⟩
 rcases List.mem_append.1 hx with hx | hx
 ·exact ⟨(h.it x hx).1, (h.it x hx).2.to (fun k hk' => hk k hk'.2.1 hk'.2.2) fun k hk' => ⟨hk'.1, by omega, hne k hk'.2.1 hk'.2.2⟩⟩
 ·obtain rfl : x = q := by simpa using hx
  have hz : ∀ k, b1 ≤ k → v.ownBlock ≠ some k := fun k h1 e => by have := hvb k e; omega
  exact ⟨hwf, hq.to (fun k hk' => hk k hk'.2 (hz k hk'.1)) fun k hk' => ⟨by omega, by omega, hne k hk'.2 (hz k hk'.1)⟩⟩
theorem wpList_pushAt {P : Program} {w0 : World} {ops : Array Oper} {rest : List Oper} {o : Oper} {a : Act} {Q : Exit → Act → World → Prop} (hgd : o.guard = none) (s x : Operand) (t : TypeId)
  (ho : o.op = .call { callee := .builtin .append, args := #[s, x], argTypes := #[t, t] })
  (base : Nat) (e : TypeId) (i : TypeInfo) (z : Value) (size bytes : Nat) (ht : P.underlying t = some (.slice e)) (hi : P.info? e = some i) (hz : i.zero = some z)
  (hsize : i.size = size) (hby : i.bytes = bytes) (hzs : z.cells.size = size) (hsz : 0 < size) (hbpos : 0 < bytes)
  (v : Value) (n : Nat) (xs : List Value) (l : List Value) (hl : l.length = size) (h1 : ∀ u ∈ l, u.oneCell' = true)
  (hs : a.eval s = v) (hx : a.eval x = .slice (some ⟨w0.heap.size, 0, none⟩) 1 1)
  (hown : w0.ownsRow base e size v n xs) (hbytes : (n + 1) * bytes ≤ 140737488355328) (hbase : base ≤ w0.heap.size)
  (h : ∀ v' w', w'.ownsRow base e size v' (n + 1) (xs ++ l) → (w0.alloc (.cells l.toArray e)).grownBy w' v.ownBlock → (v'.ownBlock = v.ownBlock ∨ v'.ownBlock = some (w0.alloc (.cells l.toArray e)).heap.size) → wpList P ops Q rest (a.put o.dst v') w') :
  wpList P ops Q (o :: rest) a (w0.alloc (.cells l.toArray e)) := by
 have h63 : n + 1 ≤ maxLen := by
  have : n + 1 ≤ (n + 1) * bytes := Nat.le_mul_of_pos_right _ hbpos
  simp only [maxLen]; omega
 refine wpList_append_own_at _ hgd s x t ho base e i z size bytes ht hi hz hsize hby hzs hsz v n xs hs (hown.alloc _) ⟨w0.heap.size, 0, none⟩ 1 1 l hx (by omega) ?_ h1 h63 hbytes (by simp; omega) fun v' w' h2 h3 _ h5 => h v' w' h2 h3 h5
 intro j u hj
 have e2 : (⟨w0.heap.size, 0, none⟩ : Addr).add j = ⟨w0.heap.size, j, none⟩ := by unfold Addr.add; split <;> simp_all
 rw [e2, (Blk.new w0 e l.toArray).cell j]
 simpa using hj
theorem step_pushAt {P : Program} {w0 : World} {ops : Array Oper} {o : Oper} {a : Act} {K : Act → World → Prop} {Q : Exit → Act → World → Prop} {E : Prop} (hgd : o.guard = none) (s x : Operand) (t : TypeId)
  (ho : o.op = .call { callee := .builtin .append, args := #[s, x], argTypes := #[t, t] })
  (base : Nat) (e : TypeId) (i : TypeInfo) (z : Value) (size bytes : Nat) (ht : P.underlying t = some (.slice e)) (hi : P.info? e = some i) (hz : i.zero = some z)
  (hsize : i.size = size) (hby : i.bytes = bytes) (hzs : z.cells.size = size) (hsz : 0 < size) (hbpos : 0 < bytes)
  (v : Value) (n : Nat) (xs : List Value) (l : List Value) (hl : l.length = size) (h1 : ∀ u ∈ l, u.oneCell' = true)
  (hs : a.eval s = v) (hx : a.eval x = .slice (some ⟨w0.heap.size, 0, none⟩) 1 1)
  (hown : w0.ownsRow base e size v n xs) (hbytes : (n + 1) * bytes ≤ 140737488355328) (hbase : base ≤ w0.heap.size)
  (h : ∀ v' w', w'.ownsRow base e size v' (n + 1) (xs ++ l) → (w0.alloc (.cells l.toArray e)).grownBy w' v.ownBlock → (v'.ownBlock = v.ownBlock ∨ v'.ownBlock = some (w0.alloc (.cells l.toArray e)).heap.size) → K (a.put o.dst v') w') :
  if Region.wanted o (yielded ops a.tmps) = true then Oper.wp P o a (w0.alloc (.cells l.toArray e)) K Q else E := by
 have hw : Region.wanted o (yielded ops a.tmps) = true := by simp [Region.wanted, hgd]
 rw [if_pos hw]
 have h63 : n + 1 ≤ maxLen := by
  have : n + 1 ≤ (n + 1) * bytes := Nat.le_mul_of_pos_right _ hbpos
  simp only [maxLen]; omega
 obtain ⟨v', w', hr, h2, h3, h4, h5⟩ := run_append_own_at (P := P) (w0.alloc (.cells l.toArray e)) base t o.type e i z size bytes ht hi hz hsize hby hzs hsz v n xs (hown.alloc _) ⟨w0.heap.size, 0, none⟩ 1 1 l (by omega) (by
  intro j u hj
  have e2 : (⟨w0.heap.size, 0, none⟩ : Addr).add j = ⟨w0.heap.size, j, none⟩ := by unfold Addr.add; split <;> simp_all
  rw [e2, (Blk.new w0 e l.toArray).cell j]
  simpa using hj) h1 h63 hbytes (by simp; omega)
 unfold Oper.wp execOp
 simp only [ho, resolve, invoke, builtin, Sem.run_bind, Sem.run_pure, Result.andThen_ok, List.map_toArray, List.map_cons, List.map_nil, hs, hx, hr]
 exact h v' w' h2 h3 h5
def encDeal (base : Nat) (l : List MAct) (v : Value) (w : World) : Prop :=
 ∃ A n c, v = .agg #[.slice A n c] ∧ n ≤ 12 ∧ OnlyBy (fun k => base ≤ k ∧ k < w.heap.size) w fun w' => RdActs w' A n l
structure OwnQ {α : Type} (T : TypeId) (sz : Nat) (vals : α → List Value) (P : α → World → Prop) (W : World) (base : Nat) (v : Value) (n : Nat) (l : List α) : Prop where
 own : W.ownsRow base T sz v n (l.flatMap vals)
 it : ∀ q ∈ l, OnlyBy (fun k => base ≤ k ∧ k < W.heap.size ∧ v.ownBlock ≠ some k) W (P q)
section
variable {α : Type} {T : TypeId} {sz : Nat} {vals : α → List Value} {P : α → World → Prop} {W W' : World} {base n : Nat} {v : Value} {l : List α}
theorem OwnQ.nil (T : TypeId) (sz : Nat) (vals : α → List Value) (P : α → World → Prop) (W : World) (base : Nat) : OwnQ T sz vals P W base (.slice none 0 0) 0 [] := ⟨World.ownsRow_nil _ _ _ _, fun _ h => by cases h⟩
theorem OwnQ.kept {S : Nat → Prop} (h : OwnQ T sz vals P W base v n l) (k : Kept S W W') (hS : ∀ i, base ≤ i → i < W.heap.size → ¬ S i) : OwnQ T sz vals P W' base v n l :=
 ⟨own_same h.own (fun g hg => by have := own_ge h.own g hg; exact k.block g this.2 (hS g this.1 this.2)), fun q hq => (h.it q hq).to (fun i hi => k.block i hi.2.1 (hS i hi.1 hi.2.1)) fun i hi => ⟨hi.1, Nat.lt_of_lt_of_le hi.2.1 k.size, hi.2.2⟩⟩
theorem OwnQ.cln (h : OwnQ T sz vals P W base v n l) (k : Cln W W') : OwnQ T sz vals P W' base v n l :=
 h.kept (Kept.of_below (S := fun _ => False) k) fun _ _ _ h => h
theorem OwnQ.same (h : OwnQ T sz vals P W base v n l) (hk : ∀ k, base ≤ k → k < W.heap.size → W'.heap[k]? = W.heap[k]?) : W'.ownsRow base T sz v n (l.flatMap vals) ∧ ∀ q ∈ l, P q W' :=
 ⟨own_same h.own (fun g hg => by have := own_ge h.own g hg; exact hk g this.1 this.2), fun q hq => (h.it q hq) W' fun i hi => hk i hi.1 hi.2.1⟩
theorem OwnQ.push {W1 w2 : World} {b1 : Nat} {v' : Value} {q : α} {o : Obj} (h : OwnQ T sz vals P W1 base v n l) (hown : w2.ownsRow base T sz v' (n + 1) ((l ++ [q]).flatMap vals))
  (hg : (W1.alloc o).grownBy w2 v.ownBlock) (hv : v'.ownBlock = v.ownBlock ∨ v'.ownBlock = some (W1.alloc o).heap.size) (hb : base ≤ b1) (hvb : ∀ g, v.ownBlock = some g → g < b1)
  (hq : OnlyBy (fun k => b1 ≤ k ∧ k < W1.heap.size) W1 (P q)) : OwnQ T sz vals P w2 base v' (n + 1) (l ++ [q]) := by
 have hsz : W1.heap.size + 1 ≤ w2.heap.size := by have := hg.size; simpa using this
 have hk : ∀ k, k < W1.heap.size → v.ownBlock ≠ some k → w2.heap[k]? = W1.heap[k]? := fun k hk hne =>
  (hg.block k (by simp; omega) (fun e => hne e.symm)).trans (Below.heap_alloc W1 o k hk)
 have hne : ∀ k, k < W1.heap.size → v.ownBlock ≠ some k → v'.ownBlock ≠ some k := fun k hk hne e => by
  rcases hv with h1 | h1
  ·exact hne (h1 ▸ e)
  ·rw [h1] at e; injection e with e; simp at e; omega
 refine ⟨hown, fun x hx => ?_⟩
 rcases List.mem_append.1 hx with hx | hx
 ·exact (h.it x hx).to (fun k hk' => hk k hk'.2.1 hk'.2.2) fun k hk' => ⟨hk'.1, by omega, hne k hk'.2.1 hk'.2.2⟩
 ·obtain rfl : x = q := by simpa using hx
  have hz : ∀ k, b1 ≤ k → v.ownBlock ≠ some k := fun k h1 e => by have := hvb k e; omega
  exact hq.to (fun k hk' => hk k hk'.2 (hz k hk'.1)) fun k hk' => ⟨by omega, by omega, hne k hk'.2 (hz k hk'.1)⟩
end
structure DQ where
 d : List MAct
 A : Option Addr
 n : Nat
 c : Nat
def DQ.vals (q : DQ) : List Value := [.slice q.A q.n q.c]
def DQ.rd (q : DQ) (W : World) : Prop := RdActs W q.A q.n q.d
abbrev OwnDeals : World → Nat → Value → Nat → List DQ → Prop := OwnQ 67 1 DQ.vals DQ.rd
theorem dqVals_length (l : List DQ) : (l.flatMap DQ.vals).length = l.length := by
 induction l with
 | nil => rfl
 | cons x l ih => simp only [List.flatMap_cons, List.length_append, List.length_cons]; rw [ih]; simp [DQ.vals]; omega
theorem dqVals_get (l : List DQ) : ∀ i, i < l.length → (l.flatMap DQ.vals)[i]? = some (.slice (l.getD i ⟨[], none, 0, 0⟩).A (l.getD i ⟨[], none, 0, 0⟩).n (l.getD i ⟨[], none, 0, 0⟩).c) := by
 induction l with
 | nil => intro i hi; simp at hi
 | cons x l ih =>
  intro i hi
  cases i with
  | zero => simp [DQ.vals]
  | succ i =>
   simp only [List.flatMap_cons, List.getD_cons_succ]
   rw [List.getElem?_append_right (by simp [DQ.vals]), show i + 1 - x.vals.length = i from by simp [DQ.vals]]
   exact ih i (by simpa using hi)
theorem dqVals_snoc (acc : List DQ) (d : List MAct) (A : Option Addr) (n c : Nat) : acc.flatMap DQ.vals ++ [.slice A n c] = (acc ++ [(⟨d, A, n, c⟩ : DQ)]).flatMap DQ.vals := by simp [DQ.vals]
theorem own_deals {W : World} {base n c : Nat} {A : Option Addr} {l : List DQ} (h : W.ownsRow base 67 1 (.slice A n c) n (l.flatMap DQ.vals)) (hit : ∀ q ∈ l, DQ.rd q W) : RdDeals W A n (l.map (·.d)) := by
 have hl := h.1
 rw [dqVals_length] at hl
 have hl' : l.length = n := by omega
 refine ⟨by simpa using hl', fun h0 => ?_⟩
 rcases h.2 with ⟨hv, h00⟩ | ⟨g, cap, cur, hv, _, hg, _⟩
 ·omega
 ·injection hv with h1 h2 h3
  subst h1
  refine ⟨g, 0, rfl, lt_of_block hg, fun i hi => ?_⟩
  have hmem : l.getD i ⟨[], none, 0, 0⟩ ∈ l := by simp [List.getD, show i < l.length by omega]
  have hq := hit _ hmem
  have hat : dealAt (l.map (·.d)) i = (l.getD i ⟨[], none, 0, 0⟩).d := by simp [dealAt, List.getD, show i < l.length by omega]
  rw [hat]
  have hx := dqVals_get l i (by omega)
  generalize l.getD i ⟨[], none, 0, 0⟩ = q at hq hx
  have := h.cells (g := g) rfl i _ hx
  have e : (⟨g, 0, none⟩ : Addr).add i = ⟨g, 0 + i, none⟩ := by unfold Addr.add; split <;> simp_all
  rw [e] at this
  exact ⟨q.A, q.n, q.c, this, hq⟩
theorem OwnDeals.rd {W : World} {base n c : Nat} {A : Option Addr} {l : List DQ} (h : OwnDeals W base (.slice A n c) n l) : RdDeals W A n (l.map (·.d)) :=
 own_deals (OwnQ.same h fun _ _ _ => rfl).1 (OwnQ.same h fun _ _ _ => rfl).2
theorem OwnDeals.only {W : World} {base n c : Nat} {A : Option Addr} {l : List DQ} (h : OwnDeals W base (.slice A n c) n l) : OnlyBy (fun k => base ≤ k ∧ k < W.heap.size) W fun w' => RdDeals w' A n (l.map (·.d)) :=
 fun w' hk => own_deals (OwnQ.same h fun k h1 h2 => hk k ⟨h1, h2⟩).1 (OwnQ.same h fun k h1 h2 => hk k ⟨h1, h2⟩).2
theorem own_cap {W : World} {base e sz n c : Nat} {A : Option Addr} {xs : List Value} (h : W.ownsRow base e sz (.slice A n c) n xs) : n ≤ c := by
 obtain ⟨A', c', hv, _, hc, _⟩ := own_form h
 injection hv with h1 h2 h3
 subst h3; exact hc
theorem Tryz.info67 : (Tryz.prog.info? 67).map (fun i => (i.zero, i.size, i.bytes)) = some (some (.agg #[.slice none 0 0]), 1, 24) := by kernel_rfl
end Go.Proofs.YtbemnfbndjolpaaGreatDoor

/- The walk of deal.Take. (Printed by wip/tools/gen_deal4.py.) -/
namespace Go.Proofs.YtbemnfbndjolpaaGreatDoor
open Go.RowKit Moi
attribute [local go_sem] toList_str str_size less_ltB store_float
theorem Tryz.info64 : (Tryz.prog.info? 64).map (fun i => (i.zero, i.size, i.bytes)) = some (some (.agg #[.int .i64 0, .string ⟨#[]⟩, .int .i64 0, .float .f64 0, .string ⟨#[]⟩, .int .i64 0, .int .i64 0, .int .i64 0, .int .i64 0, .float .f64 0, .int .i64 0, .string ⟨#[]⟩, .slice none 0 0, .bool false]), 14, 152) := by kernel_rfl
theorem aqVals_snoc (acc : List AQ) (x : MAct) (Ax : Option Addr) (nx cx : Nat) : aqVals acc ++ [.int .i64 x.kind, .string (str x.key), .int .i64 x.n, .float .f64 x.x, .string (str x.s), .int .i64 x.make.kind, .int .i64 x.make.num, .int .i64 x.make.low, .int .i64 x.make.high, .float .f64 x.make.real, .int .i64 x.make.cap, .string (str x.make.text), .slice Ax nx cx, .bool x.must] = aqVals (acc ++ [⟨x, Ax, nx, cx⟩]) := by simp [aqVals, AQ.vals]
theorem rActsGo_step {b : List UInt8} {m i : Nat} (h : i < m) (acc : List MAct) (a : Nat) :
  rActsGo b (m - i) acc a = (match rAct b a with | .error e => .error e | .ok (x, a) => rActsGo b (m - (i + 1)) (acc ++ [x]) a) := by
 rw [show m - i = (m - (i + 1)) + 1 from by omega]; rfl
set_option maxHeartbeats 4000000 in
theorem dtake_any (p : Nat) (A : Option Addr) (n c : Nat) (bs : List UInt8) (a : Nat) (w : World) (hr : IsR w p A n c bs a) (hA : ∀ ad, A = some ad → ad.block < w.heap.size) (hK : KindsAt w) :
  Calls Tryz.prog 58 #[.pointer (some ⟨p, 0, none⟩)] w (RPost (encDeal w.heap.size) w p A n c bs (rDeal bs a)) := by
 have hpl := hr.blk.lt
 have hkl := hK.lt
 have hkp : ¬ 1 = p := kinds_ne (rest := [.int .i64 (a : Nat)]) hK hr.blk
 have hcl0 : Cln w (w.alloc (.cells #[.slice none 0 0] 67)) := by (repeat with_reducible first | exact cR _ | assumption | refine cA ?_ _ | refine cD ?_ | refine cN ?_ _ | refine cS ?_ (by first | omega | (simp <;> omega)) _)
 have hb0 := Blk.new w 67 #[.slice none 0 0]
 go_enter Tryz.func58, Tryz.ntmps58
 go_wp2_with fail
 refine (upto_any p A n c bs a 12 (by omega) _ (hr.cln hcl0)).mono ?_
 intro e w1 h
 rcases h.cases with ⟨m, a1, v, hres, rfl, hv, hr1, hk1⟩ | ⟨f, hres, rfl, hk1⟩
 case inr =>
  have hspec : Hid (rDeal bs a = .error f) := by unfold Hid rDeal; simp only [hres]
  clear hres h
  go_wp2_with fail
  refine ⟨rfl, ?_⟩
  rw [hspec.out]
  exact ⟨rfl, (Kept.of_below (S := (· = p)) hcl0).trans hk1⟩
 have hv' : v = .int .i64 (m : Nat) := hv
 subst hv'
 have hm := rUpto_le hres
 have hspec : Hid (rDeal bs a = if m = 0 then .error (1, a1) else rActsGo bs m [] a1) := by unfold Hid rDeal; simp only [hres]
 have hb1 := hb0.kept hk1 (show ¬ w.heap.size = p by omega)
 have hK1 := (Kept.of_below (S := (· = p)) hcl0).trans hk1
 clear hv h hres hb0 hcl0 hr
 by_cases h0 : m = 0
 ·have hspec2 : Hid (rDeal bs a = .error (1, a1)) := by unfold Hid; rw [hspec.out, if_pos h0]
  subst h0
  go_wp2_with fail
  refine (Fail_any p A n c bs a1 1 _ hr1).mono ?_
  rintro e w5 ⟨rfl, rfl⟩
  go_wp2_with fail
  refine ⟨rfl, ?_⟩
  rw [hspec2.out]
  exact ⟨rfl, hK1⟩
 have t1 : ((m : Int) == 0) = false := by rw [beq_eq_false_iff_ne]; omega
 have hs1 : w.heap.size < w1.heap.size := hb1.lt
 have hspec2 : Hid (rDeal bs a = rActsGo bs (m - 0) (([] : List AQ).map (·.a)) a1) := by unfold Hid; rw [hspec.out, if_neg h0]; rfl
 have hb2 := Lib.hid (hb1.alloc (.cells #[.slice none 0 0] 67))
 have hr2 := Lib.hid (hr1.alloc (.cells #[.slice none 0 0] 67))
 have hK2 := Lib.hid (hK1.alloc (.cells #[.slice none 0 0] 67))
 have hg2 := Lib.hid (Blk.new w1 67 #[.slice none 0 0])
 have hA' := Lib.hid hA
 clear hb1 hr1 hK1 hspec hk1 hA
 go_wp2_with fail
 go_loopw [12] (fun v wr => ∃ (i : Nat) (acc : List AQ) (A' : Option Addr) (c' ar : Nat), i ≤ m ∧ v = .int .i64 (i : Nat) ∧ Hid (OwnActs wr (w1.heap.size + 1) (.slice A' i c') i acc) ∧ Hid (Blk wr w1.heap.size 67 #[.slice A' i c']) ∧ Hid (Blk wr w.heap.size 67 #[.slice none 0 0]) ∧ Hid (IsR wr p A n c bs ar) ∧ Hid (Kept (· = p) w wr) ∧ Hid (w1.heap.size < wr.heap.size) ∧ Hid (rDeal bs a = rActsGo bs (m - i) (acc.map (·.a)) ar)) (fun v _ => (m - intOf v).toNat)
 case atStart => exact ⟨0, [], none, 0, a1, Nat.zero_le _, rfl, OwnActs.nil _ _, hg2, hb2, hr2, hK2, by unfold Hid; simp, hspec2⟩
 case round =>
  clear hg2 hb2 hr2 hK2 hspec2
  obtain ⟨i, acc, A', c', ar, hi, rfl, hO, hg, hb, hR, hKr, hsz, hH⟩ := hrel
  have hgc := hg.out.cell 0
  have hgl := hg.out.lt
  have hgf := hg.out.frozen 0
  by_cases hlt : i < m
  ·have t3 : decide ((i : Int) < (m : Int)) = true := decide_eq_true (by omega)
   have hstep := Lib.hid (hH.out.trans (rActsGo_step hlt (acc.map (·.a)) ar))
   have cT := atake_any p A n c bs ar wr.drew hR.out.drew (fun ad e => by have h1 := hA'.out ad e; have h2 := hsz.out; show ad.block < wr.heap.size; omega) (hK.kept (hKr.out.drew) hkp)
   obtain ⟨i0, hi0, hz0, hz1, hz2⟩ := info_parts Tryz.info64
   clear hH
   cases hres : rAct bs ar with
   | error f =>
    have hres' := Lib.hid hres
    have hfin : Hid (rDeal bs a = .error f) := by unfold Hid; rw [hstep.out, hres]
    go_wp2_with fail
    go_region_dies
    all_goals
     go_at_call 76
     refine cT.mono ?_
     intro e w6 h
     rw [hres'.out] at h
     obtain ⟨rfl, hk⟩ := h
     go_wp2_with fail
     refine ⟨rfl, ?_⟩
     rw [hfin.out]
     exact ⟨rfl, (hKr.out.drew).trans hk⟩
   | ok y =>
    obtain ⟨x, ar2⟩ := y
    have hfin : Hid (rDeal bs a = rActsGo bs (m - (i + 1)) (acc.map (·.a) ++ [x]) ar2) := by unfold Hid; rw [hstep.out, hres]
    have cT2 : Calls Tryz.prog 76 #[.pointer (some ⟨p, 0, none⟩)] wr.drew fun e w6 => ∃ (Ax : Option Addr) (nx cx : Nat), e = .returned (.agg #[.int .i64 x.kind, .string (str x.key), .int .i64 x.n, .float .f64 x.x, .string (str x.s), .int .i64 x.make.kind, .int .i64 x.make.num, .int .i64 x.make.low, .int .i64 x.make.high, .float .f64 x.make.real, .int .i64 x.make.cap, .string (str x.make.text), .slice Ax nx cx, .bool x.must]) ∧ Hid (OwnActs w6 (w1.heap.size + 1) (.slice A' i c') i acc) ∧ Hid (x.WF ∧ OnlyBy (fun k => wr.heap.size ≤ k ∧ k < w6.heap.size) w6 fun w' => RdItems w' Ax nx x.make.list) ∧ Blk w6 w1.heap.size 67 #[.slice A' i c'] ∧ Hid (Blk w6 w.heap.size 67 #[.slice none 0 0]) ∧ Hid (IsR w6 p A n c bs ar2) ∧ Hid (Kept (· = p) w w6) ∧ Hid (w1.heap.size < w6.heap.size) := by
     refine cT.mono ?_
     intro e w6 h
     rw [hres] at h
     obtain ⟨v, rfl, ⟨Ax, nx, cx, rfl, h1, h2, h3, h4⟩, hR6, hK6⟩ := h
     have hs6 := hK6.size
     exact ⟨Ax, nx, cx, rfl, (hO.out.cln (Below.drew (Below.refl _ _))).kept hK6 (fun k hk _ e => by omega), ⟨h3, h1.only h2⟩, (hg.out.drew).kept hK6 (by show ¬ w1.heap.size = p; omega), (hb.out.drew).kept hK6 (by show ¬ w.heap.size = p; omega), hR6, (hKr.out.drew).trans hK6, Nat.lt_of_lt_of_le hsz.out hs6⟩
    have hob : Hid (∀ g, (Value.slice A' i c').ownBlock = some g → g < wr.heap.size) := fun g hg => (own_ge hO.out.own g hg).2
    clear cT hres hstep hO hg hb hR hKr
    go_wp2_with fail
    go_region_law (first
     |(go_simp; go_at_call 76; with_reducible refine cT2.mono ?_; rintro e w6 ⟨Ax, nx, cx, rfl, hO6, hq6, hg6, hb6, hR6, hK6, hsz6⟩; have hgc6 := hg6.cell 0; have hgl6 := hg6.lt; have hgf6 := hg6.frozen 0)
     |(refine step_pushAt rfl _ _ 65 rfl (w1.heap.size + 1) 64 i0 (.agg #[.int .i64 0, .string ⟨#[]⟩, .int .i64 0, .float .f64 0, .string ⟨#[]⟩, .int .i64 0, .int .i64 0, .int .i64 0, .int .i64 0, .float .f64 0, .int .i64 0, .string ⟨#[]⟩, .slice none 0 0, .bool false]) 14 152 Tryz.underlying65 hi0 hz0 hz1 hz2 rfl (by decide) (by decide) (.slice A' i c') i (aqVals acc) [.int .i64 x.kind, .string (str x.key), .int .i64 x.n, .float .f64 x.x, .string (str x.s), .int .i64 x.make.kind, .int .i64 x.make.num, .int .i64 x.make.low, .int .i64 x.make.high, .float .f64 x.make.real, .int .i64 x.make.cap, .string (str x.make.text), .slice Ax nx cx, .bool x.must] rfl (by simp [Value.oneCell']) rfl rfl hO6.out.own (by omega) hsz6.out ?_; intro v' w7 hown7 hgr7 hv7; obtain ⟨A2, c2, rfl, _, _⟩ := own_form hown7; have hk7 : Kept (fun k => w1.heap.size + 1 ≤ k) w6 w7 := ((Kept.refl _ w6).alloc _).grown hgr7 (fun k hk _ => (own_ge hO6.out.own k hk).1); have hg7 := hg6.kept hk7 (show ¬ w1.heap.size + 1 ≤ w1.heap.size by omega); have hgc7 := hg7.cell 0; have hgl7 := hg7.lt; have hgf7 := hg7.frozen 0))
    all_goals
     have hO7 : Hid (OwnActs w7 (w1.heap.size + 1) (.slice A2 (i + 1) c2) (i + 1) (acc ++ [⟨x, Ax, nx, cx⟩])) :=
      OwnActs.push (b1 := wr.heap.size) (q := ⟨x, Ax, nx, cx⟩) hO6.out (by rw [← aqVals_snoc]; exact hown7) hgr7 hv7 (by omega) hob.out hq6.out.1 hq6.out.2
     have hb7 := Lib.hid (hb6.out.kept hk7 (show ¬ w1.heap.size + 1 ≤ w.heap.size by omega))
     have hR7 := Lib.hid (hR6.out.kept hk7 (show ¬ w1.heap.size + 1 ≤ p by omega) (fun ad e => by have := hA'.out ad e; omega))
     have hK7 : Hid (Kept (· = p) w w7) := hK6.out.then_ hk7 (fun k hk h => absurd h (by omega))
     have hs7 : Hid (w1.heap.size < w7.heap.size) := Nat.lt_of_lt_of_le hsz6.out hk7.size
     clear hO6 hq6 hg6 hb6 hR6 hK6 hsz6 hgc6 hgl6 hgf6 hown7 hgr7 hv7 hk7
     go_wp2_with fail
     go_roundw
     case rel =>
      refine ⟨i + 1, acc ++ [⟨x, Ax, nx, cx⟩], A2, c2, ar2, hlt, by go_num, ?_, ?_, ?_, ?_, ?_, ?_, ?_⟩
      ·exact hO7.out.kept (keptSet w7 w1.heap.size 0 _) (fun k hk _ e => by have e : k = w1.heap.size := e; omega)
      ·exact hg7.set_ 0 (.slice A2 (i + 1) c2)
      ·exact hb7.out.far (p := ⟨w1.heap.size, 0, none⟩) (by simp; omega) _
      ·exact hR7.out.other (q := ⟨w1.heap.size, 0, none⟩) (by simp; omega) (fun ad e => by have := hA'.out ad e; simp; omega) _
      ·exact hK7.out.setCell (p := ⟨w1.heap.size, 0, none⟩) (fun h => by simp at h; omega) _
      ·unfold Hid; simpa using hs7.out
      ·unfold Hid; rw [hfin.out, List.map_append]; rfl
     case measure => simp [intOf]; omega
  ·obtain rfl : i = m := by omega
   have t3 : decide ((i : Int) < (i : Int)) = false := decide_eq_false (by omega)
   have hfin : Hid (rDeal bs a = .ok (acc.map (·.a), ar)) := by unfold Hid; rw [hH.out, Nat.sub_self]; rfl
   have hbl := hb.out.lt
   have hbf := hb.out.frozen 0; have hbc := hb.out.cell 0
   have t1s : (Tryz.prog.info? 67).map (·.size) = some 1 := by kernel_rfl
   clear hH
   go_wp2_with fail
   refine bodyPost_ret (v := .agg #[.slice A' i c']) ?_ rfl ?_
   ·refine results_cell_row Tryz.results58 _ _ w.heap.size 67 #[.slice A' i c'] (0, 0) _ ?_ ?_ Tryz.underlying67 ?_ ?_
    ·rfl
    ·exact hb.out.set_ 0 (.slice A' i c')
    ·rfl
    ·exact t1s
   ·rw [hfin.out]
    have hset := keptSet wr w.heap.size 0 (.slice A' i c')
    have hO9 := hO.out.kept hset (fun k hk _ e => by have e : k = w.heap.size := e; omega)
    exact ⟨_, rfl, ⟨A', i, c', rfl, by omega, hO9.only.mono fun k hk => ⟨by omega, hk.2⟩⟩, hR.out.other (q := ⟨w.heap.size, 0, none⟩) (by simp; omega) (fun ad e => by have := hA'.out ad e; simp; omega) _, hKr.out.setCell (p := ⟨w.heap.size, 0, none⟩) (fun h => by simp at h) _⟩
theorem wActs_take (l : List MAct) (i : Nat) (h : i < l.length) : (l.take (i + 1)).flatMap wAct = (l.take i).flatMap wAct ++ wAct (actAt l i) := by
 have : l.take (i + 1) = l.take i ++ [actAt l i] := by
  rw [List.take_add_one, List.getElem?_eq_getElem h]; simp [actAt, List.getD, h]
 rw [this]; simp
theorem wActs_len : ∀ (l : List MAct), (∀ a ∈ l, checkAct a = 0 ∧ a.WF) → (l.flatMap wAct).length ≤ 1400 * l.length
 | [], _ => by simp
 | a :: l, h => by
  have h1 := h a (List.mem_cons_self ..)
  have h2 := wAct_len h1.1 h1.2
  have h3 := wActs_len l fun x hx => h x (List.mem_cons_of_mem _ hx)
  simp only [List.flatMap_cons, List.length_append, List.length_cons]
  omega
theorem wDeal_len {l : List MAct} (h : (checkDeal l).1 = 0) (hf : ∀ a ∈ l, a.WF) : (wDeal l).length ≤ 16820 := by
 obtain ⟨h1, h2, h3, _⟩ := deal_ok h
 have h4 := wActs_len l fun a ha => ⟨h3 a ha, hf a ha⟩
 have h5 := wU_len10 l.length (by omega)
 rw [wDeal, List.length_append]
 omega
set_option maxHeartbeats 4000000 in
theorem dwrite_any (p base : Nat) (bs : List UInt8) (l : List MAct) (hck : ∀ a ∈ l, checkAct a = 0) (A : Option Addr) (n c : Nat) (hn : n ≤ 12) (w0 : World) (hK : KindsAt w0) (hr : RdActs w0 A n l) (hb : w0.heap.size ≤ base) (w : World) (hcl : Cln w0 w)
  (hw : IsW w p base bs) (hl : bs.length + (wDeal l).length ≤ 1099511627776) :
  Calls Tryz.prog 85 #[.pointer (some ⟨p, 0, none⟩), .agg #[.slice A n c]] w (WPost w p base (bs ++ wDeal l)) := by
 have hlen := hr.len
 have hlo := hw.lo
 have hpl : Hid (∀ k, k < w0.heap.size → ¬ WS w base p k) := fun k hk h => by rcases h with h | ⟨h, _⟩ <;> omega
 have hbx := (IsW.cln (w' := w.alloc (.cells #[.slice A n c] 67)) hw (by (repeat with_reducible first | exact cR _ | assumption | refine cA ?_ _ | refine cD ?_ | refine cN ?_ _ | refine cS ?_ (by first | omega | (simp <;> omega)) _)))
 have hcl00 := Lib.hid hcl
 have hbnd := Lib.hid (show (bs.length + ((wU l.length).length + (l.flatMap wAct).length)) ≤ 1099511627776 from by rw [wDeal, List.length_append] at hl; exact hl)
 clear hl
 have hln := hbnd.out
 have hd0 := (Blk.new w 67 #[.slice A n c])
 have hu := (wu_any p base bs l.length (w.alloc (.cells #[.slice A n c] 67)) hbx (by omega) (by omega))
 rw [hlen] at hu
 have hwr : IntKind.u64.wrap (n : Int) = (n : Int) := IntWalk.u64_in _ (by omega)
 go_enter Tryz.func85, Tryz.ntmps85
 go_wp2_with fail
 refine hu.mono ?_
 rintro e w1 ⟨rfl, hW1, hK1⟩
 have hdne : w.heap.size ≠ p := fun e => by have := hW1; have h2 := hw.ex; obtain ⟨_, _, _, _, h3, _⟩ := h2; have := h3.lt; omega
 have hd1 := hd0.kept hK1 (WS.not hd0 hdne (by decide))
 have hdc := hd1.cell 0
 have hdl := hd1.lt
 have hKa : Hid (Kept (WS w base p) w w1) := WS.trans ((Kept.refl _ w).alloc _) hK1
 have hWa : Hid (IsW w1 p base (bs ++ wU l.length)) := by unfold Hid; rw [hlen]; exact hW1
 have hC1 : Hid (Cln w0 w1) := Below.trans hcl (hKa.out.toBelow hcl.size hpl.out)
 clear hu hbx hK1 hW1 hd0 hd1 hln hcl hw
 go_wp2_with fail
 clear hdc hdl
 go_loopw [15] (fun v wr => ∃ i : Nat, i ≤ n ∧ v = .int .i64 (i : Nat) ∧ Hid (Cln w0 wr) ∧ Hid (Kept (WS w base p) w wr) ∧ Hid (IsW wr p base (bs ++ wU l.length ++ (l.take i).flatMap wAct))) (fun v _ => (n - intOf v).toNat)
 case atStart => exact ⟨0, Nat.zero_le _, rfl, hC1, hKa, by unfold Hid; simpa using hWa.out⟩
 case round =>
  clear hC1 hKa hWa
  obtain ⟨i, hi, rfl, hcl, hKK, hW⟩ := hrel
  by_cases hlt : i < n
  ·have t3 : decide ((i : Int) < (n : Int)) = true := decide_eq_true (by omega)
   obtain ⟨b, o, rfl, hblt, hcell⟩ := hr.rows (by omega)
   obtain ⟨Ai, ni, ci, hc0⟩ := hcell i hlt
   clear hcell
   have hc := hc0.cln hcl.out
   have hwf := Lib.hid hc0.wf
   have hItlo : Hid (0 < ni → ∀ ad, Ai = some ad → ad.block < base) := fun h0 ad e => by have := hc0.it.lo h0 ad e; omega
   have hblt2 : b < wr.heap.size := by have := hcl.out.size; omega
   have hca := Lib.hid (hck _ (actAt_mem l i (by omega)))
   have hni : ni ≤ 1048576 := by have h1 := act_list hca.out; have h2 := hc0.it.len; omega
   have htk := Lib.hid (wActs_take l i (by omega))
   have hb2 : Hid ((bs ++ wU l.length ++ (l.take i).flatMap wAct).length + (wAct (actAt l i)).length ≤ 1099511627776) := by
    have h1 : ((l.take (i + 1)).flatMap wAct).length ≤ (l.flatMap wAct).length := by
     conv => rhs; rw [← List.take_append_drop (i + 1) l]
     rw [List.flatMap_append, List.length_append]; omega
    rw [htk.out, List.length_append] at h1
    have := hbnd.out
    unfold Hid
    simp only [List.length_append]
    omega
   clear hc0
   generalize hrr : actAt l i = r at hc hwf hca htk hb2
   have f0 := hc.c0; have f1 := hc.c1; have f2 := hc.c2; have f3 := hc.c3; have f4 := hc.c4; have f5 := hc.c5; have f6 := hc.c6; have f7 := hc.c7; have f8 := hc.c8; have f9 := hc.c9; have f10 := hc.c10; have f11 := hc.c11; have f12 := hc.c12; have f13 := hc.c13
   have hit := Lib.hid hc.it
   clear hc hrr
   go_wp2_with fail
   refine (awrite_any p base _ r hca.out hwf.out Ai ni ci hni _ (hK.cln (cln_trans hcl.out (by (repeat with_reducible first | exact cR _ | assumption | refine cA ?_ _ | refine cD ?_ | refine cN ?_ _ | refine cS ?_ (by first | omega | (simp <;> omega)) _)))) (hW.out.cln (by (repeat with_reducible first | exact cR _ | assumption | refine cA ?_ _ | refine cD ?_ | refine cN ?_ _ | refine cS ?_ (by first | omega | (simp <;> omega)) _))) (hit.out.cln (by (repeat with_reducible first | exact cR _ | assumption | refine cA ?_ _ | refine cD ?_ | refine cN ?_ _ | refine cS ?_ (by first | omega | (simp <;> omega)) _))) hItlo.out hb2.out).mono ?_
   rintro e w5 ⟨rfl, hW5, hK5⟩
   clear f0 f1 f2 f3 f4 f5 f6 f7 f8 f9 f10 f11 f12 f13
   have hK6 : Hid (Kept (WS w base p) w w5) := WS.trans (hKK.out.alloc _) hK5
   have hC5 : Hid (Cln w0 w5) := by
    exact Below.trans hcl00.out (hK6.out.toBelow hcl00.out.size hpl.out)
   rw [List.append_assoc, ← htk.out] at hW5
   have hW5 := Lib.hid hW5
   clear hK5 hcl hKK hW hit
   go_wp2_with fail
   go_roundw
   case rel => exact ⟨i + 1, hlt, by go_num, hC5, hK6, hW5⟩
   case measure => simp [intOf]; omega
  ·obtain rfl : i = n := by omega
   have t3 : decide ((i : Int) < (i : Int)) = false := decide_eq_false (by omega)
   rw [List.take_of_length_le (by omega), List.append_assoc] at hW
   go_wp2_with fail
   refine bodyPost_ret (results_none rfl _ _ _) rfl ?_
   refine ⟨rfl, ?_, hKK.out⟩
   rw [wDeal]; exact hW.out
end Go.Proofs.YtbemnfbndjolpaaGreatDoor
