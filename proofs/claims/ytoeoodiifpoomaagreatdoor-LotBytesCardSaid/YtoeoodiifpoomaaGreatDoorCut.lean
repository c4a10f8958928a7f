/- Layer 11, plainly: how many deals are in a lot; rows of deals in part. -/
import Derived.Test.YtoeoodiifpoomaaGreatDoorOwns
import Derived.Test.YtoeoodiifpoomaaGreatDoorWLot1
import Derived.Deep.RegionLawGrows
set_option linter.unusedSimpArgs false
set_option linter.unusedVariables false
set_option maxRecDepth 20000
namespace Moi
def manyGo (num : Int) (l : List (List MAct)) : Nat → Nat → Nat
  | 0, i => i
  | f + 1, i => if (checkLot ⟨num, l.take (i + 1)⟩).1 = 0 then manyGo num l f (i + 1) else i
/-- How many of the first deals may be in one lot. -/
def many (num : Int) (l : List (List MAct)) : Nat := manyGo num l l.length 0
theorem manyGo_le (num : Int) (l : List (List MAct)) : ∀ f i, i ≤ manyGo num l f i ∧ manyGo num l f i ≤ i + f
  | 0, i => ⟨Nat.le_refl _, Nat.le_refl _⟩
  | f + 1, i => by
    unfold manyGo
    split
    · have := manyGo_le num l f (i + 1); omega
    · omega
theorem many_le (num : Int) (l : List (List MAct)) : many num l ≤ l.length := by
  have := (manyGo_le num l l.length 0).2; unfold many; omega
theorem manyGo_step {num : Int} {l : List (List MAct)} {n i : Nat} (h : i < n) : manyGo num l (n - i) i = if (checkLot ⟨num, l.take (i + 1)⟩).1 = 0 then manyGo num l (n - (i + 1)) (i + 1) else i := by
  rw [show n - i = (n - (i + 1)) + 1 from by omega, manyGo]
end Moi
namespace Go.Proofs.YtoeoodiifpoomaaGreatDoor
open Go.RowKit Moi
theorem dealAt_take (l : List (List MAct)) (k i : Nat) (h : i < k) : dealAt (l.take k) i = dealAt l i := by simp [dealAt, List.getD, List.getElem?_take, h]
theorem RdDeals.take {W : World} {A : Option Addr} {n : Nat} {l : List (List MAct)} (h : RdDeals W A n l) (k : Nat) (hk : k ≤ n) : RdDeals W A k (l.take k) := by
  refine ⟨by rw [List.length_take, h.len]; omega, fun h0 => ?_⟩
  obtain ⟨b, o, hA, hb, hr⟩ := h.rows (by omega)
  refine ⟨b, o, hA, hb, fun i hi => ?_⟩
  rw [dealAt_take l k i hi]
  exact hr i (by omega)
theorem Mod.take {l : List (List MAct)} (h : Mod l) (k : Nat) : Mod (l.take k) := ⟨fun d hd => h.deals d (List.mem_of_mem_take hd), fun d hd => h.items d (List.mem_of_mem_take hd)⟩
theorem take_snoc (l : List (List MAct)) (i : Nat) (h : i < l.length) : l.take (i + 1) = l.take i ++ [dealAt l i] := by
  rw [List.take_add_one, List.getElem?_eq_getElem h]; simp [dealAt, List.getD, h]
theorem own_none {W : World} {base e sz n c : Nat} {xs : List Value} (h : W.ownsRow base e sz (.slice none n c) n xs) : n = 0 ∧ c = 0 := by
  rcases h.2 with ⟨hv, h0⟩ | ⟨g, cap, cur, hv, _⟩
  · injection hv with _ h2 h3; exact ⟨h0, h3⟩
  · injection hv with h1; cases h1
/-- 'append(Clip(x), e)' of one element, on a row of the call's own: the row is new. -/
theorem step_pushNew {P : Program} {w : World} {ops : Array Oper} {o : Oper} {a : Act} {K : Act → World → Prop} {Q : Exit → Act → World → Prop} {E : Prop} (hgd : o.guard = none) (s x : Operand) (t : TypeId)
    (ho : o.op = .call { callee := .builtin .append, args := #[s, x], argTypes := #[t, t] })
    (base : Nat) (e : TypeId) (i : TypeInfo) (z : Value) (size bytes : Nat) (ht : P.underlying t = some (.slice e)) (hi : P.info? e = some i) (hz : i.zero = some z)
    (hsize : i.size = size) (hby : i.bytes = bytes) (hzs : z.cells.size = size) (hsz : 0 < size) (hbpos : 0 < bytes)
    (A : Option Addr) (c n g : Nat) (xs : List Value) (l : List Value) (hl : l.length = size) (h1 : ∀ u ∈ l, u.oneCell' = true)
    (hs : a.eval s = .slice A n n) (hx : a.eval x = .slice (some ⟨g, 0, none⟩) 1 1) (hlit : Blk w g e l.toArray)
    (hown : w.ownsRow base e size (.slice A n c) n xs) (hbytes : (n + 1) * bytes ≤ 140737488355328)
    (h : ∀ v' w', w'.ownsRow w.heap.size e size v' (n + 1) (xs ++ l) → w.grownBy w' none → K (a.put o.dst v') w') :
    if Region.wanted o (yielded ops a.tmps) = true then Oper.wp P o a w K Q else E := by
  have h63 : n + 1 ≤ maxLen := by
    have : n + 1 ≤ (n + 1) * bytes := Nat.le_mul_of_pos_right _ hbpos
    simp only [maxLen]; omega
  obtain ⟨hsrc, hnone⟩ := own_src hown
  refine step_append_grows hgd s x t ho e i z size bytes ht hi hz hsize hby hzs hsz A n n xs hs (fun e => ⟨hnone e, hnone e⟩) hown.1 hsrc ⟨g, 0, none⟩ 1 1 l hx (by omega) ?_ h1 (by omega) h63 hbytes h
  intro j u hj
  have e2 : (⟨g, 0, none⟩ : Addr).add j = ⟨g, j, none⟩ := by unfold Addr.add; split <;> simp_all
  rw [e2, hlit.cell j]
  simpa using hj
theorem dealAt_dropped (l : List (List MAct)) (m j : Nat) : dealAt (l.drop m) j = dealAt l (m + j) := by simp [dealAt, List.getD, List.getElem?_drop]
end Go.Proofs.YtoeoodiifpoomaaGreatDoor
