/- The walks of package rec: items, checks. -/
import Derived.Test.YtocllhghbmbjpaaDoorWFlo
import Derived.Test.YtocllhghbmbjpaaDoorMem
import Derived.Laws.Strings
import Derived.Test.YtocllhghbmbjpaaDoorPlain
set_option linter.unusedSimpArgs false
set_option linter.unusedVariables false
set_option maxRecDepth 20000
namespace Go.Proofs.YtocllhghbmbjpaaDoor
open Go.RowKit Moi

theorem toList_str (l : List UInt8) : (str l).toList = l := by rw [ByteArray.toList_eq]; rfl
theorem less_ltB : ∀ a b : List UInt8, Op.bytesLess a b = ltB a b
  | a, [] => by cases a <;> rfl
  | [], _ :: _ => rfl
  | x :: a, y :: b => by rw [Op.bytesLess, ltB, less_ltB a b]
theorem store_float (P : Program) (w : World) (a : Addr) (m : Mode) (k : FloatKind) (b : Nat) : (store a (.float k b) m).run P w = stored P w a (.float k b) m := run_store P w a _ m rfl
attribute [local go_sem] toList_str str_size less_ltB store_float

def itemVal (x : MItem) : Value := .agg #[.float .f64 x.score, .string (str x.name)]
theorem better_any (a b : MItem) (ha : a.score < 18446744073709551616) (hb : b.score < 18446744073709551616) (w : World) :
    Calls Tryd.prog 90 #[itemVal a, itemVal b] w fun e w' => e = .returned (.bool (better a b)) ∧ Cln w w' := by
  unfold itemVal
  cases h : fsame a.score b.score with
  | true =>
    go_enter Tryd.func90, Tryd.ntmps90
    go_wp2_with fail
    refine (fsame_any _ _ ha hb _).mono ?_; rintro e w' ⟨rfl, rfl⟩
    go_wp2_with fail
    go_ret
    exact ⟨ret_bool (by unfold better; rw [h]; rfl), ((Below.refl _ w).alloc (Nat.le_refl _) _).alloc (by simp) _⟩
  | false =>
    go_enter Tryd.func90, Tryd.ntmps90
    go_wp2_with fail
    refine (fsame_any _ _ ha hb _).mono ?_; rintro e w' ⟨rfl, rfl⟩
    go_wp2_with fail
    refine (fless_any _ _ hb ha _).mono ?_; rintro e w' ⟨rfl, rfl⟩
    go_wp2_with fail
    go_ret
    exact ⟨ret_bool (by unfold better; rw [h]; rfl), ((Below.refl _ w).alloc (Nat.le_refl _) _).alloc (by simp) _⟩

/-- Items that are read through a slice. -/
def itemVals (l : List MItem) : List Value := l.flatMap fun x => [.float .f64 x.score, .string (str x.name)]
def itAt (l : List MItem) (i : Nat) : MItem := l.getD i ⟨0, []⟩
structure RdItems (w : World) (A : Option Addr) (n : Nat) (l : List MItem) : Prop where
  len : l.length = n
  wf : ∀ i, (itAt l i).score < 18446744073709551616
  cells : 0 < n → ∃ b o, A = some ⟨b, o, none⟩ ∧ b < w.heap.size ∧ ∀ i, i < n → w.cell? ⟨b, o + i * 2, none⟩ = some (.float .f64 (itAt l i).score) ∧ w.cell? ⟨b, o + i * 2 + 1, none⟩ = some (.string (str (itAt l i).name))
section
variable {S : Nat → Prop} {w w' : World} {A : Option Addr} {n : Nat} {l : List MItem}
theorem RdItems.kept (h : RdItems w A n l) (k : Kept S w w') (hn : ∀ ad, A = some ad → ad.block < w.heap.size → ¬ S ad.block) : RdItems w' A n l := by
  refine ⟨h.len, h.wf, fun h0 => ?_⟩
  obtain ⟨b, o, rfl, hb, hc⟩ := h.cells h0
  have hn' := hn ⟨b, o, none⟩ rfl hb
  exact ⟨b, o, rfl, Nat.lt_of_lt_of_le hb k.size, fun i hi => ⟨k.cell (hc i hi).1 hn', k.cell (hc i hi).2 hn'⟩⟩
theorem RdItems.drewN (h : RdItems w A n l) (k : Nat) : RdItems (w.drewN k) A n l := ⟨h.len, h.wf, h.cells⟩
theorem RdItems.cln (h : RdItems w A n l) (k : Cln w w') : RdItems w' A n l :=
  h.kept (Kept.of_below (S := fun _ => False) k) fun _ _ _ h => h
end

/-- A record's value, whose list lies at a slice. -/
def recVal (r : MRec) (A : Option Addr) (n c : Nat) : Value :=
  .agg #[.int .i64 r.kind, .int .i64 r.num, .int .i64 r.low, .int .i64 r.high, .float .f64 r.real, .int .i64 r.cap, .string (str r.text), .slice A n c]
def shapeVal (s : Shape) : Value := .agg #[.bool s.text, .bool s.num, .bool s.bounds, .bool s.real, .bool s.list]

theorem shaped_any (k : Int) (w : World) :
    Calls Tryd.prog 66 #[.int .i64 k] w fun e w' => e = .returned (shapeVal (shapeOf k)) ∧ Cln w w' := by
  go_enter Tryd.func66, Tryd.ntmps66
  go_wp2_with fail
  all_goals
    simp only [beq_iff_eq, beq_eq_false_iff_ne, ne_eq] at *
    refine bodyPost_ret (v := shapeVal (shapeOf k)) ?_ rfl ⟨rfl, ?_⟩
    · simp [results, Tryd.results66, go_sem, shapeVal, shapeOf, *]
    · repeat (first | exact Below.refl _ _ | refine Below.setCell ?_ (by simp) _ | refine Below.alloc ?_ (by simp) _)
end Go.Proofs.YtocllhghbmbjpaaDoor
