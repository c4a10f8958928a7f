/- The walk of rec.Take: what stands while a record is taken. (Printed by wip/tools/gen_take.py.) -/
import Derived.Test.YtocllhghbmbjpaaDoorWRec4
import Derived.Test.YtocllhghbmbjpaaDoorWRec5
import Derived.Test.YtocllhghbmbjpaaDoorWRd2
import Derived.Test.YtocllhghbmbjpaaDoorRecRd
set_option linter.unusedSimpArgs false
set_option linter.unusedVariables false
set_option maxRecDepth 20000
namespace Go.Proofs.YtocllhghbmbjpaaDoor
open Go.RowKit Moi
attribute [local go_sem] toList_str str_size less_ltB store_float

/-- A record that was made: its list is new. -/
def encRec (base : Nat) (r : MRec) (v : Value) (w : World) : Prop :=
  ∃ A n c, v = recVal r A n c ∧ RdItems w A n r.list ∧ (∀ ad, A = some ad → base ≤ ad.block) ∧ r.WF ∧ n ≤ 32
/-- What stands while a record is taken. -/
structure TakeSt (w0 : World) (p : Nat) (A : Option Addr) (n c : Nat) (bs : List UInt8) (g0 g1 g2 : Nat) (cs1 cs2 : Array Value) (wk : World) (a : Nat) : Prop where
  R : IsR wk p A n c bs a
  K : Kept (· = p) w0 wk
  b0 : Blk wk g0 31 #[.int .i64 0, .int .i64 0, .int .i64 0, .int .i64 0, .float .f64 0, .int .i64 0, .string ⟨#[]⟩, .slice none 0 0]
  b1 : Blk wk g1 31 cs1
  b2 : Blk wk g2 98 cs2
  ne0 : g0 ≠ p
  ne1 : g1 ≠ p
  ne2 : g2 ≠ p
  ne01 : g0 ≠ g1
  ge0 : w0.heap.size ≤ g0
  ge1 : w0.heap.size ≤ g1
  neA0 : ∀ ad, A = some ad → ad.block ≠ g0
  neA : ∀ ad, A = some ad → ad.block ≠ g1
section
variable {w0 : World} {p : Nat} {A : Option Addr} {n c : Nat} {bs : List UInt8} {g0 g1 g2 : Nat} {cs1 cs2 : Array Value} {wk w' : World} {a a' : Nat}
theorem TakeSt.step (h : TakeSt w0 p A n c bs g0 g1 g2 cs1 cs2 wk a) (hr : IsR w' p A n c bs a') (hk : Kept (· = p) wk w') : TakeSt w0 p A n c bs g0 g1 g2 cs1 cs2 w' a' :=
  ⟨hr, h.K.trans hk, h.b0.kept hk h.ne0, h.b1.kept hk h.ne1, h.b2.kept hk h.ne2, h.ne0, h.ne1, h.ne2, h.ne01, h.ge0, h.ge1, h.neA0, h.neA⟩
theorem TakeSt.cln (h : TakeSt w0 p A n c bs g0 g1 g2 cs1 cs2 wk a) (hk : Cln wk w') : TakeSt w0 p A n c bs g0 g1 g2 cs1 cs2 w' a :=
  h.step (h.R.cln hk) (Kept.of_below hk)
theorem TakeSt.store {cs1' : Array Value} (h : TakeSt w0 p A n c bs g0 g1 g2 cs1 cs2 wk a) (i : Nat) (v : Value) (hc : cs1.setIfInBounds i v = cs1') : TakeSt w0 p A n c bs g0 g1 g2 cs1' cs2 (wk.setCell ⟨g1, i, none⟩ v) a := by
  subst hc
  have hne2 : g2 ≠ g1 := h.b2.ne_ h.b1 (by decide)
  exact ⟨h.R.other (q := ⟨g1, i, none⟩) (fun e => h.ne1 e.symm) (fun ad e => h.neA ad e) v, h.K.setCell (fun hlt => absurd h.ge1 (by simp at hlt; omega)) v,
    h.b0.far h.ne01 v, h.b1.set_ i v, h.b2.far hne2 v, h.ne0, h.ne1, h.ne2, h.ne01, h.ge0, h.ge1, h.neA0, h.neA⟩
/-- A store into a block that is neither the Reader's nor the record's. -/
theorem TakeSt.other (h : TakeSt w0 p A n c bs g0 g1 g2 cs1 cs2 wk a) (q : Addr) (hq : w0.heap.size ≤ q.block) (hp : p ≠ q.block) (hA : ∀ ad, A = some ad → ad.block ≠ q.block) (h0 : g0 ≠ q.block) (h1 : g1 ≠ q.block) (h2 : g2 ≠ q.block) (v : Value) :
    TakeSt w0 p A n c bs g0 g1 g2 cs1 cs2 (wk.setCell q v) a :=
  ⟨h.R.other hp hA v, h.K.setCell (fun hlt => absurd hq (by omega)) v, h.b0.far h0 v, h.b1.far h1 v, h.b2.far h2 v, h.ne0, h.ne1, h.ne2, h.ne01, h.ge0, h.ge1, h.neA0, h.neA⟩
def fill8 (wk : World) (g0 : Nat) (v0 v1 v2 v3 v4 v5 v6 v7 : Value) : World := ((((((((wk.setCell ⟨g0, 0, none⟩ v0).setCell ⟨g0, 1, none⟩ v1).setCell ⟨g0, 2, none⟩ v2).setCell ⟨g0, 3, none⟩ v3).setCell ⟨g0, 4, none⟩ v4).setCell ⟨g0, 5, none⟩ v5).setCell ⟨g0, 6, none⟩ v6).setCell ⟨g0, 7, none⟩ v7)
theorem fill8_kept (wk : World) (g0 : Nat) (v0 v1 v2 v3 v4 v5 v6 v7 : Value) : Kept (· = g0) wk (fill8 wk g0 v0 v1 v2 v3 v4 v5 v6 v7) := by
  unfold fill8
  iterate 8 refine Kept.setCell (S := (· = g0)) ?_ (fun _ => rfl) _
  exact Kept.refl _ _
theorem TakeSt.fin (h : TakeSt w0 p A n c bs g0 g1 g2 cs1 cs2 wk a) (r : MRec) (hwf : r.WF) (AL : Option Addr) (nL cL : Nat) (hL : RdItems wk AL nL r.list) (hn : nL ≤ 32) (hge : ∀ ad, AL = some ad → w0.heap.size ≤ ad.block ∧ ad.block ≠ g0) :
    RPost (encRec w0.heap.size) w0 p A n c bs (.ok (r, a)) (.returned (recVal r AL nL cL)) (fill8 wk g0 (.int .i64 r.kind) (.int .i64 r.num) (.int .i64 r.low) (.int .i64 r.high) (.float .f64 r.real) (.int .i64 r.cap) (.string (str r.text)) (.slice AL nL cL)) := by
  refine ⟨_, rfl, ⟨AL, nL, cL, rfl, hL.kept (fill8_kept ..) (fun ad e _ => (hge ad e).2), fun ad e => (hge ad e).1, hwf, hn⟩, ?_, ?_⟩
  · exact h.R.kept (fill8_kept ..) (fun e => h.ne0 e.symm) (fun ad e => h.neA0 ad e)
  · unfold fill8
    iterate 8 refine Kept.setCell ?_ (fun hlt => absurd h.ge0 (by simp at hlt; omega)) _
    exact h.K
theorem TakeSt.fin8 (h : TakeSt w0 p A n c bs g0 g1 g2 cs1 cs2 wk a) (v0 v1 v2 v3 v4 v5 v6 v7 : Value) : Blk (fill8 wk g0 v0 v1 v2 v3 v4 v5 v6 v7) g0 31 #[v0, v1, v2, v3, v4, v5, v6, v7] := h.b0.store8
end
theorem itemErr_le (k : Int) (p : Option MItem) (x : MItem) : itemErr k p x ≤ 8 := by
  unfold itemErr; repeat' split
  all_goals omega
theorem itemsErr_le (k : Int) : ∀ (l : List MItem) (p : Option MItem), itemsErr k p l ≤ 8
  | [], _ => Nat.zero_le _
  | x :: l, p => by
    unfold itemsErr; split
    · exact itemsErr_le k l _
    · exact itemErr_le ..
theorem checkRec_le (r : MRec) : checkRec r ≤ 8 := by
  unfold checkRec; repeat' split
  all_goals first | omega | exact itemsErr_le ..
theorem z64 : -9223372036854775808 ≤ (0 : Int) ∧ (0 : Int) < 9223372036854775808 := by decide
theorem zF : 0 < 18446744073709551616 := by decide
theorem RdItems.none_ (w : World) : RdItems w none 0 [] := ⟨rfl, fun i => (by simp [itAt]), fun h => absurd h (by omega)⟩
end Go.Proofs.YtocllhghbmbjpaaDoor
