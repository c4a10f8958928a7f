/- The walks of the document's First, kind by kind. -/
import Derived.Test.YtocllhghbmbjpaaWFirst
set_option linter.unusedSimpArgs false
set_option linter.unusedVariables false
set_option maxRecDepth 20000
namespace Go.Proofs.Ytocllhghbmbjpaa
open Go.RowKit Moi
attribute [local go_sem] toList_str str_size less_ltB store_float
theorem results_ctt {P : Program} {fn : Func} {p u v : Tmp} {ty : TypeId} (h : fn.results = #[.cell p ty, .tmp u, .tmp v]) (tmps : Array Value) (w : World) (g : Nat) (t : TypeId) (cs : Array Value) (fr : Nat × Nat) (d : TypeDesc)
    (hp : tmps.getD p undef = .pointer (some ⟨g, 0, none⟩)) (hg : w.heap[g]? = some (.cells cs t fr))
    (hu : P.underlying ty = some d) (hd : (match d with | .struct _ | .array _ _ => true | _ => false) = true) (hi : (P.info? ty).map (·.size) = some cs.size) :
    (results fn tmps).run P w = .ok (.tuple #[.agg cs, tmps.getD u undef, tmps.getD v undef]) w := by
  have h1 : tmps[p]?.getD undef = .pointer (some ⟨g, 0, none⟩) := by simpa using hp
  simp [results, h, h1, asAddr, run_loadVar_row w g t ty cs fr d hg hu hd hi]
/-- What comes of First. -/
def FirstPost (w : World) (res : RRes MPart) (e : Ending) (w' : World) : Prop :=
  Cln w w' ∧ match res with
  | .ok (p, a) => e = .returned (.tuple #[.agg (partCells p), .int .i64 (a : Nat), .int .i64 0])
  | .error (c, a) => ∃ (x0 x1 x2 x3 : Int) (x4 : ByteArray) (x5 : Bool), e = .returned (.tuple #[.agg #[.int .u8 x0, .int .u64 x1, .int .i64 x2, .int .u64 x3, .string x4, .bool x5], .int .i64 (a : Nat), .int .i64 (c : Nat)])
theorem partCells_typed (p : MPart) : ∃ (x0 x1 x2 x3 : Int) (x4 : ByteArray) (x5 : Bool), partCells p = #[.int .u8 x0, .int .u64 x1, .int .i64 x2, .int .u64 x3, .string x4, .bool x5] := by
  cases p <;> exact ⟨_, _, _, _, _, _, rfl⟩
def mapR {α β : Type} (f : α → β) : RRes α → RRes β
  | .ok (x, a) => .ok (f x, a)
  | .error e => .error e
theorem Blk.store1 {w : World} {g : Nat} {t : TypeId} {cs : Array Value} (h : Blk w g t cs) (i : Nat) (v : Value) {cs' : Array Value} (e : cs.setIfInBounds i v = cs') : Blk (w.setCell ⟨g, i, none⟩ v) g t cs' := e ▸ h.set_ i v
set_option maxHeartbeats 8000000 in
theorem first_u (A : Option Addr) (n c : Nat) (bs : List UInt8) (hn : n ≤ 140737488355328) (m : Int) (w : World) (hr : RdBytes w A n bs) :
    Calls Try.prog 83 #[.slice A n c, .int .u8 117, .int .i64 m] w (FirstPost w (mapR .u (rU bs 0))) := by
  go_enter Try.func83, Try.ntmps83
  go_wp2_with fail
  refine (num_any A n c bs hn _ (hr.cln (by (repeat (first | (with_reducible exact Below.refl _ _) | (with_reducible assumption) | (with_reducible refine Below.setCell ?_ (by first | omega | (simp; done) | (simp; omega)) _) | (with_reducible refine Below.alloc ?_ (by first | omega | (simp; done) | (simp; omega)) _) | (with_reducible refine Below.drew ?_) | (with_reducible refine below_drewN ?_ _)))))).mono ?_
  rintro e w1 ⟨rfl, k, rfl⟩
  cases hU : rU bs 0 with
  | error er =>
    obtain ⟨cd, a⟩ := er
    have hnz := rU_nz hU
    have t1 : (((cd : Nat) : Int) != 0) = true := by rw [bne_iff_ne]; simp at hnz; omega
    simp only [numR]
    go_wp2_with fail
    refine bodyPost_ret (results_ctt Try.results83 _ _ w.heap.size 96 #[.int .u8 117, .int .u64 0, .int .i64 0, .int .u64 0, .string ⟨#[]⟩, .bool false] (0, 0) _ rfl ?_ Try.underlying96 rfl size_part) rfl ⟨?_, _, _, _, _, _, _, rfl⟩
    · exact Blk.store6 (((Blk.new w _ _).alloc _).drewN k)
    · (repeat (first | (with_reducible exact Below.refl _ _) | (with_reducible assumption) | (with_reducible refine Below.setCell ?_ (by first | omega | (simp; done) | (simp; omega)) _) | (with_reducible refine Below.alloc ?_ (by first | omega | (simp; done) | (simp; omega)) _) | (with_reducible refine Below.drew ?_) | (with_reducible refine below_drewN ?_ _)))
  | ok x =>
    obtain ⟨nn, a⟩ := x
    simp only [numR]
    go_wp2_with fail
    refine bodyPost_ret (results_ctt Try.results83 _ _ w.heap.size 96 #[.int .u8 117, .int .u64 (nn : Nat), .int .i64 0, .int .u64 0, .string ⟨#[]⟩, .bool false] (0, 0) _ rfl ?_ Try.underlying96 rfl size_part) rfl ⟨?_, by rw [hU]; rfl⟩
    · exact Blk.store6 ((((Blk.new w _ _).alloc _).drewN k).far (show w.heap.size ≠ w.heap.size + 1 from by omega) _)
    · (repeat (first | (with_reducible exact Below.refl _ _) | (with_reducible assumption) | (with_reducible refine Below.setCell ?_ (by first | omega | (simp; done) | (simp; omega)) _) | (with_reducible refine Below.alloc ?_ (by first | omega | (simp; done) | (simp; omega)) _) | (with_reducible refine Below.drew ?_) | (with_reducible refine below_drewN ?_ _)))
set_option maxHeartbeats 8000000 in
theorem first_i (A : Option Addr) (n c : Nat) (bs : List UInt8) (hn : n ≤ 140737488355328) (m : Int) (w : World) (hr : RdBytes w A n bs) :
    Calls Try.prog 83 #[.slice A n c, .int .u8 105, .int .i64 m] w (FirstPost w (mapR .i (rI bs 0))) := by
  go_enter Try.func83, Try.ntmps83
  go_wp2_with fail
  refine (num_any A n c bs hn _ (hr.cln (by (repeat (first | (with_reducible exact Below.refl _ _) | (with_reducible assumption) | (with_reducible refine Below.setCell ?_ (by first | omega | (simp; done) | (simp; omega)) _) | (with_reducible refine Below.alloc ?_ (by first | omega | (simp; done) | (simp; omega)) _) | (with_reducible refine Below.drew ?_) | (with_reducible refine below_drewN ?_ _)))))).mono ?_
  rintro e w1 ⟨rfl, k, rfl⟩
  cases hU : rU bs 0 with
  | error er =>
    obtain ⟨cd, a⟩ := er
    have hnz := rU_nz hU
    have t1 : (((cd : Nat) : Int) != 0) = true := by rw [bne_iff_ne]; simp at hnz; omega
    simp only [numR]
    have hI : Hid (rI bs 0 = .error (cd, a)) := by unfold Hid rI; rw [hU]
    go_wp2_with fail
    refine bodyPost_ret (results_ctt Try.results83 _ _ w.heap.size 96 #[.int .u8 105, .int .u64 0, .int .i64 0, .int .u64 0, .string ⟨#[]⟩, .bool false] (0, 0) _ rfl ?_ Try.underlying96 rfl size_part) rfl ⟨?_, ?_⟩
    · exact Blk.store6 (((Blk.new w _ _).alloc _).drewN k)
    · (repeat (first | (with_reducible exact Below.refl _ _) | (with_reducible assumption) | (with_reducible refine Below.setCell ?_ (by first | omega | (simp; done) | (simp; omega)) _) | (with_reducible refine Below.alloc ?_ (by first | omega | (simp; done) | (simp; omega)) _) | (with_reducible refine Below.drew ?_) | (with_reducible refine below_drewN ?_ _)))
    · rw [hI.out]; exact ⟨_, _, _, _, _, _, rfl⟩
  | ok x =>
    obtain ⟨nn, a⟩ := x
    have hI : Hid (rI bs 0 = .ok (unzig nn, a)) := by unfold Hid rI; rw [hU]
    have hlt := rU_lt hU
    simp only [numR]
    go_wp2_with fail
    refine (zag_any nn hlt _).mono ?_
    rintro e w2 ⟨rfl, rfl⟩
    go_wp2_with fail
    refine bodyPost_ret (results_ctt Try.results83 _ _ w.heap.size 96 #[.int .u8 105, .int .u64 0, .int .i64 (unzig nn), .int .u64 0, .string ⟨#[]⟩, .bool false] (0, 0) _ rfl ?_ Try.underlying96 rfl size_part) rfl ⟨?_, ?_⟩
    · exact Blk.store6 ((((Blk.new w _ _).alloc _).drewN k).far (show w.heap.size ≠ w.heap.size + 1 from by omega) _)
    · (repeat (first | (with_reducible exact Below.refl _ _) | (with_reducible assumption) | (with_reducible refine Below.setCell ?_ (by first | omega | (simp; done) | (simp; omega)) _) | (with_reducible refine Below.alloc ?_ (by first | omega | (simp; done) | (simp; omega)) _) | (with_reducible refine Below.drew ?_) | (with_reducible refine below_drewN ?_ _)))
    · rw [hI.out]; rfl
end Go.Proofs.Ytocllhghbmbjpaa
