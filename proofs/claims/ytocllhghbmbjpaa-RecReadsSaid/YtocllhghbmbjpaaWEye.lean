/- The walks of the document's Eye: parts read of bytes, one behind the other. -/
import Derived.Test.YtocllhghbmbjpaaWFirst3
import Derived.Test.YtocllhghbmbjpaaWFirst4
set_option linter.unusedSimpArgs false
set_option linter.unusedVariables false
set_option maxRecDepth 20000
namespace Go.Proofs.Ytocllhghbmbjpaa
open Go.RowKit Moi
attribute [local go_sem] toList_str str_size less_ltB store_float
/-- An Eye over bytes, at a place, with an error's number. -/
structure IsE (w : World) (p : Nat) (A : Option Addr) (n c : Nat) (bs : List UInt8) (a er : Nat) : Prop where
  blk : Blk w p 76 #[.slice A n c, .int .i64 (a : Nat), .int .i64 (er : Nat)]
  rd : RdBytes w A n bs
  le : a ≤ n
  cap : n ≤ c
  big : n ≤ 140737488355328
  ne : ∀ ad, A = some ad → ad.block ≠ p
section
variable {w w' : World} {p : Nat} {A : Option Addr} {n c : Nat} {bs : List UInt8} {a er : Nat}
theorem IsE.kept {S : Nat → Prop} (h : IsE w p A n c bs a er) (k : Kept S w w') (hp : ¬ S p) (hA : ∀ ad, A = some ad → ¬ S ad.block) : IsE w' p A n c bs a er :=
  ⟨h.blk.kept k hp, h.rd.kept k (fun ad e _ => hA ad e), h.le, h.cap, h.big, h.ne⟩
theorem IsE.cln (h : IsE w p A n c bs a er) (k : Cln w w') : IsE w' p A n c bs a er := h.kept (Kept.of_below (S := fun _ => False) k) id fun _ _ => id
theorem IsE.set2 (h : IsE w p A n c bs a er) (a' er' : Nat) (h' : a' ≤ n) {W : World} (hk : Kept (· = p) w W) (hb : Blk W p 76 #[.slice A n c, .int .i64 (a' : Nat), .int .i64 (er' : Nat)]) : IsE W p A n c bs a' er' :=
  ⟨hb, h.rd.kept hk (fun ad e _ => h.ne ad e), h', h.cap, h.big, h.ne⟩
end
/-- Bytes that are cut off ahead. -/
theorem rd_drop {W : World} {A : Option Addr} {n c : Nat} {bs : List UInt8} (h : RdBytes W A n bs) (a : Nat) (ha : a ≤ n) (hc : n ≤ c) :
    RdBytes W (if c = a then A else Option.map (fun y => y.add a) A) (n - a) (bs.drop a) := by
  by_cases hca : c = a
  · rw [if_pos hca]
    refine ⟨by rw [List.length_drop, h.len], h.spot, fun h0 => by omega⟩
  · rw [if_neg hca]
    refine ⟨by rw [List.length_drop, h.len], fun ad e => ?_, fun h0 => ?_⟩
    · cases A with
      | none => cases e
      | some x =>
        simp at e; subst e
        have := h.spot x rfl
        unfold Addr.add; split
        · exact this
        · rfl
    · obtain ⟨b, o, rfl, hb, hcell⟩ := h.cells (by omega)
      refine ⟨b, o + a, ?_, hb, fun i hi => ?_⟩
      · simp only [Option.map_some]
        congr 1
        unfold Addr.add; split
        · rename_i hz; subst hz; rfl
        · rfl
      · have := hcell (a + i) (by omega)
        rw [Nat.add_assoc, this]
        simp [byteAt, List.getD, List.getElem?_drop]
/-- What comes of the Eye's Part. -/
def PartPost (w : World) (p : Nat) (A : Option Addr) (n c : Nat) (bs : List UInt8) (res : RRes MPart) (e : Ending) (w' : World) : Prop :=
  match res with
  | .ok (pt, a) => e = .returned (.agg (partCells pt)) ∧ IsE w' p A n c bs a 0 ∧ Kept (· = p) w w'
  | .error (cd, a) => e = .returned (.agg #[.int .u8 0, .int .u64 0, .int .i64 0, .int .u64 0, .string ⟨#[]⟩, .bool false]) ∧ IsE w' p A n c bs a cd ∧ Kept (· = p) w w'
set_option maxHeartbeats 8000000 in
/-- An Eye that has failed tells nothing. -/
theorem eye_failed (p : Nat) (A : Option Addr) (n c : Nat) (bs : List UInt8) (a er : Nat) (hz : er ≠ 0) (kind m : Int) (w : World) (hE : IsE w p A n c bs a er) :
    Calls Try.prog 71 #[.pointer (some ⟨p, 0, none⟩), .int .u8 kind, .int .i64 m] w fun e w' => e = .returned (.agg #[.int .u8 0, .int .u64 0, .int .i64 0, .int .u64 0, .string ⟨#[]⟩, .bool false]) ∧ Cln w w' := by
  have t1 : (((er : Nat) : Int) != 0) = true := by rw [bne_iff_ne]; omega
  have hb := hE.blk.alloc (.cells #[.int .u8 0, .int .u64 0, .int .i64 0, .int .u64 0, .string ⟨#[]⟩, .bool false] 96)
  have c0 := hE.blk.cell 0; have c1 := hE.blk.cell 1; have c2 := hE.blk.cell 2
  have hlt := hE.blk.lt
  have hne : ¬ p = w.heap.size := by omega
  go_enter Try.func71, Try.ntmps71
  go_wp2_with fail
  refine bodyPost_ret (v := .agg #[.int .u8 0, .int .u64 0, .int .i64 0, .int .u64 0, .string ⟨#[]⟩, .bool false]) ?_ rfl ⟨rfl, ?_⟩
  · refine results_cell_row Try.results71 _ _ w.heap.size 96 #[.int .u8 0, .int .u64 0, .int .i64 0, .int .u64 0, .string ⟨#[]⟩, .bool false] (0, 0) _ ?_ ?_ Try.underlying96 ?_ ?_
    · rfl
    · exact Blk.new w _ _
    · rfl
    · exact size_part
  · (repeat (first | (with_reducible exact Below.refl _ _) | (with_reducible assumption) | (with_reducible refine Below.setCell ?_ (by first | omega | (simp; done) | (simp; omega)) _) | (with_reducible refine Below.alloc ?_ (by first | omega | (simp; done) | (simp; omega)) _) | (with_reducible refine Below.drew ?_) | (with_reducible refine below_drewN ?_ _)))
end Go.Proofs.Ytocllhghbmbjpaa
