import Derived.Test.YtbemnfbndjolpaaGreatDoorOwns
import Derived.Test.YtbemnfbndjolpaaGreatDoorWLot1
import Derived.Deep.RegionLawGrows
import Derived.Test.YtbemnfbndjolpaaGreatDoorRows2
import Derived.Test.YtbemnfbndjolpaaGreatDoorSpk
/- Layer 11, plainly: how many deals are in a lot; rows of deals in part. -/
set_option linter.unusedSimpArgs false
set_option linter.unusedVariables false
set_option maxRecDepth 20000
namespace Moi
def manyGo (num : Int) (l : List (List MAct)) : Nat → Nat → Nat
 | 0, i => i
 | f + 1, i => if (checkLot ⟨num, l.take (i + 1)⟩).1 = 0 then manyGo num l f (i + 1) else i
def many (num : Int) (l : List (List MAct)) : Nat := manyGo num l l.length 0
end Moi
namespace Go.Proofs.YtbemnfbndjolpaaGreatDoor
open Go.RowKit Moi
theorem dealAt_take (l : List (List MAct)) (k i : Nat) (h : i < k) : dealAt (l.take k) i = dealAt l i := by simp [dealAt, List.getD, List.getElem?_take, h]
theorem RdDeals.take {W : World} {A : Option Addr} {n : Nat} {l : List (List MAct)} (h : RdDeals W A n l) (k : Nat) (hk : k ≤ n) : RdDeals W A k (l.take k) := by
 refine ⟨by rw [List.length_take, h.len]; omega, fun h0 => ?_⟩
 obtain ⟨b, o, hA, hb, hr⟩ := h.rows (by omega)
 refine ⟨b, o, hA, hb, fun i hi => ?_⟩
 rw [dealAt_take l k i hi]
 exact hr i (by omega)
theorem Mod.take {l : List (List MAct)} (h : Mod l) (k : Nat) : Mod (l.take k) := ⟨fun d hd => h.deals d (List.mem_of_mem_take hd), fun d hd => h.items d (List.mem_of_mem_take hd)⟩
end Go.Proofs.YtbemnfbndjolpaaGreatDoor

/- Layer 11, plainly: what its statements' 'speaks' speaks of; rows of one or two. -/
namespace Moi
def lspA : MAct := ⟨2, [97], 0, 0, [], zeroRec, false⟩
def lspL : MLot := ⟨7, [[lspA]]⟩
theorem lspA_w : wAct lspA = [2, 0, 1, 97] := by
 have h2 := wU_lt 2 (by decide); have h1 := wU_lt 1 (by decide)
 have e1 : hasF 2 110 = false := by decide
 have e2 : hasF 2 120 = false := by decide
 have e3 : hasF 2 115 = false := by decide
 have e4 : hasF 2 109 = false := by decide
 simp [wAct, lspA, wFlag, wS, h2, h1, e1, e2, e3, e4]
theorem lspD_check : checkDeal [lspA] = (0, 0) := by decide
theorem lspL_norm : Go.Proofs.YtbemnfbndjolpaaGreatDoor.normDeals lspL.deals = [[lspA]] := by decide
end Moi
namespace Go.Proofs.YtbemnfbndjolpaaGreatDoor
open Go.RowKit Moi
theorem lspA_wf : lspA.WF := ⟨by decide, by decide, by decide, zeroRec_wf_⟩
theorem lspA_full : FullA lspA := ⟨lspA_wf, fun x hx => by cases hx⟩
theorem rd_act1 {W : World} {g : Nat} {a : MAct} {A : Option Addr} {n c : Nat} (h : Blk W g 64 #[.int .i64 a.kind, .string (str a.key), .int .i64 a.n, .float .f64 a.x, .string (str a.s), .int .i64 a.make.kind, .int .i64 a.make.num, .int .i64 a.make.low, .int .i64 a.make.high, .float .f64 a.make.real, .int .i64 a.make.cap, .string (str a.make.text), .slice A n c, .bool a.must]) (hit : RdItems W A n a.make.list) (hwf : a.WF) : RdActs W (some ⟨g, 0, none⟩) 1 [a] := by
 refine ⟨rfl, fun _ => ⟨g, 0, rfl, h.lt, fun i hi => ⟨A, n, c, ?_⟩⟩⟩
 obtain rfl : i = 0 := by omega
 exact ⟨h.cell 0, h.cell 1, h.cell 2, h.cell 3, h.cell 4, h.cell 5, h.cell 6, h.cell 7, h.cell 8, h.cell 9, h.cell 10, h.cell 11, h.cell 12, h.cell 13, hit, hwf⟩
theorem rd_deal1 {W : World} {g : Nat} {d : List MAct} {A : Option Addr} {n c : Nat} (h : Blk W g 67 #[.slice A n c]) (hit : RdActs W A n d) : RdDeals W (some ⟨g, 0, none⟩) 1 [d] := by
 refine ⟨rfl, fun _ => ⟨g, 0, rfl, h.lt, fun i hi => ⟨A, n, c, ?_⟩⟩⟩
 obtain rfl : i = 0 := by omega
 exact ⟨h.cell 0, hit⟩
theorem RdActs.none_ (W : World) : RdActs W none 0 [] := ⟨rfl, fun h => absurd h (by omega)⟩
end Go.Proofs.YtbemnfbndjolpaaGreatDoor
