/- The walk of rec.Bytes. -/
import Derived.Test.YtocllhghbmbjpaaWRec4
import Derived.Test.YtocllhghbmbjpaaWPut
import Derived.Test.YtocllhghbmbjpaaPlain
set_option linter.unusedSimpArgs false
set_option linter.unusedVariables false
set_option maxRecDepth 20000
namespace Go.Proofs.Ytocllhghbmbjpaa
open Go.RowKit Moi
attribute [local go_sem] toList_str str_size less_ltB store_float

def recBytes (r : MRec) : List UInt8 := if checkRec r = 0 then wRec r else []
/-- New bytes that are handed back. -/
def NewBytes (w : World) (bs : List UInt8) (e : Ending) (w' : World) : Prop :=
  ∃ A c n, Hid (n = bs.length) ∧ e = .returned (.slice A n c) ∧ w'.ownsRow w.heap.size 5 1 (.slice A n c) n (byteVals bs) ∧ Cln w w'
theorem newWriter (w : World) : IsW (w.alloc (.cells #[.slice none 0 0] 50)) w.heap.size w.heap.size [] :=
  ⟨Nat.le_refl _, none, 0, 0, rfl, Blk.new w _ _, World.ownsRow_nil _ _ _ _⟩
theorem WS_below {w w' : World} {base p : Nat} (h : Kept (WS w base p) w w') (hp : base ≤ p) (hb : base ≤ w.heap.size) : Below base w w' :=
  h.toBelow hb fun i hi => WS.not_lt hi hp

theorem bytes_rec (r : MRec) (hf : r.WF) (A : Option Addr) (n c : Nat) (hn : n ≤ 140737488355328) (w : World) (hr : RdItems w A n r.list) :
    Calls Try.prog 14 #[recVal r A n c] w (NewBytes w (recBytes r)) := by
  have hfin : Hid (recBytes r = if checkRec r = 0 then wRec r else []) := rfl
  by_cases hk : checkRec r = 0
  · have hlen := wRec_len hk hf
    have hln : n ≤ 32 := by have := (check_list hk).1; rw [hr.len] at this; exact this
    rw [show recBytes r = wRec r from by unfold recBytes; rw [if_pos hk]]
    have hk' := Lib.hid hk
    have t1 : ((checkRec r : Int) != 0) = false := by rw [hk]; rfl
    clear hk hfin
    have hval : recVal r A n c = .agg #[.int .i64 r.kind, .int .i64 r.num, .int .i64 r.low, .int .i64 r.high, .float .f64 r.real, .int .i64 r.cap, .string (str r.text), .slice A n c] := rfl
    rw [hval]; clear hval
    go_enter Try.func14, Try.ntmps14
    go_wp2_with fail
    have hcl0 : Cln w (w.alloc (.cells #[.int .i64 r.kind, .int .i64 r.num, .int .i64 r.low, .int .i64 r.high, .float .f64 r.real, .int .i64 r.cap, .string (str r.text), .slice A n c] 25)) := (Below.refl _ _).alloc (Nat.le_refl _) _
    refine (check_any r A n c hn hf _ (hr.cln hcl0)).mono ?_; rintro e w1 ⟨rfl, hq⟩
    have hb := (Blk.new w 25 #[.int .i64 r.kind, .int .i64 r.num, .int .i64 r.low, .int .i64 r.high, .float .f64 r.real, .int .i64 r.cap, .string (str r.text), .slice A n c]).cln hq
    have hc := hb.cell
    have hlt := hb.lt
    have hne : ¬ w.heap.size = w1.heap.size := by omega
    have hcl1 : Cln w w1 := cln_trans hcl0 hq
    have hr1 := Lib.hid (hr.cln hcl1)
    clear hq hcl0
    go_wp2_with fail
    refine (put_any w1.heap.size w1.heap.size [] r hk'.out hf A n c (by omega) _ (newWriter w1) (hr1.out.cln ((Below.refl _ _).alloc (Nat.le_refl _) _)) (fun h0 ad e => hr1.out.lo h0 ad e) (by simp; omega)).mono ?_
    rintro e w2 ⟨rfl, hW, hK⟩
    rw [List.nil_append] at hW
    have hb2 := WS_below hK (Nat.le_refl _) (by simp)
    go_wp2_with fail
    refine (bytes_any _ _ _ _ hW (by omega)).mono ?_
    rintro e w3 ⟨A', c', m, hm, rfl, hown, hq3⟩
    have hle : w.heap.size ≤ w2.heap.size := by have := hK.size; simp at this; omega
    have hcl2 : Cln w w2 := hcl1.trans ((Below.mono (Below.trans ((Below.refl w1.heap.size w1).alloc (Nat.le_refl _) _) hb2) (by omega)))
    go_wp2_with fail
    go_ret
    exact ⟨A', c', m, hm, rfl, own_base hown hle, cln_trans hcl2 hq3⟩
  · rw [show recBytes r = [] from by unfold recBytes; rw [if_neg hk]]
    have t1 : ((checkRec r : Int) != 0) = true := by rw [bne_iff_ne]; omega
    clear hk hfin
    have hval : recVal r A n c = .agg #[.int .i64 r.kind, .int .i64 r.num, .int .i64 r.low, .int .i64 r.high, .float .f64 r.real, .int .i64 r.cap, .string (str r.text), .slice A n c] := rfl
    rw [hval]; clear hval
    go_enter Try.func14, Try.ntmps14
    go_wp2_with fail
    have hcl0 : Cln w (w.alloc (.cells #[.int .i64 r.kind, .int .i64 r.num, .int .i64 r.low, .int .i64 r.high, .float .f64 r.real, .int .i64 r.cap, .string (str r.text), .slice A n c] 25)) := (Below.refl _ _).alloc (Nat.le_refl _) _
    refine (check_any r A n c hn hf _ (hr.cln hcl0)).mono ?_; rintro e w1 ⟨rfl, hq⟩
    have hcl1 : Cln w w1 := cln_trans hcl0 hq
    go_wp2_with fail
    go_ret
    exact ⟨none, 0, 0, rfl, rfl, World.ownsRow_nil _ _ _ _, hcl1⟩
end Go.Proofs.Ytocllhghbmbjpaa
