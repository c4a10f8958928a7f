import Derived.Test.YtbemnfbndjolpaaGreatDoorWFlo
import Derived.Test.YtbemnfbndjolpaaGreatDoorMem
import Derived.Test.YtbemnfbndjolpaaGreatDoorPlain
/- The walks of pack's Reader. -/
set_option linter.unusedSimpArgs false
set_option linter.unusedVariables false
namespace Go.Proofs.YtbemnfbndjolpaaGreatDoor
open Go.RowKit Moi

structure IsR (w : World) (p : Nat) (A : Option Addr) (n c : Nat) (bs : List UInt8) (a : Nat) : Prop where
 blk : Blk w p 135 #[.slice A n c, .int .i64 (a : Nat)]
 rd : RdBytes w A n bs
 le : a ≤ n
 cap : n ≤ c
 big : n ≤ 140737488355328
 ne : ∀ ad, A = some ad → ad.block ≠ p

def faultVal (e : RErr) : Value := .iface 89 (.agg #[.int .i64 (e.1 : Nat), .int .i64 (e.2 : Nat)])
def faultChain (e : RErr) : List PanicEntry := [{ v := faultVal e, recovered := false }]

def RPost {α : Type} (enc : α → Value → World → Prop) (w : World) (p : Nat) (A : Option Addr) (n c : Nat) (bs : List UInt8) (res : RRes α) (e : Ending) (w' : World) : Prop :=
 match res with
 | .ok (x, a) => ∃ v, e = .returned v ∧ enc x v w' ∧ IsR w' p A n c bs a ∧ Kept (· = p) w w'
 | .error f => e = .panicked (faultChain f) ∧ Kept (· = p) w w'
def encNat (k : IntKind) (x : Nat) (v : Value) (_ : World) : Prop := v = .int k (x : Nat)

theorem RPost.cases {α : Type} {enc : α → Value → World → Prop} {w : World} {p : Nat} {A : Option Addr} {n c : Nat} {bs : List UInt8} {res : RRes α} {e : Ending} {w' : World}
  (h : RPost enc w p A n c bs res e w') :
  (∃ x a v, res = .ok (x, a) ∧ e = .returned v ∧ enc x v w' ∧ IsR w' p A n c bs a ∧ Kept (· = p) w w') ∨ (∃ f, res = .error f ∧ e = .panicked (faultChain f) ∧ Kept (· = p) w w') := by
 unfold RPost at h
 split at h
 ·obtain ⟨v, h1, h2, h3, h4⟩ := h; exact .inl ⟨_, _, v, rfl, h1, h2, h3, h4⟩
 ·exact .inr ⟨_, rfl, h.1, h.2⟩

theorem fail_any (p : Nat) (A : Option Addr) (n c : Nat) (bs : List UInt8) (a e0 : Nat) (w : World) (hr : IsR w p A n c bs a) :
  Calls Tryz.prog 75 #[.pointer (some ⟨p, 0, none⟩), .int .i64 (e0 : Nat)] w fun e w' => e = .panicked (faultChain (e0, a)) ∧ w = w' := by
 have hc := hr.blk.cell
 go_enter Tryz.func75, Tryz.ntmps75
 go_wp2_with fail
 exact ⟨rfl, rfl, rfl⟩
theorem Fail_any (p : Nat) (A : Option Addr) (n c : Nat) (bs : List UInt8) (a e0 : Nat) (w : World) (hr : IsR w p A n c bs a) :
  Calls Tryz.prog 57 #[.pointer (some ⟨p, 0, none⟩), .int .i64 (e0 : Nat)] w fun e w' => e = .panicked (faultChain (e0, a)) ∧ w = w' := by
 go_enter Tryz.func57, Tryz.ntmps57
 go_wp2_with fail
 refine (fail_any p A n c bs a e0 _ hr).mono ?_; rintro e w' ⟨rfl, rfl⟩
 go_wp2_with fail
 exact ⟨rfl, rfl, rfl⟩

section
variable {w w' : World} {p : Nat} {A : Option Addr} {n c : Nat} {bs : List UInt8} {a : Nat}
theorem IsR.drewN (h : IsR w p A n c bs a) (k : Nat) : IsR (w.drewN k) p A n c bs a := ⟨h.blk, h.rd.drewN k, h.le, h.cap, h.big, h.ne⟩
theorem IsR.drew (h : IsR w p A n c bs a) : IsR w.drew p A n c bs a := ⟨h.blk, h.rd.drew, h.le, h.cap, h.big, h.ne⟩
theorem IsR.kept {S : Nat → Prop} (h : IsR w p A n c bs a) (k : Kept S w w') (hp : ¬ S p) (hA : ∀ ad, A = some ad → ¬ S ad.block) : IsR w' p A n c bs a :=
 ⟨h.blk.kept k hp, h.rd.kept k fun ad e _ => hA ad e, h.le, h.cap, h.big, h.ne⟩
theorem IsR.cln (h : IsR w p A n c bs a) (k : Cln w w') : IsR w' p A n c bs a :=
 h.kept (Kept.of_below (S := fun _ => False) k) (fun h => h) fun _ _ h => h
theorem IsR.alloc (h : IsR w p A n c bs a) (o : Obj) : IsR (w.alloc o) p A n c bs a := h.cln ((Below.refl _ _).alloc (Nat.le_refl _) o)
theorem IsR.other (h : IsR w p A n c bs a) {q : Addr} (hp : p ≠ q.block) (hA : ∀ ad, A = some ad → ad.block ≠ q.block) (u : Value) : IsR (w.setCell q u) p A n c bs a :=
 h.kept (keptSetA w q u) hp hA
theorem IsR.set (h : IsR w p A n c bs a) (a' : Nat) (h' : a' ≤ n) (x : Int) (hx : x = (a' : Nat)) : IsR (w.setCell ⟨p, 1, none⟩ (.int .i64 x)) p A n c bs a' := by
 subst hx
 refine ⟨h.blk.set_ 1 _, h.rd.kept (keptSet w p 1 _) (fun ad e _ => h.ne ad e), h', h.cap, h.big, h.ne⟩
end

theorem one_any (p : Nat) (A : Option Addr) (n c : Nat) (bs : List UInt8) (a : Nat) (w : World) (hr : IsR w p A n c bs a) :
  Calls Tryz.prog 96 #[.pointer (some ⟨p, 0, none⟩)] w (RPost (encNat .u8) w p A n c bs (rOne bs a)) := by
 have hc := hr.blk.cell
 have hf := hr.blk.frozen
 have hn := hr.rd.len
 have hbig : n ≤ 140737488355328 := hr.big
 by_cases hlt : a < n
 ·obtain ⟨b, o, rfl, hb, hcell⟩ := hr.rd.cells (by omega)
  have hne : b ≠ p := hr.ne _ rfl
  have h1 := hcell a hlt
  have hle : decide ((n : Int) ≤ (a : Int)) = false := by simp; omega
  have hs1 : IntKind.i64.wrap ((a : Int) + 1) = (a : Int) + 1 := IntWalk.i64_in _ (by omega)
  have hs2 : IntKind.i64.wrap ((a : Int) + 1 - 1) = (a : Int) := by rw [IntWalk.i64_in _ (by omega)]; omega
  have hi1 : (0 : Int) ≤ (a : Int) := by omega
  have hi2 : (a : Int) < (n : Int) := by omega
  have hfin : rOne bs a = .ok (byteAt bs a, a + 1) := by unfold rOne; rw [if_pos (by omega)]; rfl
  rw [hfin]; clear hfin
  clear hn
  go_enter Tryz.func96, Tryz.ntmps96
  go_wp2_with fail
  go_quiet (fail)
  go_wp2_with fail
  go_quiet (fail)
  go_wp2_with fail
  go_ret
  exact ⟨_, rfl, rfl, ((hr.drewN _).set (a + 1) (by omega) _ (by omega)).drewN _, (((Kept.refl _ w).drewN _).trans (keptSet _ _ _ _)).drewN _⟩
 ·have hle : decide ((n : Int) ≤ (a : Int)) = true := by simp; omega
  have hfin : rOne bs a = .error (2, a) := by unfold rOne; rw [if_neg (by omega)]
  rw [hfin]; clear hfin
  clear hn
  go_enter Tryz.func96, Tryz.ntmps96
  go_wp2_with fail
  go_quiet (fail)
  go_wp2_with fail
  refine (fail_any p A n c bs a 2 _ (hr.drewN _)).mono ?_; rintro e w' ⟨rfl, rfl⟩
  go_wp2_with fail
  exact ⟨rfl, rfl, (Kept.refl _ w).drewN _⟩

theorem left_any (p : Nat) (A : Option Addr) (n c : Nat) (bs : List UInt8) (a : Nat) (w : World) (hr : IsR w p A n c bs a) :
  Calls Tryz.prog 77 #[.pointer (some ⟨p, 0, none⟩)] w fun e w' => e = .returned (.int .i64 ((n : Int) - (a : Nat))) ∧ ∃ k, w.drewN k = w' := by
 have hc := hr.blk.cell
 have hle := hr.le
 have hbig : n ≤ 140737488355328 := hr.big
 have hs1 : IntKind.i64.wrap ((n : Int) - (a : Int)) = (n : Int) - (a : Int) := IntWalk.i64_in _ (by omega)
 go_enter Tryz.func77, Tryz.ntmps77
 go_wp2_with fail
 go_quiet (fail)
 go_wp2_with fail
 go_ret
 exact ⟨rfl, _, rfl⟩

theorem new_any (A : Option Addr) (n c : Nat) (bs : List UInt8) (w : World) (hr : RdBytes w A n bs) (hc : n ≤ c) (hb : n ≤ 140737488355328) (hA : ∀ ad, A = some ad → ad.block < w.heap.size) :
  Calls Tryz.prog 55 #[.slice A n c] w fun e w' => e = .returned (.pointer (some ⟨w.heap.size, 0, none⟩)) ∧ IsR w' w.heap.size A n c bs 0 ∧ Cln w w' := by
 go_enter Tryz.func55, Tryz.ntmps55
 go_wp2_with fail
 go_ret
 refine ⟨rfl, ⟨Blk.new w _ _, hr.cln ((Below.refl _ _).alloc (Nat.le_refl _) _), Nat.zero_le _, hc, hb, fun ad e => by have := hA ad e; omega⟩, (Below.refl _ _).alloc (Nat.le_refl _) _⟩

theorem end_any (p : Nat) (A : Option Addr) (n c : Nat) (bs : List UInt8) (a : Nat) (w : World) (hr : IsR w p A n c bs a) :
  Calls Tryz.prog 59 #[.pointer (some ⟨p, 0, none⟩)] w (RPost (fun _ v _ => v = .tuple #[]) w p A n c bs (rEnd bs a)) := by
 have hn := hr.rd.len
 have hbig : n ≤ 140737488355328 := hr.big
 have hle := hr.le
 by_cases hlt : a < n
 ·have ht : decide ((0 : Int) < (n : Int) - (a : Int)) = true := by simp; omega
  have hfin : rEnd bs a = .error (3, a) := by unfold rEnd; rw [if_pos (by omega)]
  rw [hfin]; clear hfin hn
  go_enter Tryz.func59, Tryz.ntmps59
  go_wp2_with fail
  refine (left_any p A n c bs a _ hr).mono ?_; rintro e w' ⟨rfl, k, rfl⟩
  go_wp2_with fail
  refine (fail_any p A n c bs a 3 _ (hr.drewN _)).mono ?_; rintro e w' ⟨rfl, rfl⟩
  go_wp2_with fail
  exact ⟨rfl, rfl, (Kept.refl _ w).drewN _⟩
 ·have ht : decide ((0 : Int) < (n : Int) - (a : Int)) = false := by simp; omega
  have hfin : rEnd bs a = .ok ((), a) := by unfold rEnd; rw [if_neg (by omega)]
  rw [hfin]; clear hfin hn
  go_enter Tryz.func59, Tryz.ntmps59
  go_wp2_with fail
  refine (left_any p A n c bs a _ hr).mono ?_; rintro e w' ⟨rfl, k, rfl⟩
  go_wp2_with fail
  go_end0
  exact ⟨_, rfl, rfl, hr.drewN _, (Kept.refl _ w).drewN _⟩

set_option maxRecDepth 20000 in
theorem u_any (p : Nat) (A : Option Addr) (n c : Nat) (bs : List UInt8) (a : Nat) (w : World) (hr : IsR w p A n c bs a) :
  Calls Tryz.prog 74 #[.pointer (some ⟨p, 0, none⟩)] w (RPost (encNat .u64) w p A n c bs (rU bs a)) := by
 go_enter Tryz.func74, Tryz.ntmps74
 go_wp2_with fail
 go_loopw [3, 4] (fun v s wr => ∃ i N a' : Nat, i ≤ 9 ∧ v = .int .u64 (N : Nat) ∧ s = .int .i64 (7 * (i : Nat)) ∧ N < 128 ^ i ∧ IsR wr p A n c bs a' ∧ Kept (· = p) w wr ∧ Hid (rU bs a = rUgo bs (10 - i) i N a')) (fun _ s _ => (70 - intOf s).toNat)
 case atStart => exact ⟨0, 0, a, by omega, rfl, rfl, by omega, hr, Kept.refl _ _, rfl⟩
 case round =>
  obtain ⟨i, N, a', hi, rfl, rfl, hN, hr', hk, hH⟩ := hrel
  go_wp2_with fail
  refine (one_any p A n c bs a' _ hr').mono ?_
  intro e w' h
  rcases h.cases with ⟨x, a2, v, hres, rfl, rfl, hr2, hk2⟩ | ⟨f, hres, rfl, hk2⟩
  ·have hres' := Lib.hid hres; clear hres h
   have hN' := Lib.hid hN; clear hN
   have hx1 : x < 256 := (rOne_ok hres'.out).2.2.1
   have hgo : Hid (rU bs a = if i = 9 ∧ 1 < x then .error (1, a2) else if 128 ≤ x then rUgo bs (9 - i) (i + 1) (N + (x % 128) * 128 ^ i) a2
     else if x = 0 ∧ 0 < i then .error (4, a2) else .ok (N + (x % 128) * 128 ^ i, a2)) := by
    unfold Hid; rw [hH.out, show 10 - i = (9 - i) + 1 from by omega, rUgo, hres'.out]
   clear hH
   by_cases h9 : i = 9 ∧ 1 < x
   ·have t1 : ((7 * (i : Int)) == 63) = true := by rw [beq_iff_eq]; omega
    have t2 : decide (1 < (x : Int)) = true := decide_eq_true (by omega)
    have h9' := Lib.hid h9; clear h9
    go_wp2_with fail
    refine (fail_any p A n c bs a2 1 _ hr2).mono ?_; rintro e w' ⟨rfl, rfl⟩
    go_wp2_with fail
    refine ⟨rfl, ?_⟩
    rw [hgo.out, if_pos h9'.out]
    exact ⟨rfl, hk.trans hk2⟩
   ·have hN0 := hN'.out
    have hp := pow128_le i hi
    have hs : N + (x % 128) * 128 ^ i < 18446744073709551616 := by
     by_cases h8 : i = 9
     ·have hxs : x ≤ 1 := by omega
      subst h8
      have : x % 128 ≤ 1 := by omega
      have := Nat.mul_le_mul_right (128 ^ 9) this
      omega
     ·have h1 := seven_lt N x i hN0
      have h2 := pow128_le (i + 1) (by omega)
      omega
    have hv := Lib.hid (orShift N x i hN0 hx1 hs)
    clear hs hp hN0
    by_cases h8 : i = 9
    ·subst h8
     have hxs : x < 2 := by omega
     have hv9 : bits .or .u64 (N : Int) (IntKind.u64.wrap (IntKind.u64.wrap (bits .and .u8 (x : Int) 127) * 9223372036854775808)) = ((N + (x % 128) * 128 ^ 9 : Nat) : Int) := by
      have := hv.out; rwa [show (2 : Int) ^ (7 * 9) = 9223372036854775808 from by decide] at this
     have hv' := Lib.hid hv9; clear hv9 hv h9
     have hgo' : Hid (rU bs a = if x = 0 then .error (4, a2) else .ok (N + (x % 128) * 128 ^ 9, a2)) := by
      unfold Hid; rw [hgo.out, if_neg (by omega), if_neg (by omega)]; simp
     clear hgo
     have t2 : decide (1 < (x : Int)) = false := decide_eq_false (by omega)
     have t3 : decide (128 ≤ (x : Int)) = false := decide_eq_false (by omega)
     by_cases hx0 : x = 0
     ·have t4 : ((x : Int) == 0) = true := by rw [beq_iff_eq]; omega
      have hx0' := Lib.hid hx0; clear hx0
      go_wp2_with fail
      refine (fail_any p A n c bs a2 4 _ hr2).mono ?_; rintro e w' ⟨rfl, rfl⟩
      go_wp2_with fail
      refine ⟨rfl, ?_⟩
      rw [hgo'.out, if_pos hx0'.out]
      exact ⟨rfl, hk.trans hk2⟩
     ·have t4 : ((x : Int) == 0) = false := by rw [beq_eq_false_iff_ne]; omega
      have hx0' := Lib.hid hx0; clear hx0
      go_wp2_with fail
      go_ret
      rw [hgo'.out, if_neg hx0'.out]
      exact ⟨_, rfl, congrArg (Value.int .u64) hv'.out, hr2, hk.trans hk2⟩
    ·have t1 : ((7 * (i : Int)) == 63) = false := by rw [beq_eq_false_iff_ne]; omega
     have hi8 : i ≤ 8 := by omega
     clear h9 h8 hi
     by_cases hx7 : 128 ≤ x
     ·have t3 : decide (128 ≤ (x : Int)) = true := decide_eq_true (by omega)
      have hgo' : Hid (rU bs a = rUgo bs (9 - i) (i + 1) (N + (x % 128) * 128 ^ i) a2) := by
       unfold Hid; rw [hgo.out, if_neg (by omega), if_pos hx7]
      clear hgo
      have hi9 : i + 1 ≤ 9 := by omega
      have hlt := Lib.hid (seven_lt N x i hN'.out)
      go_wp2_with fail
      go_roundw
      case rel => exact ⟨i + 1, N + (x % 128) * 128 ^ i, a2, hi9, congrArg (Value.int .u64) hv.out, by go_num, hlt.out, hr2, hk.trans hk2, by unfold Hid; rw [hgo'.out, show 10 - (i + 1) = 9 - i from by omega]⟩
      case measure => simp [intOf]; omega
     ·have t3 : decide (128 ≤ (x : Int)) = false := decide_eq_false (by omega)
      by_cases hx0 : x = 0 ∧ 0 < i
      ·have t4 : ((x : Int) == 0) = true := by rw [beq_iff_eq]; omega
       have t5 : decide (0 < 7 * (i : Int)) = true := decide_eq_true (by omega)
       have hgo' : Hid (rU bs a = .error (4, a2)) := by
        unfold Hid; rw [hgo.out, if_neg (by omega), if_neg hx7, if_pos hx0]
       clear hgo hx0
       go_wp2_with fail
       refine (fail_any p A n c bs a2 4 _ hr2).mono ?_; rintro e w' ⟨rfl, rfl⟩
       go_wp2_with fail
       refine ⟨rfl, ?_⟩
       rw [hgo'.out]
       exact ⟨rfl, hk.trans hk2⟩
      ·have hgo' : Hid (rU bs a = .ok (N + (x % 128) * 128 ^ i, a2)) := by
        unfold Hid; rw [hgo.out, if_neg (by omega), if_neg hx7, if_neg hx0]
       clear hgo
       by_cases hx1 : x = 0
       ·have t4 : ((x : Int) == 0) = true := by rw [beq_iff_eq]; omega
        have t5 : decide (0 < 7 * (i : Int)) = false := decide_eq_false (by omega)
        subst hx1
        clear hx0
        go_wp2_with fail
        go_ret
        rw [hgo'.out]
        exact ⟨_, rfl, congrArg (Value.int .u64) hv.out, hr2, hk.trans hk2⟩
       ·have t4 : ((x : Int) == 0) = false := by rw [beq_eq_false_iff_ne]; omega
        clear hx0 hx1
        go_wp2_with fail
        go_ret
        rw [hgo'.out]
        exact ⟨_, rfl, congrArg (Value.int .u64) hv.out, hr2, hk.trans hk2⟩
  ·have hres' := Lib.hid hres; clear hres h
   go_wp2_with fail
   refine ⟨rfl, ?_⟩
   have : rU bs a = .error f := by rw [hH.out, show 10 - i = (9 - i) + 1 from by omega, rUgo, hres'.out]
   rw [this]
   exact ⟨rfl, hk.trans hk2⟩

theorem upto_any (p : Nat) (A : Option Addr) (n c : Nat) (bs : List UInt8) (a most : Nat) (hm : most < 9223372036854775808) (w : World) (hr : IsR w p A n c bs a) :
  Calls Tryz.prog 56 #[.pointer (some ⟨p, 0, none⟩), .int .i64 (most : Nat)] w (RPost (encNat .i64) w p A n c bs (rUpto most bs a)) := by
 go_enter Tryz.func56, Tryz.ntmps56
 go_wp2_with fail
 refine (u_any p A n c bs a _ hr).mono ?_
 intro e w' h
 rcases h.cases with ⟨x, a2, v, hres, rfl, rfl, hr2, hk2⟩ | ⟨f, hres, rfl, hk2⟩
 ·have hres' := Lib.hid hres; clear hres h
  go_wp2_with fail
  ·have hlt : most < x := by assumption
   refine (fail_any p A n c bs a2 1 _ hr2).mono ?_; rintro e w' ⟨rfl, rfl⟩
   go_wp2_with fail
   refine ⟨rfl, ?_⟩
   unfold rUpto; rw [hres'.out]; simp only []; rw [if_pos hlt]
   exact ⟨rfl, hk2⟩
  ·have hlt : ¬ most < x := by assumption
   go_ret
   unfold rUpto; rw [hres'.out]; simp only []; rw [if_neg hlt]
   exact ⟨_, rfl, rfl, hr2, hk2⟩
 ·have hres' := Lib.hid hres; clear hres h
  go_wp2_with fail
  refine ⟨rfl, ?_⟩
  unfold rUpto; rw [hres'.out]
  exact ⟨rfl, hk2⟩

theorem i_any (p : Nat) (A : Option Addr) (n c : Nat) (bs : List UInt8) (a : Nat) (w : World) (hr : IsR w p A n c bs a) :
  Calls Tryz.prog 101 #[.pointer (some ⟨p, 0, none⟩)] w (RPost (fun x v _ => v = .int .i64 x) w p A n c bs (rI bs a)) := by
 go_enter Tryz.func101, Tryz.ntmps101
 go_wp2_with fail
 refine (u_any p A n c bs a _ hr).mono ?_
 intro e w' h
 rcases h.cases with ⟨x, a2, v, hres, rfl, rfl, hr2, hk2⟩ | ⟨f, hres, rfl, hk2⟩
 ·have hres' := Lib.hid hres; clear hres h
  have hv := Lib.hid (unzig_bits x (rU_lt hres'.out))
  go_wp2_with fail
  go_ret
  unfold rI; rw [hres'.out]
  exact ⟨_, rfl, congrArg (Value.int .i64) hv.out, hr2, hk2⟩
 ·have hres' := Lib.hid hres; clear hres h
  go_wp2_with fail
  refine ⟨rfl, ?_⟩
  unfold rI; rw [hres'.out]
  exact ⟨rfl, hk2⟩
theorem f_any (p : Nat) (A : Option Addr) (n c : Nat) (bs : List UInt8) (a : Nat) (w : World) (hr : IsR w p A n c bs a) :
  Calls Tryz.prog 102 #[.pointer (some ⟨p, 0, none⟩)] w (RPost (fun x v _ => v = .float .f64 x) w p A n c bs (rF bs a)) := by
 go_enter Tryz.func102, Tryz.ntmps102
 go_wp2_with fail
 go_loopw [3, 6] (fun v s wr => ∃ i N a' : Nat, i ≤ 8 ∧ v = .int .u64 (N : Nat) ∧ s = .int .i64 (i : Nat) ∧ N < 256 ^ i ∧ IsR wr p A n c bs a' ∧ Kept (· = p) w wr ∧ Hid (rPlaceGo bs 8 0 a = rPlaceGo bs (8 - i) N a')) (fun _ s _ => (8 - intOf s).toNat)
 case atStart => exact ⟨0, 0, a, by omega, rfl, rfl, by omega, hr, Kept.refl _ _, rfl⟩
 case round =>
  obtain ⟨i, N, a', hi, rfl, rfl, hN, hr', hk, hH⟩ := hrel
  have hN' := Lib.hid hN; clear hN
  by_cases hlt : i < 8
  ·go_wp2_with fail
   refine (one_any p A n c bs a' _ hr').mono ?_
   intro e w' h
   rcases h.cases with ⟨x, a2, v, hres, rfl, rfl, hr2, hk2⟩ | ⟨f, hres, rfl, hk2⟩
   ·have hres' := Lib.hid hres; clear hres h
    have hx1 : x < 256 := (rOne_ok hres'.out).2.2.1
    have hN1 : N < 72057594037927936 := by
     have : 256 ^ i ≤ 256 ^ 7 := Nat.pow_le_pow_right (by omega) (by omega)
     have := hN'.out; omega
    have hv := Lib.hid (orByte N x hN1 hx1); clear hN1
    have hlt' : i + 1 ≤ 8 := hlt
    go_wp2_with fail
    go_roundw
    case rel => exact ⟨i + 1, N * 256 + x, a2, hlt', congrArg (Value.int .u64) hv.out, by go_num, by have := hN'.out; rw [Nat.pow_succ]; omega, hr2, hk.trans hk2, by unfold Hid; rw [hH.out, show 8 - i = (7 - i) + 1 from by omega, rPlaceGo, hres'.out]; rw [show 8 - (i + 1) = 7 - i from by omega]⟩
    case measure => simp [intOf]; omega
   ·have hres' := Lib.hid hres; clear hres h
    go_wp2_with fail
    refine ⟨rfl, ?_⟩
    unfold rF; rw [hH.out, show 8 - i = (7 - i) + 1 from by omega, rPlaceGo, hres'.out]
    exact ⟨rfl, hk.trans hk2⟩
  ·obtain rfl : i = 8 := by omega
   have hN1 : N < 18446744073709551616 := by have := hN'.out; omega
   have hgo : Hid (rF bs a = match fback N with | none => .error (4, a') | some x => .ok (x, a')) := by
    unfold Hid rF; rw [hH.out]; rfl
   cases hb : fback N with
   | none =>
    have hbv : backVal N = .tuple #[.float .f64 0, .bool false] := by unfold backVal; rw [hb]
    rw [hb] at hgo
    have hbv' := Lib.hid hbv; clear hbv hb
    go_wp2_with fail
    refine (back_any N hN1 _).mono ?_; rintro e w' ⟨rfl, rfl⟩
    rw [hbv'.out]
    go_wp2_with fail
    refine (fail_any p A n c bs a' 4 _ hr').mono ?_; rintro e w' ⟨rfl, rfl⟩
    go_wp2_with fail
    refine ⟨rfl, ?_⟩
    rw [hgo.out]
    exact ⟨rfl, hk⟩
   | some x =>
    have hbv : backVal N = .tuple #[.float .f64 x, .bool true] := by unfold backVal; rw [hb]
    rw [hb] at hgo
    have hbv' := Lib.hid hbv; clear hbv hb
    go_wp2_with fail
    refine (back_any N hN1 _).mono ?_; rintro e w' ⟨rfl, rfl⟩
    rw [hbv'.out]
    go_wp2_with fail
    go_ret
    rw [hgo.out]
    exact ⟨_, rfl, rfl, hr', hk⟩

theorem conv_at (W : World) (b o len cap : Nat) (bs : List UInt8) (hl : bs.length = len) (hc : ∀ i, i < len → W.cell? ⟨b, o + i, none⟩ = some (.int .u8 (byteAt bs i : Nat))) :
  (convert 33 9 (.slice (some ⟨b, o, none⟩) len cap)).run Tryz.prog W = .ok (.string ⟨bs.toArray⟩) W := by
 have h := run_convert_bytes_arg (P := Tryz.prog) W 33 5 Tryz.underlying33 Tryz.underlying5 b o len cap (bs.map fun x => (x.toNat : Int)) (by simpa using hl)
  (fun i hi => by
   rw [hc i hi]; unfold byteAt
   have : i < bs.length := by omega
   simp [List.getD, this]) 9 Tryz.underlying9
 have e : strOfNums (bs.map fun x => (x.toNat : Int)) = ⟨bs.toArray⟩ := by
  unfold strOfNums
  rw [List.map_map]
  have e2 : (bs.map ((fun n => UInt8.ofNat n.toNat) ∘ fun x => (x.toNat : Int))) = bs := by
   have : ∀ x : UInt8, ((fun n : Int => UInt8.ofNat n.toNat) ∘ fun x => (x.toNat : Int)) x = x := fun x => by simp
   induction bs with
   | nil => rfl
   | cons y l ih => rw [List.map_cons, this y, List.map_id'' this]
  rw [e2]
 rw [h, e]
theorem conv_cut {W : World} {A : Option Addr} {n : Nat} {bs : List UInt8} (h : RdBytes W A n bs) (i x c : Nat) (hi : i + x ≤ n) (hc : n ≤ c) :
  (convert 33 9 (.slice (if c = i then A else Option.map (fun y => y.add i) A) x (c - i))).run Tryz.prog W = .ok (.string ⟨((bs.drop i).take x).toArray⟩) W := by
 have hb := h.len
 by_cases hx : x = 0
 ·subst hx
  have key : ∀ A' : Option Addr, (∀ ad, A' = some ad → ad.spot = none) → (convert 33 9 (.slice A' 0 (c - i))).run Tryz.prog W = .ok (.string ⟨#[]⟩) W := by
   intro A' hA
   rcases A' with _ | ⟨b, o, sp⟩
   ·exact run_convert_bytes_nil W 33 5 Tryz.underlying33 Tryz.underlying5 _ _ 9 Tryz.underlying9
   ·have := hA _ rfl; dsimp at this; subst this
    exact conv_at W b o 0 _ [] rfl (fun i hi => by omega)
  rw [List.take_zero]
  refine key _ fun ad e => ?_
  split at e
  ·exact h.spot ad e
  ·rw [Option.map_eq_some_iff] at e
   obtain ⟨a0, h0, rfl⟩ := e
   have := h.spot a0 h0
   unfold Addr.add; split <;> simp [this]
 ·obtain ⟨b, o, rfl, _, hcell⟩ := h.cells (by omega)
  rw [if_neg (by omega)]
  have e : (⟨b, o, none⟩ : Addr).add i = ⟨b, o + i, none⟩ := by unfold Addr.add; split <;> simp_all
  simp only [Option.map_some, e]
  exact conv_at W b (o + i) x _ _ (by simp; omega) (fun j hj => by
   rw [Nat.add_assoc, hcell (i + j) (by omega)]
   unfold byteAt
   simp [List.getD, hj])
theorem s_any (p : Nat) (A : Option Addr) (n c : Nat) (bs : List UInt8) (a most : Nat) (hm : most < 9223372036854775808) (w : World) (hr : IsR w p A n c bs a) :
  Calls Tryz.prog 99 #[.pointer (some ⟨p, 0, none⟩), .int .i64 (most : Nat)] w (RPost (fun x v _ => v = .string ⟨x.toArray⟩) w p A n c bs (rS most bs a)) := by
 go_enter Tryz.func99, Tryz.ntmps99
 go_wp2_with fail
 refine (u_any p A n c bs a _ hr).mono ?_
 intro e w' h
 rcases h.cases with ⟨x, a2, v, hres, rfl, rfl, hr2, hk2⟩ | ⟨f, hres, rfl, hk2⟩
 ·have hres' := Lib.hid hres; clear hres h
  have hx64 := rU_lt hres'.out
  have hle := hr2.le
  have hbig : n ≤ 140737488355328 := hr.big
  by_cases hlong : most < x
  ·have ht : decide (most < x) = true := decide_eq_true hlong
   have hl' := Lib.hid hlong; clear hlong
   go_wp2_with fail
   refine (fail_any p A n c bs a2 3 _ hr2).mono ?_; rintro e w' ⟨rfl, rfl⟩
   go_wp2_with fail
   refine ⟨rfl, ?_⟩
   unfold rS; rw [hres'.out]; simp only []; rw [if_pos hl'.out]
   exact ⟨rfl, hk2⟩
  ·have ht : decide (most < x) = false := decide_eq_false hlong
   have hl' := Lib.hid hlong; clear hlong
   have hbn := Lib.hid hr2.rd.len
   by_cases hshort : n - a2 < x
   ·have ht2 : decide ((n : Int) - (a2 : Int) < (x : Int)) = true := decide_eq_true (by omega)
    have hu : IntKind.u64.wrap ((n : Int) - (a2 : Int)) = (n : Int) - (a2 : Int) := by rw [IntKind.wrap_u64]; omega
    have hs' := Lib.hid hshort; clear hshort
    go_wp2_with fail
    refine (left_any p A n c bs a2 _ hr2).mono ?_; rintro e w'' ⟨rfl, k, rfl⟩
    go_wp2_with fail
    refine (fail_any p A n c bs a2 2 _ (hr2.drewN _)).mono ?_; rintro e w' ⟨rfl, rfl⟩
    go_wp2_with fail
    refine ⟨rfl, ?_⟩
    unfold rS; rw [hres'.out]; simp only []; rw [if_neg hl'.out, if_pos (by rw [hbn.out]; exact hs'.out)]
    exact ⟨rfl, hk2.drewN _⟩
   ·have ht2 : decide ((n : Int) - (a2 : Int) < (x : Int)) = false := decide_eq_false (by omega)
    have hu : IntKind.u64.wrap ((n : Int) - (a2 : Int)) = (n : Int) - (a2 : Int) := by rw [IntKind.wrap_u64]; omega
    have hax : a2 + x ≤ n := by omega
    clear hshort
    have hc := hr2.blk.cell
    have hf := hr2.blk.frozen
    have hu2 : IntKind.i64.wrap (x : Int) = (x : Int) := IntWalk.i64_in _ (by omega)
    have hs1 : IntKind.i64.wrap ((a2 : Int) + (x : Int)) = (a2 : Int) + (x : Int) := IntWalk.i64_in _ (by omega)
    have hs2 : IntKind.i64.wrap ((a2 : Int) + (x : Int) - (x : Int)) = (a2 : Int) := by rw [IntWalk.i64_in _ (by omega)]; omega
    have hcap := hr2.cap
    have hs3 : IntKind.i64.wrap (a2 : Int) = (a2 : Int) := IntWalk.i64_in _ (by omega)
    have hb1 : (0 : Int) ≤ (a2 : Int) := by omega
    have hb2 : (a2 : Int) ≤ (a2 : Int) + (x : Int) := by omega
    have hb3 : (a2 : Int) + (x : Int) ≤ (c : Int) := by omega
    go_wp2_with fail
    refine (left_any p A n c bs a2 _ hr2).mono ?_; rintro e w'' ⟨rfl, k, rfl⟩
    have hr3 : ∀ nq, IsR (((w'.drewN k).setCell ⟨p, 1, none⟩ (.int .i64 ((a2 : Int) + (x : Int)))).drewN nq) p A n c bs (a2 + x) := fun nq => ((hr2.drewN k).set (a2 + x) hax _ (by omega)).drewN nq
    have hconv : ∀ nq, (convert 33 9 (.slice (if c = a2 then A else Option.map (fun y => y.add a2) A) (((a2 : Int) + (x : Int)).toNat - a2) (c - a2))).run Tryz.prog (((w'.drewN k).setCell ⟨p, 1, none⟩ (.int .i64 ((a2 : Int) + (x : Int)))).drewN nq) = .ok (.string ⟨((bs.drop a2).take x).toArray⟩) (((w'.drewN k).setCell ⟨p, 1, none⟩ (.int .i64 ((a2 : Int) + (x : Int)))).drewN nq) := by
     intro nq
     rw [show ((a2 : Int) + (x : Int)).toNat - a2 = x from by omega]
     exact conv_cut (hr3 nq).rd a2 x c hax hcap
    go_wp2_with fail
    go_quiet (fail)
    go_wp2_with fail
    ·have hca : c = a2 := by assumption
     subst hca
     go_ret
     unfold rS; rw [hres'.out]; simp only []; rw [if_neg hl'.out, if_neg (by rw [hbn.out]; omega)]
     exact ⟨_, rfl, rfl, hr3 _, ((hk2.drewN _).trans (keptSet _ _ _ _)).drewN _⟩
    ·go_ret
     unfold rS; rw [hres'.out]; simp only []; rw [if_neg hl'.out, if_neg (by rw [hbn.out]; omega)]
     exact ⟨_, rfl, rfl, hr3 _, ((hk2.drewN _).trans (keptSet _ _ _ _)).drewN _⟩
 ·have hres' := Lib.hid hres; clear hres h
  go_wp2_with fail
  refine ⟨rfl, ?_⟩
  unfold rS; rw [hres'.out]
  exact ⟨rfl, hk2⟩

set_option maxRecDepth 20000

theorem flag_any (p : Nat) (A : Option Addr) (n c : Nat) (bs : List UInt8) (a : Nat) (w : World) (hr : IsR w p A n c bs a) :
  Calls Tryz.prog 98 #[.pointer (some ⟨p, 0, none⟩)] w (RPost (fun x v _ => v = .bool x) w p A n c bs (rFlag bs a)) := by
 go_enter Tryz.func98, Tryz.ntmps98
 go_wp2_with fail
 refine (one_any p A n c bs a _ hr).mono ?_
 intro e w' h
 rcases h.cases with ⟨x, a2, v, hres, rfl, rfl, hr2, hk2⟩ | ⟨f, hres, rfl, hk2⟩
 ·have hres' := Lib.hid hres; clear hres h
  by_cases hlt : 1 < x
  ·have t1 : decide (1 < (x : Int)) = true := decide_eq_true (by omega)
   go_wp2_with fail
   refine (fail_any p A n c bs a2 4 _ hr2).mono ?_; rintro e w' ⟨rfl, rfl⟩
   go_wp2_with fail
   refine ⟨rfl, ?_⟩
   unfold rFlag; rw [hres'.out]; simp only []; rw [if_pos hlt]
   exact ⟨rfl, hk2⟩
  ·have t1 : decide (1 < (x : Int)) = false := decide_eq_false (by omega)
   go_wp2_with fail
   go_ret
   unfold rFlag; rw [hres'.out]; simp only []; rw [if_neg hlt]
   exact ⟨_, rfl, congrArg Value.bool (beq_cast x 1), hr2, hk2⟩
 ·have hres' := Lib.hid hres; clear hres h
  go_wp2_with fail
  refine ⟨rfl, ?_⟩
  unfold rFlag; rw [hres'.out]
  exact ⟨rfl, hk2⟩
end Go.Proofs.YtbemnfbndjolpaaGreatDoor
