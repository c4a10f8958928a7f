/- The walks of pack's Reader. -/
import Derived.Test.YtocllhghbmbjpaaDoorWFlo
import Derived.Test.YtocllhghbmbjpaaDoorMem
import Derived.Test.YtocllhghbmbjpaaDoorPlain
set_option linter.unusedSimpArgs false
set_option linter.unusedVariables false
namespace Go.Proofs.YtocllhghbmbjpaaDoor
open Go.RowKit Moi

/-- A Reader at block p, over the bytes bs, of which a were read. -/
structure IsR (w : World) (p : Nat) (A : Option Addr) (n c : Nat) (bs : List UInt8) (a : Nat) : Prop where
  blk : Blk w p 87 #[.slice A n c, .int .i64 (a : Nat)]
  rd : RdBytes w A n bs
  le : a ≤ n
  cap : n ≤ c
  big : n ≤ 140737488355328
  ne : ∀ ad, A = some ad → ad.block ≠ p

def faultVal (e : RErr) : Value := .iface 41 (.agg #[.int .i64 (e.1 : Nat), .int .i64 (e.2 : Nat)])
def faultChain (e : RErr) : List PanicEntry := [{ v := faultVal e, recovered := false }]

/-- What a Reader's call comes to. -/
def RPost {α : Type} (enc : α → Value → World → Prop) (w : World) (p : Nat) (A : Option Addr) (n c : Nat) (bs : List UInt8) (res : RRes α) (e : Ending) (w' : World) : Prop :=
  match res with
  | .ok (x, a) => ∃ v, e = .returned v ∧ enc x v w' ∧ IsR w' p A n c bs a ∧ Kept (· = p) w w'
  | .error f => e = .panicked (faultChain f) ∧ Kept (· = p) w w'
def encNat (k : IntKind) (x : Nat) (v : Value) (_ : World) : Prop := v = .int k (x : Nat)

theorem RPost.cases {α : Type} {enc : α → Value → World → Prop} {w : World} {p : Nat} {A : Option Addr} {n c : Nat} {bs : List UInt8} {res : RRes α} {e : Ending} {w' : World}
    (h : RPost enc w p A n c bs res e w') :
    (∃ x a v, res = .ok (x, a) ∧ e = .returned v ∧ enc x v w' ∧ IsR w' p A n c bs a ∧ Kept (· = p) w w') ∨ (∃ f, res = .error f ∧ e = .panicked (faultChain f) ∧ Kept (· = p) w w') := by
  unfold RPost at h
  split at h
  · obtain ⟨v, h1, h2, h3, h4⟩ := h; exact .inl ⟨_, _, v, rfl, h1, h2, h3, h4⟩
  · exact .inr ⟨_, rfl, h.1, h.2⟩

theorem fail_any (p : Nat) (A : Option Addr) (n c : Nat) (bs : List UInt8) (a e0 : Nat) (w : World) (hr : IsR w p A n c bs a) :
    Calls Tryd.prog 74 #[.pointer (some ⟨p, 0, none⟩), .int .i64 (e0 : Nat)] w fun e w' => e = .panicked (faultChain (e0, a)) ∧ w = w' := by
  have hc := hr.blk.cell
  go_enter Tryd.func74, Tryd.ntmps74
  go_wp2_with fail
  exact ⟨rfl, rfl, rfl⟩
theorem Fail_any (p : Nat) (A : Option Addr) (n c : Nat) (bs : List UInt8) (a e0 : Nat) (w : World) (hr : IsR w p A n c bs a) :
    Calls Tryd.prog 58 #[.pointer (some ⟨p, 0, none⟩), .int .i64 (e0 : Nat)] w fun e w' => e = .panicked (faultChain (e0, a)) ∧ w = w' := by
  go_enter Tryd.func58, Tryd.ntmps58
  go_wp2_with fail
  refine (fail_any p A n c bs a e0 _ hr).mono ?_; rintro e w' ⟨rfl, rfl⟩
  go_wp2_with fail
  exact ⟨rfl, rfl, rfl⟩

section
variable {w w' : World} {p : Nat} {A : Option Addr} {n c : Nat} {bs : List UInt8} {a : Nat}
theorem IsR.drewN (h : IsR w p A n c bs a) (k : Nat) : IsR (w.drewN k) p A n c bs a := ⟨h.blk, h.rd.drewN k, h.le, h.cap, h.big, h.ne⟩
theorem IsR.drew (h : IsR w p A n c bs a) : IsR w.drew p A n c bs a := ⟨h.blk, h.rd.drew, h.le, h.cap, h.big, h.ne⟩
theorem IsR.kept {S : Nat → Prop} (h : IsR w p A n c bs a) (k : Kept S w w') (hp : ¬ S p) (hA : ∀ ad, A = some ad → ¬ S ad.block) : IsR w' p A n c bs a :=
  ⟨h.blk.kept k hp, h.rd.kept k fun ad e _ => hA ad e, h.le, h.cap, h.big, h.ne⟩
theorem IsR.cln (h : IsR w p A n c bs a) (k : Cln w w') : IsR w' p A n c bs a :=
  h.kept (Kept.of_below (S := fun _ => False) k) (fun h => h) fun _ _ h => h
theorem IsR.alloc (h : IsR w p A n c bs a) (o : Obj) : IsR (w.alloc o) p A n c bs a := h.cln ((Below.refl _ _).alloc (Nat.le_refl _) o)
theorem IsR.other (h : IsR w p A n c bs a) {q : Addr} (hp : p ≠ q.block) (hA : ∀ ad, A = some ad → ad.block ≠ q.block) (u : Value) : IsR (w.setCell q u) p A n c bs a :=
  h.kept (keptSetA w q u) hp hA
theorem IsR.set (h : IsR w p A n c bs a) (a' : Nat) (h' : a' ≤ n) (x : Int) (hx : x = (a' : Nat)) : IsR (w.setCell ⟨p, 1, none⟩ (.int .i64 x)) p A n c bs a' := by
  subst hx
  refine ⟨h.blk.set_ 1 _, h.rd.kept (keptSet w p 1 _) (fun ad e _ => h.ne ad e), h', h.cap, h.big, h.ne⟩
end

theorem one_any (p : Nat) (A : Option Addr) (n c : Nat) (bs : List UInt8) (a : Nat) (w : World) (hr : IsR w p A n c bs a) :
    Calls Tryd.prog 87 #[.pointer (some ⟨p, 0, none⟩)] w (RPost (encNat .u8) w p A n c bs (rOne bs a)) := by
  have hc := hr.blk.cell
  have hf := hr.blk.frozen
  have hn := hr.rd.len
  have hbig : n ≤ 140737488355328 := hr.big
  by_cases hlt : a < n
  · obtain ⟨b, o, rfl, hb, hcell⟩ := hr.rd.cells (by omega)
    have hne : b ≠ p := hr.ne _ rfl
    have h1 := hcell a hlt
    have hle : decide ((n : Int) ≤ (a : Int)) = false := by simp; omega
    have hs1 : IntKind.i64.wrap ((a : Int) + 1) = (a : Int) + 1 := IntWalk.i64_in _ (by omega)
    have hs2 : IntKind.i64.wrap ((a : Int) + 1 - 1) = (a : Int) := by rw [IntWalk.i64_in _ (by omega)]; omega
    have hi1 : (0 : Int) ≤ (a : Int) := by omega
    have hi2 : (a : Int) < (n : Int) := by omega
    have hfin : rOne bs a = .ok (byteAt bs a, a + 1) := by unfold rOne; rw [if_pos (by omega)]; rfl
    rw [hfin]; clear hfin
    clear hn
    go_enter Tryd.func87, Tryd.ntmps87
    go_wp2_with fail
    go_quiet (fail)
    go_wp2_with fail
    go_quiet (fail)
    go_wp2_with fail
    go_ret
    exact ⟨_, rfl, rfl, ((hr.drewN _).set (a + 1) (by omega) _ (by omega)).drewN _, (((Kept.refl _ w).drewN _).trans (keptSet _ _ _ _)).drewN _⟩
  · have hle : decide ((n : Int) ≤ (a : Int)) = true := by simp; omega
    have hfin : rOne bs a = .error (2, a) := by unfold rOne; rw [if_neg (by omega)]
    rw [hfin]; clear hfin
    clear hn
    go_enter Tryd.func87, Tryd.ntmps87
    go_wp2_with fail
    go_quiet (fail)
    go_wp2_with fail
    refine (fail_any p A n c bs a 2 _ (hr.drewN _)).mono ?_; rintro e w' ⟨rfl, rfl⟩
    go_wp2_with fail
    exact ⟨rfl, rfl, (Kept.refl _ w).drewN _⟩

theorem left_any (p : Nat) (A : Option Addr) (n c : Nat) (bs : List UInt8) (a : Nat) (w : World) (hr : IsR w p A n c bs a) :
    Calls Tryd.prog 29 #[.pointer (some ⟨p, 0, none⟩)] w fun e w' => e = .returned (.int .i64 ((n : Int) - (a : Nat))) ∧ ∃ k, w.drewN k = w' := by
  have hc := hr.blk.cell
  have hle := hr.le
  have hbig : n ≤ 140737488355328 := hr.big
  have hs1 : IntKind.i64.wrap ((n : Int) - (a : Int)) = (n : Int) - (a : Int) := IntWalk.i64_in _ (by omega)
  go_enter Tryd.func29, Tryd.ntmps29
  go_wp2_with fail
  go_quiet (fail)
  go_wp2_with fail
  go_ret
  exact ⟨rfl, _, rfl⟩

theorem new_any (A : Option Addr) (n c : Nat) (bs : List UInt8) (w : World) (hr : RdBytes w A n bs) (hc : n ≤ c) (hb : n ≤ 140737488355328) (hA : ∀ ad, A = some ad → ad.block < w.heap.size) :
    Calls Tryd.prog 26 #[.slice A n c] w fun e w' => e = .returned (.pointer (some ⟨w.heap.size, 0, none⟩)) ∧ IsR w' w.heap.size A n c bs 0 ∧ Cln w w' := by
  go_enter Tryd.func26, Tryd.ntmps26
  go_wp2_with fail
  go_ret
  refine ⟨rfl, ⟨Blk.new w _ _, hr.cln ((Below.refl _ _).alloc (Nat.le_refl _) _), Nat.zero_le _, hc, hb, fun ad e => by have := hA ad e; omega⟩, (Below.refl _ _).alloc (Nat.le_refl _) _⟩

theorem end_any (p : Nat) (A : Option Addr) (n c : Nat) (bs : List UInt8) (a : Nat) (w : World) (hr : IsR w p A n c bs a) :
    Calls Tryd.prog 44 #[.pointer (some ⟨p, 0, none⟩)] w (RPost (fun _ v _ => v = .tuple #[]) w p A n c bs (rEnd bs a)) := by
  have hn := hr.rd.len
  have hbig : n ≤ 140737488355328 := hr.big
  have hle := hr.le
  by_cases hlt : a < n
  · have ht : decide ((0 : Int) < (n : Int) - (a : Int)) = true := by simp; omega
    have hfin : rEnd bs a = .error (3, a) := by unfold rEnd; rw [if_pos (by omega)]
    rw [hfin]; clear hfin hn
    go_enter Tryd.func44, Tryd.ntmps44
    go_wp2_with fail
    refine (left_any p A n c bs a _ hr).mono ?_; rintro e w' ⟨rfl, k, rfl⟩
    go_wp2_with fail
    refine (fail_any p A n c bs a 3 _ (hr.drewN _)).mono ?_; rintro e w' ⟨rfl, rfl⟩
    go_wp2_with fail
    exact ⟨rfl, rfl, (Kept.refl _ w).drewN _⟩
  · have ht : decide ((0 : Int) < (n : Int) - (a : Int)) = false := by simp; omega
    have hfin : rEnd bs a = .ok ((), a) := by unfold rEnd; rw [if_neg (by omega)]
    rw [hfin]; clear hfin hn
    go_enter Tryd.func44, Tryd.ntmps44
    go_wp2_with fail
    refine (left_any p A n c bs a _ hr).mono ?_; rintro e w' ⟨rfl, k, rfl⟩
    go_wp2_with fail
    go_end0
    exact ⟨_, rfl, rfl, hr.drewN _, (Kept.refl _ w).drewN _⟩
end Go.Proofs.YtocllhghbmbjpaaDoor
