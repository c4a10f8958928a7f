/- Layer 4, plainly: acts that are read. No program. -/
import Derived.Test.YtocllhghbmbjpaaDoorAct
import Derived.Test.YtocllhghbmbjpaaDoorRecErr
set_option linter.unusedSimpArgs false
set_option linter.unusedVariables false
namespace Moi
/-- An act that was read, if it may be. -/
def aDone (x : MAct) (a : Nat) : RRes MAct := if checkAct x = 0 then .ok (x, a) else .error (checkAct x, a)
def aM (k : Nat) (must : Bool) (key : List UInt8) (n : Int) (x : Nat) (s : List UInt8) (b : List UInt8) (a : Nat) : RRes MAct :=
  match (if hasF k 109 then rRec b a else .ok (zeroRec, a)) with
  | .error e => .error e
  | .ok (m, a) => aDone ⟨k, key, n, x, s, m, must⟩ a
def aS (k : Nat) (must : Bool) (key : List UInt8) (n : Int) (x : Nat) (b : List UInt8) (a : Nat) : RRes MAct :=
  match (if hasF k 115 then rS (mostOf k) b a else .ok ([], a)) with
  | .error e => .error e
  | .ok (s, a) => aM k must key n x s b a
def aX (k : Nat) (must : Bool) (key : List UInt8) (n : Int) (b : List UInt8) (a : Nat) : RRes MAct :=
  match (if hasF k 120 then rF b a else .ok (0, a)) with
  | .error e => .error e
  | .ok (x, a) => aS k must key n x b a
def aN (k : Nat) (must : Bool) (key : List UInt8) (b : List UInt8) (a : Nat) : RRes MAct :=
  match (if hasF k 110 then rI b a else .ok (0, a)) with
  | .error e => .error e
  | .ok (n, a) => aX k must key n b a
def aKey (k : Nat) (must : Bool) (b : List UInt8) (a : Nat) : RRes MAct :=
  match rS 24 b a with
  | .error e => .error e
  | .ok (key, a) => aN k must key b a
def aMust (k : Nat) (b : List UInt8) (a : Nat) : RRes MAct :=
  match rFlag b a with
  | .error e => .error e
  | .ok (must, a) => aKey k must b a
/-- The act that comes next. -/
def rAct (b : List UInt8) (a : Nat) : RRes MAct :=
  match rUpto 21 b a with
  | .error e => .error e
  | .ok (k, a) => if k = 0 then .error (5, a) else aMust k b a
/-- What a reader of one act answers. -/
def readAct (bs : List UInt8) : MAct × RErr := match rAct bs 0 with
  | .error e => (zeroAct, e)
  | .ok (r, a) => match rEnd bs a with
    | .error e => (zeroAct, e)
    | .ok _ => (r, (0, 0))
theorem rFlag_nz {b : List UInt8} {e : RErr} {a : Nat} (h : rFlag b a = .error e) : e.1 ≠ 0 := by
  unfold rFlag at h
  split at h
  · rename_i h1; exact nz_of h (rOne_nz h1)
  · split at h
    · exact nz_of h (by simp)
    · cases h
theorem aDone_nz {x : MAct} {a : Nat} {e : RErr} (h : aDone x a = .error e) : e.1 ≠ 0 := by
  unfold aDone at h
  split at h
  · cases h
  · rename_i h1; exact nz_of h h1
theorem rAct_nz {b : List UInt8} {a : Nat} {e : RErr} (h : rAct b a = .error e) : e.1 ≠ 0 := by
  unfold rAct at h
  split at h
  · rename_i h1; exact nz_of h (rUpto_nz h1)
  split at h
  · exact nz_of h (by simp)
  unfold aMust at h
  split at h
  · rename_i h1; exact nz_of h (rFlag_nz h1)
  unfold aKey at h
  split at h
  · rename_i h1; exact nz_of h (rS_nz h1)
  unfold aN at h
  split at h
  · rename_i h1; split at h1
    · exact nz_of h (rI_nz h1)
    · cases h1
  unfold aX at h
  split at h
  · rename_i h1; split at h1
    · exact nz_of h (rF_nz h1)
    · cases h1
  unfold aS at h
  split at h
  · rename_i h1; split at h1
    · exact nz_of h (rS_nz h1)
    · cases h1
  unfold aM at h
  split at h
  · rename_i h1; split at h1
    · exact nz_of h (rRec_nz h1)
    · cases h1
  exact aDone_nz h
end Moi
