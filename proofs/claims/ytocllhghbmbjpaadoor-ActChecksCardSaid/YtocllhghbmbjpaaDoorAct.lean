/- Layer 4, plainly: acts. No program. -/
import Derived.Test.YtocllhghbmbjpaaDoorRec
set_option linter.unusedSimpArgs false
set_option linter.unusedVariables false
namespace Moi
/-- The words of acts' kinds. -/
def actWords : List (List UInt8) := [[], [110, 101, 119], [100, 114, 111, 112], [105, 115], [108, 111, 111, 107], [112, 117, 116], [115, 119, 97, 112], [97, 100, 100], [112, 108, 117, 115], [114, 101, 97, 99, 104], [105, 110], [111, 117, 116], [101, 110, 111, 117, 103, 104], [114, 97, 105, 115, 101], [108, 111, 119, 101, 114], [115, 104, 105, 102, 116], [115, 99, 97, 108, 101], [102, 105, 120], [106, 111, 105, 110], [108, 101, 97, 118, 101], [104, 97, 115], [111, 102, 102, 101, 114]]
def actOns : List Nat := [0, 0, 0, 0, 0, 1, 1, 2, 3, 3, 4, 4, 4, 5, 6, 7, 7, 7, 8, 8, 8, 9]
def actFields : List (List UInt8) := [[], [109], [], [], [], [115], [115], [110], [110], [110], [110], [110], [110], [120], [120], [120], [120], [120], [115], [115], [115], [120, 115]]
/-- A kind's word, the kind of records that it is for, its fields. -/
def wordOf (k : Int) : List UInt8 := if 0 < k ∧ k < 22 then actWords.getD k.toNat [] else []
def onOf (k : Int) : Nat := if 0 < k ∧ k < 22 then actOns.getD k.toNat 0 else 0
def kindFs (k : Int) : List UInt8 := if 0 < k ∧ k < 22 then actFields.getD k.toNat [] else []
def hasF (k : Int) (c : UInt8) : Bool := (kindFs k).contains c
theorem wordOf_nil (k : Int) : (wordOf k = []) ↔ (k < 1 ∨ 21 < k) := by
  unfold wordOf
  split
  · rename_i h
    obtain ⟨n, rfl⟩ := Int.eq_ofNat_of_zero_le (show 0 ≤ k by omega)
    have h1 : n < 22 := by omega
    have h0 : 0 < n := by omega
    simp only [Int.toNat_natCast]
    have : ∀ n, n < 22 → 0 < n → actWords.getD n [] ≠ [] := by decide
    exact ⟨fun e => absurd e (this n h1 h0), fun e => by omega⟩
  · rename_i h
    exact ⟨fun _ => by omega, fun _ => rfl⟩
structure MAct where
  kind : Int
  key : List UInt8
  n : Int
  x : Nat
  s : List UInt8
  make : MRec
  must : Bool
  deriving DecidableEq
/-- Numbers within their kinds. -/
structure MAct.WF (a : MAct) : Prop where
  kind : -9223372036854775808 ≤ a.kind ∧ a.kind < 9223372036854775808
  n : -9223372036854775808 ≤ a.n ∧ a.n < 9223372036854775808
  x : a.x < 18446744073709551616
  make : a.make.WF
def mostOf (k : Int) : Nat := if onOf k = 1 then 64 else 16
def bareA (a : MAct) : Bool :=
  (hasF a.kind 110 || a.n == 0) && (hasF a.kind 120 || fsame a.x 0) && (hasF a.kind 115 || a.s == []) && (hasF a.kind 109 || sameRec a.make zeroRec)
/-- What is wrong with an act. -/
def checkAct (a : MAct) : Nat :=
  if a.kind < 1 ∨ 21 < a.kind then 5
  else if a.key.length < 1 ∨ 24 < a.key.length then 1
  else if bareA a = false then 4
  else if mostOf a.kind < a.s.length then 3
  else if (a.kind = 10 ∨ a.kind = 11) ∧ (a.n < 0 ∨ 2305843009213693952 < a.n) then 1
  else if fproper a.x = false then 4
  else if a.kind = 1 then checkRec a.make
  else 0
def sameAct (a b : MAct) : Bool :=
  a.kind == b.kind && a.key == b.key && a.n == b.n && fsame a.x b.x && a.s == b.s && sameRec a.make b.make && a.must == b.must
def bigAct (a : MAct) : Bool := decide (200 < a.key.length ∨ 1000 < a.s.length) || bigRec a.make
def zeroAct : MAct := ⟨0, [], 0, 0, [], zeroRec, false⟩
/-- An act as bytes. -/
def wAct (a : MAct) : List UInt8 :=
  wU a.kind.toNat ++ (wFlag a.must ++ (wS a.key ++ ((if hasF a.kind 110 then wI a.n else []) ++ ((if hasF a.kind 120 then wF a.x else []) ++ ((if hasF a.kind 115 then wS a.s else []) ++ (if hasF a.kind 109 then wRec a.make else []))))))
end Moi
