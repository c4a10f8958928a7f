/- Layer 3, plainly: records. No program. -/
import Derived.Test.YtocllhghbmbjpaaDoorPack
set_option linter.unusedSimpArgs false
set_option linter.unusedVariables false
namespace Moi

/-- A text out of its bytes. -/
def str (l : List UInt8) : ByteArray := ⟨l.toArray⟩
theorem str_data (l : List UInt8) : (str l).data.toList = l := rfl
theorem str_size (l : List UInt8) : (str l).size = l.length := by simp [str, ByteArray.size]
theorem str_inj {a b : List UInt8} (h : str a = str b) : a = b := by have := congrArg (fun s : ByteArray => s.data.toList) h; exact this
theorem str_of (s : ByteArray) : str s.data.toList = s := rfl

/-- Is a text ahead of another one, byte by byte? -/
def ltB : List UInt8 → List UInt8 → Bool
  | _, [] => false
  | [], _ :: _ => true
  | a :: l, b :: m => decide (a < b) || (a == b && ltB l m)

structure MItem where
  score : Nat
  name : List UInt8
  deriving DecidableEq
structure MRec where
  kind : Int
  num : Int
  low : Int
  high : Int
  real : Nat
  cap : Int
  text : List UInt8
  list : List MItem
  deriving DecidableEq

structure Shape where
  text : Bool
  num : Bool
  bounds : Bool
  real : Bool
  list : Bool
def shapeOf (k : Int) : Shape :=
  ⟨decide (k = 1), decide (k = 2 ∨ k = 3 ∨ k = 4), decide (k = 4), decide (k = 5 ∨ k = 6 ∨ k = 7), decide (k = 8 ∨ k = 9)⟩
def bareB (r : MRec) (s : Shape) : Bool :=
  (s.text || r.text == []) && (s.num || r.num == 0) && (s.bounds || (r.low == 0 && r.high == 0)) && (s.real || fsame r.real 0) && (s.list || (r.cap == 0 && r.list == []))
def better (a b : MItem) : Bool := if fsame a.score b.score then ltB a.name b.name else fless b.score a.score
/-- What is wrong with an item behind another one. -/
def itemErr (k : Int) (p : Option MItem) (x : MItem) : Nat :=
  if 16 < x.name.length then 3
  else if (k = 8 ∧ fsame x.score 0 = false) ∨ fproper x.score = false then 4
  else match p with
    | none => 0
    | some y => if k = 8 ∧ ltB y.name x.name = false then 4 else if k = 9 ∧ better y x = false then 4 else 0
def itemsErr (k : Int) : Option MItem → List MItem → Nat
  | _, [] => 0
  | p, x :: l => if itemErr k p x = 0 then itemsErr k (some x) l else itemErr k p x
def checkRec (r : MRec) : Nat :=
  if r.kind < 1 ∨ 9 < r.kind then 5
  else if bareB r (shapeOf r.kind) = false then 4
  else if 64 < r.text.length then 3
  else if r.kind = 4 ∧ (r.low < -2305843009213693952 ∨ 2305843009213693952 < r.high ∨ r.num < r.low ∨ r.high < r.num) then 1
  else if fproper r.real = false then 4
  else if r.kind < 8 then 0
  else if r.cap < 1 ∨ 32 < r.cap then 1
  else if r.cap < r.list.length then 8
  else itemsErr r.kind none r.list
def sameItems : List MItem → List MItem → Bool
  | [], [] => true
  | x :: l, y :: m => (x.name == y.name) && fsame x.score y.score && sameItems l m
  | _, _ => false
def sameRec (a b : MRec) : Bool :=
  a.kind == b.kind && a.num == b.num && a.low == b.low && a.high == b.high && fsame a.real b.real && a.cap == b.cap && a.text == b.text && sameItems a.list b.list
def bigRec (r : MRec) : Bool := decide (100 < r.list.length ∨ 1000 < r.text.length) || r.list.any fun x => decide (100 < x.name.length)
/-- Numbers within their kinds. -/
structure MRec.WF (r : MRec) : Prop where
  kind : -9223372036854775808 ≤ r.kind ∧ r.kind < 9223372036854775808
  num : -9223372036854775808 ≤ r.num ∧ r.num < 9223372036854775808
  low : -9223372036854775808 ≤ r.low ∧ r.low < 9223372036854775808
  high : -9223372036854775808 ≤ r.high ∧ r.high < 9223372036854775808
  real : r.real < 18446744073709551616
  cap : -9223372036854775808 ≤ r.cap ∧ r.cap < 9223372036854775808
def zeroRec : MRec := ⟨0, 0, 0, 0, 0, 0, [], []⟩
def wItems (top : Bool) (l : List MItem) : List UInt8 := l.flatMap fun x => (if top then wF x.score else []) ++ wS x.name
/-- A record as bytes. -/
def wRec (r : MRec) : List UInt8 :=
  wU r.kind.toNat ++ (if r.kind = 1 then wS r.text else if r.kind = 2 ∨ r.kind = 3 then wI r.num else if r.kind = 4 then wI r.low ++ (wI r.high ++ wI r.num)
    else if r.kind = 5 ∨ r.kind = 6 ∨ r.kind = 7 then wF r.real else wU r.cap.toNat ++ (wU r.list.length ++ wItems (decide (r.kind = 9)) r.list))
theorem check_ok {r : MRec} (h : checkRec r = 0) : 1 ≤ r.kind ∧ r.kind ≤ 9 ∧ 0 ≤ r.cap ∧ r.cap ≤ 32 := by
  unfold checkRec at h
  split at h
  · cases h
  · rename_i hk
    split at h
    · cases h
    · rename_i hb
      by_cases h8 : r.kind < 8
      · have hc : r.cap = 0 := by
          simp [bareB, shapeOf] at hb
          omega
        omega
      · repeat' split at h
        all_goals first | cases h | omega
end Moi
