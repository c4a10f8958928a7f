/- Layer 3, plainly: an error's number is never 0. No program. -/
import Derived.Test.YtocllhghbmbjpaaDoorRecRd
set_option linter.unusedSimpArgs false
set_option linter.unusedVariables false
namespace Moi
section
variable {b : List UInt8} {e : RErr}
theorem nz_of {α : Type} {x : RErr} (h : (Except.error x : RRes α) = .error e) (hx : x.1 ≠ 0) : e.1 ≠ 0 := by injection h with h; subst h; exact hx
theorem rOne_nz {a : Nat} (h : rOne b a = .error e) : e.1 ≠ 0 := by rw [(rOne_err h).1]; simp
theorem rUgo_nz : ∀ {k i n a : Nat}, rUgo b k i n a = .error e → e.1 ≠ 0
  | 0, _, _, _, h => nz_of h (by simp)
  | k + 1, i, n, a, h => by
    unfold rUgo at h
    split at h
    · rename_i h1; exact nz_of h (rOne_nz h1)
    · repeat' split at h
      all_goals first | exact nz_of h (by simp) | exact rUgo_nz h | cases h
theorem rU_nz {a : Nat} (h : rU b a = .error e) : e.1 ≠ 0 := rUgo_nz h
theorem rUpto_nz {m a : Nat} (h : rUpto m b a = .error e) : e.1 ≠ 0 := by
  unfold rUpto at h
  split at h
  · rename_i h1; exact nz_of h (rU_nz h1)
  · split at h
    · exact nz_of h (by simp)
    · cases h
theorem rI_nz {a : Nat} (h : rI b a = .error e) : e.1 ≠ 0 := by
  unfold rI at h
  split at h
  · rename_i h1; exact nz_of h (rU_nz h1)
  · cases h
theorem rPlaceGo_nz : ∀ {i k a : Nat}, rPlaceGo b i k a = .error e → e.1 ≠ 0
  | 0, _, _, h => by cases h
  | i + 1, k, a, h => by
    unfold rPlaceGo at h
    split at h
    · rename_i h1; exact nz_of h (rOne_nz h1)
    · exact rPlaceGo_nz h
theorem rF_nz {a : Nat} (h : rF b a = .error e) : e.1 ≠ 0 := by
  unfold rF at h
  split at h
  · rename_i h1; exact nz_of h (rPlaceGo_nz h1)
  · split at h
    · exact nz_of h (by simp)
    · cases h
theorem rS_nz {m a : Nat} (h : rS m b a = .error e) : e.1 ≠ 0 := by
  unfold rS at h
  split at h
  · rename_i h1; exact nz_of h (rU_nz h1)
  · repeat' split at h
    all_goals first | exact nz_of h (by simp) | cases h
theorem rEnd_nz {a : Nat} (h : rEnd b a = .error e) : e.1 ≠ 0 := by
  unfold rEnd at h
  split at h
  · exact nz_of h (by simp)
  · cases h
theorem rDone_nz {r : MRec} {a : Nat} (h : rDone r a = .error e) : e.1 ≠ 0 := by
  unfold rDone at h
  split at h
  · cases h
  · rename_i h1; exact nz_of h h1
theorem rItemsGo_nz {top : Bool} : ∀ {k : Nat} {acc : List MItem} {a : Nat}, rItemsGo top b k acc a = .error e → e.1 ≠ 0
  | 0, _, _, h => by cases h
  | k + 1, acc, a, h => by
    unfold rItemsGo at h
    split at h
    · rename_i h1
      split at h1
      · exact nz_of h (rF_nz h1)
      · cases h1
    · split at h
      · rename_i h1; exact nz_of h (rS_nz h1)
      · exact rItemsGo_nz h
theorem rBody_nz {k a : Nat} (h : rBody k b a = .error e) : e.1 ≠ 0 := by
  unfold rBody at h
  repeat' split at h
  all_goals first
    | exact rDone_nz h
    | (rename_i h1; exact nz_of h (rS_nz h1))
    | (rename_i h1; exact nz_of h (rI_nz h1))
    | (rename_i h1; exact nz_of h (rF_nz h1))
    | (rename_i h1; exact nz_of h (rUpto_nz h1))
    | (rename_i h1; exact nz_of h (rItemsGo_nz h1))
theorem rRec_nz {a : Nat} (h : rRec b a = .error e) : e.1 ≠ 0 := by
  unfold rRec at h
  split at h
  · rename_i h1; exact nz_of h (rUpto_nz h1)
  · split at h
    · exact nz_of h (by simp)
    · exact rBody_nz h
end
/-- What a reader of one record answers. -/
def readOut (bs : List UInt8) : MRec × RErr := match rRec bs 0 with
  | .error e => (zeroRec, e)
  | .ok (r, a) => match rEnd bs a with
    | .error e => (zeroRec, e)
    | .ok _ => (r, (0, 0))
end Moi
