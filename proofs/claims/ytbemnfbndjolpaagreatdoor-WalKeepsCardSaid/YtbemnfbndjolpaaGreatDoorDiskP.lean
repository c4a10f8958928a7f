import Derived.Below
/- Disks, sealed sectors and rolls, plainly. No program. -/
set_option linter.unusedSimpArgs false
set_option linter.unusedVariables false
namespace Moi
abbrev Sec := List UInt8
def zsec : Sec := List.replicate 64 0
theorem blank_len : zsec.length = 64 := by simp [zsec]
structure MDisk where
 firm : List Sec
 pend : List (Nat × Sec)
 left : Int
 down : Bool
 writes : Int
structure MDisk.WF (d : MDisk) : Prop where
 firm : ∀ s ∈ d.firm, s.length = 64
 pend : ∀ p ∈ d.pend, p.1 < d.firm.length ∧ p.2.length = 64
def layAll (f : List Sec) (p : List (Nat × Sec)) : List Sec := p.foldl (fun f x => f.set x.1 x.2) f
theorem layAll_len (f : List Sec) (p : List (Nat × Sec)) : (layAll f p).length = f.length := by
 unfold layAll
 induction p generalizing f with
 | nil => rfl
 | cons x p ih => rw [List.foldl_cons, ih]; simp
theorem layAll_append (f : List Sec) (p q : List (Nat × Sec)) : layAll f (p ++ q) = layAll (layAll f p) q := by unfold layAll; rw [List.foldl_append]
def MDisk.cur (d : MDisk) : List Sec := layAll d.firm d.pend
def MDisk.okAt (d : MDisk) (i : Int) : Nat := if d.down then 14 else if i < 0 ∨ (d.firm.length : Int) ≤ i then 1 else 0
def MDisk.write (d : MDisk) (i : Nat) (s : Sec) : MDisk :=
 ⟨d.firm, d.pend ++ [(i, s)], if 0 < d.left then d.left - 1 else d.left, if 0 < d.left then d.left - 1 == 0 else d.down, d.writes + 1⟩
def MDisk.sync (d : MDisk) : MDisk := ⟨d.cur, [], d.left, d.down, d.writes⟩
def newDisk (n : Nat) : MDisk := ⟨List.replicate n zsec, [], 0, false, 0⟩
def wrapS (b : List UInt8) : Sec := 1 :: UInt8.ofNat b.length :: (b ++ (List.replicate (61 - b.length) 0 ++ [1]))
def openS (s : Sec) : Option (List UInt8) :=
 let n := (s.getD 1 0).toNat
 if s.getD 0 0 ≠ 1 ∨ s.getD 63 0 ≠ 1 ∨ 61 < n then none
 else if ((s.drop (2 + n)).take (61 - n)).all (· == 0) then some ((s.drop 2).take n) else none
theorem wrapS_len (b : List UInt8) (h : b.length ≤ 61) : (wrapS b).length = 64 := by simp [wrapS]; omega
theorem openS_wrapS (b : List UInt8) (h : b.length ≤ 61) : openS (wrapS b) = some b := by
 have h1 : ((wrapS b).getD 1 0).toNat = b.length := by simp [wrapS]; omega
 have h0 : (wrapS b).getD 0 0 = 1 := rfl
 have h63 : (wrapS b).getD 63 0 = 1 := by
  unfold wrapS
  rw [List.getD_eq_getElem?_getD, List.getElem?_cons_succ, List.getElem?_cons_succ, List.getElem?_append_right (by omega), List.getElem?_append_right (by simp)]
  rw [show 61 - b.length - (List.replicate (61 - b.length) (0 : UInt8)).length = 0 from by simp]
  rfl
 have hd : (wrapS b).drop (2 + b.length) = List.replicate (61 - b.length) 0 ++ [1] := by
  unfold wrapS
  rw [show 2 + b.length = b.length + 1 + 1 from by omega, List.drop_succ_cons, List.drop_succ_cons, List.drop_left]
 have hc : ¬ ((wrapS b).getD 0 0 ≠ 1 ∨ (wrapS b).getD 63 0 ≠ 1 ∨ 61 < ((wrapS b).getD 1 0).toNat) := by rw [h0, h63, h1]; simp; omega
 unfold openS
 simp only
 rw [if_neg hc, h1, hd, if_pos]
 ·show some ((b ++ (List.replicate (61 - b.length) 0 ++ [1])).take b.length) = some b
  rw [List.take_left]
 ·rw [List.take_left' (by simp)]; simp
theorem openS_blank : openS zsec = none := by decide
def needS (n : Nat) : Nat := max ((n + 59) / 60) 1
def chunkS (b : List UInt8) (i : Nat) : List UInt8 := (b.drop (60 * i)).take 60
def secsS (b : List UInt8) : List Sec := (List.range (needS b.length)).map fun i => wrapS (UInt8.ofNat (needS b.length - 1 - i) :: chunkS b i)
def oneGo : List Sec → Nat → Nat → List UInt8 → Option (List UInt8 × Nat)
 | [], _, _, _ => none
 | s :: r, first, n, acc =>
  match openS s with
  | none => none
  | some [] => none
  | some (c :: b) =>
   let f := if n = 0 then c.toNat else first
   if c.toNat + n ≠ f ∨ 63 < c.toNat ∨ (0 < c.toNat ∧ b.length ≠ 60) ∨ (0 < n ∧ c.toNat = 0 ∧ b.length = 0) then none
   else if c.toNat = 0 then some (acc ++ b, n + 1) else oneGo r f (n + 1) (acc ++ b)
def oneS (l : List Sec) : Option (List UInt8 × Nat) := oneGo l 0 0 []
def scanGo : Nat → List Sec → List (List UInt8) → Nat → List (List UInt8) × Nat
 | 0, _, acc, at_ => (acc, at_)
 | k + 1, l, acc, at_ =>
  match oneS l with
  | none => (acc, at_)
  | some (b, n) => scanGo k (l.drop n) (acc ++ [b]) (at_ + n)
def scanS (l : List Sec) : List (List UInt8) × Nat := scanGo l.length l [] 0

theorem need_pos (n : Nat) : 1 ≤ needS n := by unfold needS; omega
theorem secs_len (b : List UInt8) : (secsS b).length = needS b.length := by simp [secsS]
theorem chunk_len (b : List UInt8) (i : Nat) : (chunkS b i).length ≤ 60 := by simp [chunkS]; omega
theorem secs_each (b : List UInt8) : ∀ s ∈ secsS b, s.length = 64 := by
 intro s hs
 obtain ⟨i, _, rfl⟩ := List.mem_map.1 hs
 exact wrapS_len _ (by have := chunk_len b i; simp; omega)
def secsFrom (b : List UInt8) (i : Nat) : List Sec := (secsS b).drop i
theorem secsFrom_step (b : List UInt8) (i : Nat) (h : i < needS b.length) : secsFrom b i = wrapS (UInt8.ofNat (needS b.length - 1 - i) :: chunkS b i) :: secsFrom b (i + 1) := by
 unfold secsFrom
 rw [List.drop_eq_getElem_cons (by rw [secs_len]; exact h)]
 simp [secsS]
theorem chunk_full (b : List UInt8) (i : Nat) (h : i + 1 < needS b.length) : (chunkS b i).length = 60 := by
 unfold needS at h; simp [chunkS]; omega
theorem chunk_some (b : List UInt8) (i : Nat) (h : i < needS b.length) (h0 : 0 < i) : 0 < (chunkS b i).length := by
 unfold needS at h; simp [chunkS]; omega
theorem take_chunk (b : List UInt8) (i : Nat) : b.take (60 * i) ++ chunkS b i = b.take (60 * (i + 1)) := by
 unfold chunkS
 rw [show 60 * (i + 1) = 60 * i + 60 from by omega, List.take_add]
theorem oneGo_secs (b : List UInt8) (hb : b.length ≤ 3840) (r : List Sec) : ∀ (k i : Nat), i + k = needS b.length → 0 < k → (i = 0 → True) →
  oneGo (secsFrom b i ++ r) (needS b.length - 1) i (b.take (60 * i)) = some (b, needS b.length)
 | 0, _, _, h, _ => absurd h (by omega)
 | k + 1, i, hk, _, _ => by
  have hn : needS b.length ≤ 64 := by unfold needS; omega
  rw [secsFrom_step b i (by omega), List.cons_append, oneGo, openS_wrapS _ (by have := chunk_len b i; simp; omega)]
  simp only
  have hc : (UInt8.ofNat (needS b.length - 1 - i)).toNat = needS b.length - 1 - i := by simp; omega
  rw [hc]
  have hf : (if i = 0 then needS b.length - 1 - i else needS b.length - 1) = needS b.length - 1 := by split <;> omega
  rw [hf, if_neg, take_chunk]
  ·by_cases h0 : k = 0
   ·subst h0
    rw [if_pos (by omega)]
    have : b.take (60 * (i + 1)) = b := List.take_of_length_le (by have e9 : i + 1 = needS b.length := (by omega); rw [e9]; unfold needS; omega)
    rw [this, show i + 1 = needS b.length from by omega]
   ·rw [if_neg (by omega)]
    exact oneGo_secs b hb r k (i + 1) (by omega) (by omega) (fun _ => trivial)
  ·have h1 := fun h => chunk_full b i h
   have h2 := fun h => chunk_some b i (by omega) h
   omega
theorem one_secs (b : List UInt8) (hb : b.length ≤ 3840) (r : List Sec) : oneS (secsS b ++ r) = some (b, needS b.length) := by
 have h := oneGo_secs b hb r (needS b.length) 0 (by omega) (need_pos _) (fun _ => trivial)
 have e : secsFrom b 0 = secsS b := rfl
 rw [e] at h
 unfold oneS
 have hn := need_pos b.length
 -- the first number is taken from the sector itself
 have step : ∀ f, oneGo (secsS b ++ r) f 0 [] = oneGo (secsS b ++ r) 0 0 [] := fun f => by
  cases hs : secsS b ++ r with
  | nil => rfl
  | cons s t =>
   simp only [oneGo]
   cases openS s with
   | none => rfl
   | some x => cases x <;> simp
 rw [← step (needS b.length - 1)]
 simpa using h
theorem one_none {s : Sec} (h : openS s = none) (r : List Sec) : oneS (s :: r) = none := by simp [oneS, oneGo, h]
def layS (es : List (List UInt8)) : List Sec := es.flatMap secsS
theorem lay_append (a b : List (List UInt8)) : layS (a ++ b) = layS a ++ layS b := by simp [layS]
theorem scanGo_lay : ∀ (es : List (List UInt8)) (r : List Sec) (k : Nat) (acc : List (List UInt8)) (a : Nat), (∀ b ∈ es, b.length ≤ 3840) → oneS r = none → es.length < k →
  scanGo k (layS es ++ r) acc a = (acc ++ es, a + (layS es).length)
 | [], r, k + 1, acc, a, _, hr, _ => by simp [layS, scanGo, hr]
 | b :: es, r, k + 1, acc, a, hb, hr, hk => by
  have e : layS (b :: es) ++ r = secsS b ++ (layS es ++ r) := by simp [layS]
  rw [e, scanGo, one_secs b (hb b (by simp))]
  simp only
  rw [List.drop_left' (secs_len b), scanGo_lay es r k _ _ (fun x hx => hb x (by simp [hx])) hr (by simpa using hk)]
  simp [layS, secs_len, Nat.add_assoc]
theorem lay_len_le (es : List (List UInt8)) : es.length ≤ (layS es).length := by
 induction es with
 | nil => simp [layS]
 | cons b es ih =>
  have := need_pos b.length
  simp only [layS, List.flatMap_cons, List.length_append, List.length_cons, secs_len] at *
  omega
theorem scan_lay (es : List (List UInt8)) (r : List Sec) (hb : ∀ b ∈ es, b.length ≤ 3840) (hr : oneS r = none) : scanS (layS es ++ r) = (es, (layS es).length) := by
 unfold scanS
 have hl := lay_len_le es
 by_cases h : es.length < (layS es ++ r).length
 ·rw [scanGo_lay es r _ [] 0 hb hr h]; simp
 ·-- then there is nothing at all
  have h1 : (layS es ++ r).length = (layS es).length + r.length := by simp
  have hr0 : r = [] := List.eq_nil_of_length_eq_zero (by omega)
  subst hr0
  have h2 := scanGo_lay es [] ((layS es ++ []).length + 1) [] 0 hb hr (by omega)
  have fuel : ∀ (es : List (List UInt8)) (k : Nat) (acc : List (List UInt8)) (a : Nat), (∀ b ∈ es, b.length ≤ 3840) → es.length ≤ k → scanGo k (layS es ++ []) acc a = (acc ++ es, a + (layS es).length) := by
   intro es
   induction es with
   | nil =>
    intro k acc a _ _
    cases k with
    | zero => simp [layS, scanGo]
    | succ k => simp [layS, scanGo, oneS, oneGo]
   | cons b es ih =>
    intro k acc a hb hk
    cases k with
    | zero => simp at hk
    | succ k =>
     have e : layS (b :: es) ++ [] = secsS b ++ (layS es ++ []) := by simp [layS]
     rw [e, scanGo, one_secs b (hb b (by simp))]
     simp only
     rw [List.drop_left' (secs_len b), ih k _ _ (fun x hx => hb x (by simp [hx])) (by simpa using hk)]
     simp [layS, secs_len, Nat.add_assoc]
  rw [fuel es _ [] 0 hb (by simp; omega)]; simp
theorem one_blanks (k : Nat) : oneS (List.replicate k zsec) = none := by
 cases k with
 | zero => rfl
 | succ k => rw [List.replicate_succ]; exact one_none openS_blank _
theorem cur_len (d : MDisk) : d.cur.length = d.firm.length := layAll_len _ _
theorem cur_write (d : MDisk) (i : Nat) (s : Sec) : (d.write i s).cur = d.cur.set i s := by
 unfold MDisk.cur MDisk.write; simp only [layAll_append]; rfl
theorem layAll_each : ∀ (p : List (Nat × Sec)) (f : List Sec), (∀ s ∈ f, s.length = 64) → (∀ x ∈ p, x.1 < f.length ∧ x.2.length = 64) → ∀ s ∈ layAll f p, s.length = 64
 | [], f, hf, _ => hf
 | x :: p, f, hf, hp => by
  refine layAll_each p (f.set x.1 x.2) (fun s hs => ?_) (fun y hy => by rw [List.length_set]; exact hp y (by simp [hy]))
  rcases List.mem_or_eq_of_mem_set hs with h | h
  ·exact hf s h
  ·rw [h]; exact (hp x (by simp)).2
theorem MDisk.WF.cur {d : MDisk} (h : d.WF) : ∀ s ∈ d.cur, s.length = 64 := layAll_each _ _ h.firm h.pend
theorem MDisk.WF.write {d : MDisk} (h : d.WF) {i : Nat} {s : Sec} (hi : i < d.firm.length) (hs : s.length = 64) : (d.write i s).WF := by
 refine ⟨h.firm, fun p hp => ?_⟩
 rcases List.mem_append.1 hp with h1 | h1
 ·exact h.pend p h1
 ·simp at h1; subst h1; exact ⟨hi, hs⟩
theorem MDisk.WF.sync {d : MDisk} (h : d.WF) : d.sync.WF := ⟨h.cur, fun _ hp => by cases hp⟩
theorem newDisk_wf (n : Nat) : (newDisk n).WF := ⟨fun s hs => by rw [List.eq_of_mem_replicate hs]; exact blank_len, fun _ hp => by cases hp⟩
theorem newDisk_cur (n : Nat) : (newDisk n).cur = List.replicate n zsec := rfl
theorem layAll_none : ∀ (p : List (Nat × Sec)) (f : List Sec) (m : Nat), (∀ x ∈ p, x.1 ≠ m) → (layAll f p)[m]? = f[m]?
 | [], _, _, _ => rfl
 | x :: p, f, m, h => by
  show (layAll (f.set x.1 x.2) p)[m]? = _
  rw [layAll_none p _ m (fun y hy => h y (by simp [hy])), List.getElem?_set, if_neg (h x (by simp))]
theorem layAll_last (f : List Sec) (p : List (Nat × Sec)) (u m : Nat) (x : Nat × Sec) (hx : p[u]? = some x) (he : x.1 = m) (hm : m < f.length) (h : ∀ i y, u < i → p[i]? = some y → y.1 ≠ m) : (layAll f p)[m]? = some x.2 := by
 have hu : u < p.length := (List.getElem?_eq_some_iff.1 hx).1
 have e : p = p.take u ++ (x :: p.drop (u + 1)) := by
  have := List.drop_eq_getElem_cons hu
  rw [show x = p[u] from ((List.getElem?_eq_some_iff.1 hx).2).symm, ← this, List.take_append_drop]
 rw [e, layAll_append]
 show (layAll ((layAll f (p.take u)).set x.1 x.2) (p.drop (u + 1)))[m]? = _
 rw [layAll_none _ _ m (fun y hy => ?_), List.getElem?_set, if_pos he, if_pos (by rw [layAll_len]; omega)]
 obtain ⟨i, hi, rfl⟩ := List.getElem_of_mem hy
 refine h (u + 1 + i) _ (by omega) ?_
 rw [← List.getElem?_drop, List.getElem?_eq_getElem hi]
def areaS (d : MDisk) (from_ len : Nat) : List Sec := (d.cur.drop from_).take len
theorem area_len {d : MDisk} {from_ len : Nat} (h : from_ + len ≤ d.firm.length) : (areaS d from_ len).length = len := by
 unfold areaS; rw [List.length_take, List.length_drop, cur_len]; omega
theorem area_at {d : MDisk} {from_ len i : Nat} (hi : i < len) : d.cur[from_ + i]? = (areaS d from_ len)[i]? := by
 unfold areaS; rw [List.getElem?_take_of_lt hi, List.getElem?_drop]
theorem area_write (d : MDisk) (from_ len i : Nat) (s : Sec) (hi : i < len) : areaS (d.write (from_ + i) s) from_ len = (areaS d from_ len).set i s := by
 unfold areaS
 rw [cur_write]
 apply List.ext_getElem?
 intro j
 rw [List.getElem?_set]
 by_cases hj : j < len
 ·rw [List.getElem?_take_of_lt hj, List.getElem?_drop, List.getElem?_set]
  by_cases hij : i = j
  ·subst hij
   simp only [if_true]
   rw [List.length_take, List.length_drop]
   by_cases h : from_ + i < d.cur.length
   ·rw [if_pos h, if_pos (by omega)]
   ·rw [if_neg h, if_neg (by omega)]
  ·rw [if_neg (by omega), if_neg hij, List.getElem?_take_of_lt hj, List.getElem?_drop]
 ·rw [if_neg (by omega), List.getElem?_eq_none (by simp; omega), List.getElem?_eq_none (by simp; omega)]
theorem area_new (n from_ len : Nat) (h : from_ + len ≤ n) : areaS (newDisk n) from_ len = List.replicate len zsec := by
 unfold areaS; rw [newDisk_cur]
 simp; omega
theorem set_mid {α : Type} (a b : List α) (x s : α) (r : List α) : (a ++ (b ++ x :: r)).set (a.length + b.length) s = a ++ ((b ++ [s]) ++ r) := by
 rw [List.set_append_right _ _ (by omega), show a.length + b.length - a.length = b.length from by omega, List.set_append_right _ _ (by omega)]
 simp
structure RollOn (d : MDisk) (from_ len : Nat) (es : List (List UInt8)) (more : List Sec) : Prop where
 wf : d.WF
 fits : from_ + len ≤ d.firm.length
 room : (layS es).length + more.length ≤ len
 each : ∀ b ∈ es, b.length ≤ 3840
 areaS : areaS d from_ len = layS es ++ (more ++ List.replicate (len - ((layS es).length + more.length)) zsec)
theorem RollOn.write {d : MDisk} {from_ len : Nat} {es : List (List UInt8)} {more : List Sec} (h : RollOn d from_ len es more) (hr : (layS es).length + more.length < len) (s : Sec) (hs : s.length = 64) :
  RollOn (d.write (from_ + ((layS es).length + more.length)) s) from_ len es (more ++ [s]) := by
 refine ⟨h.wf.write (by have := h.fits; omega) hs, h.fits, by simp; omega, h.each, ?_⟩
 rw [area_write _ _ _ _ _ hr, h.areaS]
 obtain ⟨k, hk⟩ : ∃ k, len - ((layS es).length + more.length) = k + 1 := ⟨len - ((layS es).length + more.length) - 1, by omega⟩
 rw [hk, List.replicate_succ, set_mid, show len - ((layS es).length + (more ++ [s]).length) = k from by simp; omega]
theorem RollOn.grow {d : MDisk} {from_ len : Nat} {es : List (List UInt8)} {b : List UInt8} (h : RollOn d from_ len es (secsS b)) (hb : b.length ≤ 3840) : RollOn d from_ len (es ++ [b]) [] := by
 have e : layS (es ++ [b]) = layS es ++ secsS b := by rw [lay_append]; simp [layS]
 refine ⟨h.wf, h.fits, ?_, fun x hx => ?_, ?_⟩
 ·have := h.room; rw [e]; simp; omega
 ·rcases List.mem_append.1 hx with h1 | h1
  ·exact h.each x h1
  ·simp at h1; subst h1; exact hb
 ·rw [h.areaS, e]; simp
theorem RollOn.sync {d : MDisk} {from_ len : Nat} {es : List (List UInt8)} {more : List Sec} (h : RollOn d from_ len es more) : RollOn d.sync from_ len es more :=
 ⟨h.wf.sync, by have := h.fits; show from_ + len ≤ d.cur.length; rw [cur_len]; exact this, h.room, h.each, h.areaS⟩
theorem RollOn.scanS {d : MDisk} {from_ len : Nat} {es : List (List UInt8)} (h : RollOn d from_ len es []) : scanS (Moi.areaS d from_ len) = (es, (layS es).length) := by
 rw [h.areaS, List.nil_append]; exact scan_lay es _ h.each (one_blanks _)
theorem RollOn.new (n from_ len : Nat) (h : from_ + len ≤ n) : RollOn (newDisk n) from_ len [] [] :=
 ⟨newDisk_wf n, by simpa [newDisk] using h, by simp [layS], (fun _ hb => by cases hb), by rw [area_new n _ _ h]; simp [layS]⟩
theorem openS_len {s : Sec} {x : List UInt8} (h : openS s = some x) : x.length ≤ 61 := by
 unfold openS at h
 simp only at h
 split at h
 ·cases h
 ·rename_i hn
  split at h
  ·injection h with h
   subst h
   simp only [List.length_take, List.length_drop]
   have h3 : ¬ 61 < (s.getD 1 0).toNat := fun e => hn (.inr (.inr e))
   omega
  ·cases h
theorem oneGo_len : ∀ (l : List Sec) (f k : Nat) (acc : List UInt8) (b : List UInt8) (n : Nat), oneGo l f k acc = some (b, n) → k < n ∧ n ≤ k + l.length ∧ b.length ≤ acc.length + 61 * (n - k)
 | [], f, k, acc, b, n, h => by cases h
 | s :: r, f, k, acc, b, n, h => by
  rw [oneGo] at h
  cases ho : openS s with
  | none => rw [ho] at h; cases h
  | some x =>
   have hx := openS_len ho
   rw [ho] at h
   cases x with
   | nil => cases h
   | cons c x =>
    simp only at h
    generalize (if k = 0 then c.toNat else f) = f' at h
    simp only [List.length_cons] at hx
    split at h
    ·cases h
    ·split at h
     ·injection h with h
      injection h with h1 h2
      subst h1; subst h2
      simp only [List.length_append, List.length_cons]
      omega
     ·have := oneGo_len r f' (k + 1) (acc ++ x) b n h
      simp only [List.length_append, List.length_cons] at this ⊢
      omega
theorem one_len {l : List Sec} {b : List UInt8} {n : Nat} (h : oneS l = some (b, n)) : 1 ≤ n ∧ n ≤ l.length ∧ b.length ≤ 61 * n := by
 have := oneGo_len l 0 0 [] b n h
 simp only [List.length_nil] at this
 omega
theorem scan_none {k : Nat} {l : List Sec} {acc : List (List UInt8)} {a : Nat} (h : oneS l = none) : scanGo k l acc a = (acc, a) := by
 cases k with
 | zero => rfl
 | succ k => rw [scanGo, h]
theorem scan_some {k : Nat} {l : List Sec} {acc : List (List UInt8)} {a n : Nat} {b : List UInt8} (hk : l.length ≤ k) (h : oneS l = some (b, n)) :
  scanGo k l acc a = scanGo (k - 1) (l.drop n) (acc ++ [b]) (a + n) ∧ (l.drop n).length ≤ k - 1 := by
 have h1 := one_len h
 cases k with
 | zero => omega
 | succ k =>
  refine ⟨by rw [scanGo, h]; rfl, ?_⟩
  rw [List.length_drop]; omega
def putD : MDisk → Nat → List Sec → MDisk
 | d, _, [] => d
 | d, i, s :: l => if (d.write i s).down then d.write i s else putD (d.write i s) (i + 1) l
theorem putD_up : ∀ (l : List Sec) (d : MDisk) (i : Nat), d.left = 0 → d.down = false → (putD d i l).left = 0 ∧ (putD d i l).down = false ∧ (putD d i l).writes = d.writes + l.length ∧ (putD d i l).firm = d.firm ∧ (putD d i l).pend.length = d.pend.length + l.length
 | [], d, i, hl, hd => ⟨hl, hd, by simp [putD], rfl, rfl⟩
 | s :: l, d, i, hl, hd => by
  have h1 : (d.write i s).down = false := by simp [MDisk.write, hl, hd]
  have h2 : (d.write i s).left = 0 := by simp [MDisk.write, hl]
  rw [putD, h1]
  have h3 := putD_up l (d.write i s) (i + 1) h2 h1
  refine ⟨h3.1, h3.2.1, ?_, h3.2.2.2.1, ?_⟩
  ·have : (d.write i s).writes = d.writes + 1 := rfl
   rw [if_neg (by decide), h3.2.2.1, this]; simp; omega
  ·have : (d.write i s).pend.length = d.pend.length + 1 := by simp [MDisk.write]
   rw [if_neg (by decide), h3.2.2.2.2, this]; simp; omega
theorem RollOn.put {fr ln : Nat} {es : List (List UInt8)} : ∀ (l : List Sec) (d : MDisk) (more : List Sec), RollOn d fr ln es more → d.left = 0 → d.down = false → (layS es).length + more.length + l.length ≤ ln → (∀ s ∈ l, s.length = 64) →
  RollOn (putD d (fr + ((layS es).length + more.length)) l) fr ln es (more ++ l)
 | [], d, more, h, _, _, _, _ => by rw [List.append_nil]; exact h
 | s :: l, d, more, h, hl, hd, hr, hs => by
  have h1 : (d.write (fr + ((layS es).length + more.length)) s).down = false := by simp [MDisk.write, hl, hd]
  have h2 : (d.write (fr + ((layS es).length + more.length)) s).left = 0 := by simp [MDisk.write, hl]
  simp only [List.length_cons] at hr
  have h3 := RollOn.put l _ (more ++ [s]) (h.write (by omega) s (hs s (by simp))) h2 h1 (by simp; omega) (fun x hx => hs x (by simp [hx]))
  rw [List.append_assoc, List.singleton_append] at h3
  rw [putD, h1, if_neg (by decide), show fr + ((layS es).length + more.length) + 1 = fr + ((layS es).length + (more ++ [s]).length) from by simp; omega]
  exact h3
end Moi
