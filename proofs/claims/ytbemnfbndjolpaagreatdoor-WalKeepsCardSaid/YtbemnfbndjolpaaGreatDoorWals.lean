import Derived.Test.YtbemnfbndjolpaaGreatDoorDiskP
import Derived.Test.YtbemnfbndjolpaaGreatDoorRows2
import Derived.Test.YtbemnfbndjolpaaGreatDoorRolls
import Derived.Test.YtbemnfbndjolpaaGreatDoorWLotRead
import Derived.BigRegion
/- What a log's opening comes to, plainly. No program. -/
set_option linter.unusedSimpArgs false
set_option linter.unusedVariables false
namespace Moi
def openGo (from_ : Int) : Nat → List (List UInt8) → List MLot → Option (List MLot)
 | _, [], acc => some acc
 | i, b :: l, acc => if (readLot b).2.1 = 0 ∧ (readLot b).1.num = from_ + (i : Int) then openGo from_ (i + 1) l (acc ++ [(readLot b).1]) else none
def openLots (from_ : Int) (es : List (List UInt8)) : Option (List MLot) := openGo from_ 0 es []
theorem openGo_step {from_ : Int} {i : Nat} {es : List (List UInt8)} {acc : List MLot} {b : List UInt8} (h : es[i]? = some b) :
  openGo from_ i (es.drop i) acc = if (readLot b).2.1 = 0 ∧ (readLot b).1.num = from_ + (i : Int) then openGo from_ (i + 1) (es.drop (i + 1)) (acc ++ [(readLot b).1]) else none := by
 obtain ⟨hi, he⟩ := List.getElem?_eq_some_iff.1 h
 rw [List.drop_eq_getElem_cons hi, openGo, he]
theorem openGo_end {from_ : Int} {i : Nat} {es : List (List UInt8)} {acc : List MLot} (h : es.length ≤ i) : openGo from_ i (es.drop i) acc = some acc := by
 rw [List.drop_of_length_le h, openGo]
end Moi

/- Rows of lots that a call makes itself. -/
set_option maxRecDepth 20000
namespace Go.Proofs.YtbemnfbndjolpaaGreatDoor
open Go.RowKit Moi
structure LQ where
 x : MLot
 A : Option Addr
 n : Nat
 c : Nat
def LQ.vals (q : LQ) : List Value := [.int .i64 q.x.num, .slice q.A q.n q.c]
def LQ.rd (q : LQ) (W : World) : Prop := RdDeals W q.A q.n q.x.deals
abbrev OwnLots : World → Nat → Value → Nat → List LQ → Prop := OwnQ 38 2 LQ.vals LQ.rd
theorem lqVals_length (l : List LQ) : (l.flatMap LQ.vals).length = l.length * 2 := by
 induction l with
 | nil => rfl
 | cons x l ih => simp only [List.flatMap_cons, List.length_append, List.length_cons]; rw [ih]; simp [LQ.vals]; omega
theorem lqVals_get (l : List LQ) : ∀ i x, l[i]? = some x → (l.flatMap LQ.vals)[i * 2]? = some (.int .i64 x.x.num) ∧ (l.flatMap LQ.vals)[i * 2 + 1]? = some (.slice x.A x.n x.c) := by
 induction l with
 | nil => intro i x h; simp at h
 | cons y l ih =>
  intro i x h
  cases i with
  | zero =>
   simp at h; subst h
   constructor <;> simp [LQ.vals]
  | succ i =>
   have := ih i x (by simpa using h)
   simp only [List.flatMap_cons]
   constructor
   ·rw [List.getElem?_append_right (by simp [LQ.vals]; omega), show (i + 1) * 2 - y.vals.length = i * 2 from by simp [LQ.vals]; omega]; exact this.1
   ·rw [List.getElem?_append_right (by simp [LQ.vals]; omega), show (i + 1) * 2 + 1 - y.vals.length = i * 2 + 1 from by simp [LQ.vals]; omega]; exact this.2
theorem lqVals_snoc (acc : List LQ) (x : MLot) (A : Option Addr) (n c : Nat) : acc.flatMap LQ.vals ++ [.int .i64 x.num, .slice A n c] = (acc ++ [(⟨x, A, n, c⟩ : LQ)]).flatMap LQ.vals := by simp [LQ.vals]
theorem OwnLots.len {W : World} {base n : Nat} {v : Value} {l : List LQ} (h : OwnLots W base v n l) : l.length = n := by have := h.own.1; rw [lqVals_length] at this; omega
theorem Tryz.info38 : (Tryz.prog.info? 38).map (fun i => (i.zero, i.size, i.bytes)) = some (some (.agg #[.int .i64 0, .slice none 0 0]), 2, 32) := by kernel_rfl
theorem bs_at {W : World} {base n c i : Nat} {A : Option Addr} {q : List BQ} (h : OwnBs W base (.slice A n c) n q) (hi : i < n) : ∃ g x, A = some ⟨g, 0, none⟩ ∧ q[i]? = some x ∧ W.cell? ⟨g, i, none⟩ = some (.slice x.A x.b.length x.c) ∧ BQ.rd x W := by
 have hl := OwnBs.len h
 rcases h.own.2 with ⟨_, h0⟩ | ⟨g, cap, cur, hv, _, hg, _⟩
 ·omega
 ·injection hv with h1 h2 h3
  subst h1
  have hq : q[i]? = some (q[i]'(by omega)) := List.getElem?_eq_getElem (by omega)
  refine ⟨g, _, rfl, hq, ?_, (h.it _ (List.getElem_mem _)).here⟩
  have hx := bqVals_get q i (by omega)
  have := h.own.cells (g := g) rfl i _ hx
  have e : (⟨g, 0, none⟩ : Addr).add i = ⟨g, i, none⟩ := by unfold Addr.add; split <;> simp_all
  rw [e] at this
  rw [this]
  simp [List.getD, hq]
theorem lots_at {W : World} {base n c i : Nat} {A : Option Addr} {q : List LQ} (h : OwnLots W base (.slice A n c) n q) (hi : i < n) : ∃ g x, A = some ⟨g, 0, none⟩ ∧ q[i]? = some x ∧ W.cell? ⟨g, i * 2, none⟩ = some (.int .i64 x.x.num) ∧ W.cell? ⟨g, i * 2 + 1, none⟩ = some (.slice x.A x.n x.c) ∧ RdDeals W x.A x.n x.x.deals ∧ g < W.heap.size := by
 have hl := OwnLots.len h
 rcases h.own.2 with ⟨_, h0⟩ | ⟨g, cap, cur, hv, _, hg, _⟩
 ·omega
 ·injection hv with h1 h2 h3
  subst h1
  have hq : q[i]? = some (q[i]'(by omega)) := List.getElem?_eq_getElem (by omega)
  have hx := lqVals_get q i _ hq
  have e : ∀ j, (⟨g, 0, none⟩ : Addr).add j = ⟨g, j, none⟩ := fun j => by unfold Addr.add; split <;> simp_all
  have c0 := h.own.cells (g := g) rfl _ _ hx.1
  have c1 := h.own.cells (g := g) rfl _ _ hx.2
  rw [e] at c0 c1
  exact ⟨g, _, rfl, hq, c0, c1, (h.it _ (List.getElem_mem _)).here, lt_of_block hg⟩
theorem wl_next {W : World} {xb : Nat} {v : Value} {k : Int} (hb : Blk W xb 93 #[v, .int .i64 k]) : Calls Tryz.prog 20 #[.pointer (some ⟨xb, 0, none⟩)] W fun e w' => e = .returned (.int .i64 k) ∧ Cln W w' := by
 have c1 := hb.cell 1; have hlt := hb.lt
 clear hb
 go_enter Tryz.func20, Tryz.ntmps20
 go_wp2_with fail
 go_ret
 exact ⟨rfl, by (repeat with_reducible first | exact cR _ | assumption | refine cA ?_ _ | refine cD ?_ | refine cN ?_ _ | refine cS ?_ (by first | omega | (simp <;> omega)) _)⟩
theorem wl_left {W : World} {xb rb pb fr ln a : Nat} {v : Value} (hx : Blk W xb 93 #[.pointer (some ⟨rb, 0, none⟩), v]) (hb : Blk W rb 77 #[.pointer (some ⟨pb, 0, none⟩), .int .i64 (fr : Nat), .int .i64 (ln : Nat), .int .i64 (a : Nat)]) (hl : ln ≤ 4096) (ha : a ≤ ln) : Calls Tryz.prog 21 #[.pointer (some ⟨xb, 0, none⟩)] W fun e w' => e = .returned (.int .i64 ((ln - a : Nat) : Nat)) ∧ Cln W w' := by
 have c0 := hx.cell 0; have hlt := hx.lt
 have cL := rl_left hb hl ha
 clear hx hb
 go_enter Tryz.func21, Tryz.ntmps21
 go_wp2_with fail
 refine cL.mono ?_; rintro e w1 ⟨rfl, hq⟩
 clear cL c0
 go_wp2_with fail
 go_ret
 exact ⟨rfl, hq⟩
set_option maxHeartbeats 4000000 in
theorem wl_open_bad {W : World} (v : Value) (fr ln : Nat) (from_ : Int) (hf : from_ < 1 ∨ 1099511627776 < from_) : Calls Tryz.prog 12 #[v, .agg #[.int .i64 (fr : Nat), .int .i64 (ln : Nat)], .int .i64 from_] W fun e w' => e = .returned (.tuple #[.pointer none, .slice none 0 0, .int .i64 1]) ∧ Cln W w' := by
 have hk0 : Cln W (W.alloc (.cells #[.int .i64 (fr : Nat), .int .i64 (ln : Nat)] 29)) := by (repeat with_reducible first | exact cR _ | assumption | refine cA ?_ _ | refine cD ?_ | refine cN ?_ _ | refine cS ?_ (by first | omega | (simp <;> omega)) _)
 by_cases h1 : from_ < 1
 ·have t1 : decide (from_ < 1) = true := decide_eq_true h1
  clear hf h1
  go_enter Tryz.func12, Tryz.ntmps12
  go_wp2_with fail
  go_ret3
  exact ⟨rfl, hk0⟩
 ·have t1 : decide (from_ < 1) = false := decide_eq_false h1
  have t2 : decide (1099511627776 < from_) = true := decide_eq_true (by omega)
  clear hf h1
  go_enter Tryz.func12, Tryz.ntmps12
  go_wp2_with fail
  go_ret3
  exact ⟨rfl, hk0⟩
def WOpenPost (W : World) (lo pb : Nat) (d : MDisk) (fr ln : Nat) (from_ : Int) (e : Ending) (w' : World) : Prop :=
 IsDisk w' lo pb (wipeD d (fr + (scanS (areaS d fr ln)).2) (ln - (scanS (areaS d fr ln)).2)) ∧ DStep pb W w' ∧ match openLots from_ (scanS (areaS d fr ln)).1 with
 | none => e = .returned (.tuple #[.pointer none, .slice none 0 0, .int .i64 4])
 | some xs => ∃ xb rb A n c q, e = .returned (.tuple #[.pointer (some ⟨xb, 0, none⟩), .slice A n c, .int .i64 0]) ∧ q.map LQ.x = xs ∧ (∃ b0, W.heap.size ≤ b0 ∧ OwnLots w' b0 (.slice A n c) n q ∧ ∀ k, dblk w' pb k → k < b0) ∧
   Blk w' rb 77 #[.pointer (some ⟨pb, 0, none⟩), .int .i64 (fr : Nat), .int .i64 (ln : Nat), .int .i64 ((scanS (areaS d fr ln)).2 : Nat)] ∧ Blk w' xb 93 #[.pointer (some ⟨rb, 0, none⟩), .int .i64 (from_ + (n : Int))] ∧ W.heap.size ≤ rb ∧ W.heap.size ≤ xb
theorem scanGo_cnt : ∀ (k : Nat) (l : List Sec) (acc : List (List UInt8)) (a : Nat), (scanGo k l acc a).1.length ≤ acc.length + l.length
 | 0, l, acc, a => by simp [scanGo]
 | k + 1, l, acc, a => by
  rw [scanGo]
  cases ho : oneS l with
  | none => simp
  | some x =>
   obtain ⟨b, n⟩ := x
   have h1 := one_len ho
   have h2 := scanGo_cnt k (l.drop n) (acc ++ [b]) (a + n)
   rw [List.length_drop] at h2
   simp only [List.length_append, List.length_cons, List.length_nil] at h2 ⊢
   omega
theorem scan_cnt (l : List Sec) : (scanS l).1.length ≤ l.length := by have := scanGo_cnt l.length l [] 0; simpa [scanS] using this
theorem wo_nums {from_ : Int} {i n : Nat} (h1 : 1 ≤ from_) (h2 : from_ ≤ 1099511627776) (hn : n ≤ 4096) (hi : i ≤ n) : wrap64 (from_ + (i : Int)) = from_ + (i : Int) ∧ (i + 1) * 32 ≤ 140737488355328 := by unfold wrap64; omega
theorem scanGo_each : ∀ (k : Nat) (l : List Sec) (acc : List (List UInt8)) (a m : Nat), l.length ≤ m → (∀ b ∈ acc, b.length ≤ 61 * m) → ∀ b ∈ (scanGo k l acc a).1, b.length ≤ 61 * m
 | 0, l, acc, a, m, hl, ha => by rw [scanGo]; exact ha
 | k + 1, l, acc, a, m, hl, ha => by
  rw [scanGo]
  cases ho : oneS l with
  | none => exact ha
  | some x =>
   obtain ⟨b, n⟩ := x
   have h1 := one_len ho
   simp only
   refine scanGo_each k (l.drop n) (acc ++ [b]) (a + n) m (by rw [List.length_drop]; omega) (fun y hy => ?_)
   rcases List.mem_append.1 hy with hy | hy
   ·exact ha y hy
   ·have : y = b := by simpa using hy
    subst this
    omega
theorem scan_each {l : List Sec} {b : List UInt8} (h : b ∈ (scanS l).1) : b.length ≤ 61 * l.length := scanGo_each l.length l [] 0 l.length (Nat.le_refl _) (fun _ hb => by cases hb) b h
structure WoSt (W w2 wr : World) (from_ : Int) (es : List (List UInt8)) (i : Nat) (lq : List LQ) (A : Option Addr) (c : Nat) : Prop where
 cln : Cln w2 wr
 own : OwnLots wr w2.heap.size (.slice A i c) i lq
 rest : openLots from_ es = openGo from_ i (es.drop i) (lq.map LQ.x)
set_option maxHeartbeats 4000000 in
theorem wl_open {W : World} {lo pb : Nat} {d : MDisk} (h : IsDisk W lo pb d) (hK : KindsAt W) (hlo : 1 < lo) (fr ln : Nat) (h1 : 1 ≤ ln) (hfit : fr + ln ≤ d.firm.length) (hd : d.down = false) (hl : d.left = 0) (hw : 0 ≤ d.writes ∧ d.writes ≤ 900000000) (hp : d.pend.length ≤ 900000) (from_ : Int) (hf1 : 1 ≤ from_) (hf2 : from_ ≤ 1099511627776) :
  Calls Tryz.prog 12 #[.pointer (some ⟨pb, 0, none⟩), .agg #[.int .i64 (fr : Nat), .int .i64 (ln : Nat)], .int .i64 from_] W (WOpenPost W lo pb d fr ln from_) := by
 have hk0 : Cln W (W.alloc (.cells #[.int .i64 (fr : Nat), .int .i64 (ln : Nat)] 29)) := by (repeat with_reducible first | exact cR _ | assumption | refine cA ?_ _ | refine cD ?_ | refine cN ?_ _ | refine cS ?_ (by first | omega | (simp <;> omega)) _)
 have hbox := Blk.new W 29 #[.int .i64 (fr : Nat), .int .i64 (ln : Nat)]
 have cR := rl_open (h.cln hk0) fr ln h1 hfit hd hl hw hp
 have t1 : decide (from_ < 1) = false := decide_eq_false (by omega)
 have t2 : decide (1099511627776 < from_) = false := decide_eq_false (by omega)
 have hH := Lib.hid h
 have hKH := Lib.hid hK
 have hloH := Lib.hid hlo
 have hk0H := Lib.hid hk0
 have hf1H := Lib.hid hf1; have hf2H := Lib.hid hf2
 have hm := scan_le (areaS d fr ln)
 have h4 := h.pos.2
 rw [area_len hfit] at hm
 have hln : Hid (ln ≤ 4096) := by unfold Hid; omega
 have hCnt : Hid ((scanS (areaS d fr ln)).1.length ≤ 4096) := by have := scan_cnt (areaS d fr ln); rw [area_len hfit] at this; exact Nat.le_trans this hln.out
 have hEach : Hid (∀ b ∈ (scanS (areaS d fr ln)).1, b.length ≤ 140737488355328) := fun b hb => by have := scan_each hb; rw [area_len hfit] at this; have := hln.out; omega
 have c00 := hbox.cell 0; have c01 := hbox.cell 1; have c0l := hbox.lt
 clear h hK hlo hfit hd hl hw hp hbox hk0 h1 hf1 hf2 hm h4
 go_enter Tryz.func12, Tryz.ntmps12
 go_wp2_with fail
 refine cR.mono ?_
 clear cR
 intro e w2 hP
 obtain ⟨rb, A, n, c, q, rfl, hmap, hO, hbr, hrlt, hD, hSt⟩ := hP
 have hO2 := Lib.hid hO; have hbr2 := Lib.hid hbr; have hD2 := Lib.hid hD
 have hSt2 := Lib.hid ((DStep.of_cln hH.out hk0H.out).trans hSt)
 have hrlt2 : Hid (W.heap.size ≤ rb) := by unfold Hid; rw [World.size_alloc] at hrlt; omega
 have hK2 : Hid (KindsAt w2) := hKH.out.kept hSt2.out.kept (fun hx => by have := (hH.out.mem hx).1; have := hloH.out; omega)
 have hbase : Hid (W.heap.size ≤ w2.heap.size) := hSt2.out.kept.size
 have hlenq := Lib.hid (OwnBs.len hO)
 replace hmap := Lib.hid hmap
 have hS0 : Hid (WoSt W w2 w2 from_ (q.map BQ.b) 0 [] none 0) := ⟨Below.refl _ _, OwnQ.nil _ _ _ _ _ _, rfl⟩
 have tz : (((0 : Nat) : Int) != 0) = false := by decide
 clear hO hbr hD hSt hrlt c00 c01 c0l
 generalize hsc : scanS (areaS d fr ln) = r at *
 obtain ⟨es, m⟩ := r
 simp only [] at hmap hbr2 hD2
 replace hsc := Lib.hid hsc
 go_wp2_with fail
 go_loopw [35, 12] (fun v u wr => ∃ (i : Nat) (lq : List LQ) (A1 : Option Addr) (c1 : Nat), i ≤ n ∧ v = .int .i64 (i : Nat) ∧ u = .slice A1 i c1 ∧ Hid (WoSt W w2 wr from_ (q.map BQ.b) i lq A1 c1)) (fun v _ _ => (n - intOf v).toNat)
 case atStart => exact ⟨0, [], none, 0, Nat.zero_le _, rfl, rfl, hS0⟩
 case round =>
  clear hS0
  obtain ⟨i, lq, A1, c1, hi, rfl, rfl, hS⟩ := hrel
  by_cases hin : i < n
  ·have t3 : decide ((i : Int) < (n : Int)) = true := decide_eq_true (by omega)
   obtain ⟨g, x, rfl, hqx, hcell, hxr⟩ := bs_at (OwnQ.cln hO2.out hS.out.cln) hin
   have ig1 : (0 : Int) ≤ (i : Int) := by omega
   have ig2 : (i : Int) < (n : Int) := by omega
   have hst := Lib.hid (hS.out.rest.trans (openGo_step (b := x.b) (by rw [List.getElem?_map, hqx]; rfl)))
   obtain ⟨hx1, hx2, hx3⟩ := hxr.bytes
   have hR := lread_any x.A x.b.length x.c x.b wr (hK2.out.cln hS.out.cln) hx1 hx2 (hEach.out x.b (by rw [← hmap.out]; exact List.mem_map.2 ⟨x, List.mem_of_getElem? hqx, rfl⟩)) hx3
   obtain ⟨o, ho⟩ : ∃ o, o = readLot x.b := ⟨_, rfl⟩
   rw [← ho] at hR hst
   replace ho := Lib.hid ho
   have hin' := Lib.hid hin
   have hn4 : n ≤ 4096 := by rw [← hlenq.out]; have := hCnt.out; rw [← hmap.out, List.length_map] at this; exact this
   obtain ⟨tw, hbig⟩ := wo_nums hf1H.out hf2H.out hn4 (Nat.le_of_lt hin)
   replace hn4 := Lib.hid hn4
   clear hx1 hx2 hx3 hxr hqx
   go_wp2_with fail
   refine hR.mono ?_
   clear hR
   intro e w3 hP
   obtain ⟨A3, n3, c3, rfl, hn3, hc3, hr3, hq3⟩ := hP
   obtain ⟨y, cd, ca⟩ := o
   simp only [faultAgg] at hst ⊢
   have hS3 := Lib.hid hq3
   replace hr3 := Lib.hid hr3; replace hn3 := Lib.hid hn3; replace hc3 := Lib.hid hc3
   clear hq3 hcell
   have hk5 : Hid (Cln w3 ((w3.alloc (.cells #[.int .i64 y.num, .slice A3 n3 c3] 38)).alloc (.cells #[.int .i64 (cd : Nat), .int .i64 (ca : Nat)] 89))) := by unfold Hid; (repeat with_reducible first | exact cR _ | assumption | refine cA ?_ _ | refine cD ?_ | refine cN ?_ _ | refine cS ?_ (by first | omega | (simp <;> omega)) _)
   by_cases hcd : cd = 0
   rotate_left
   ·have hfin : Hid (openLots from_ (q.map BQ.b) = none) := by unfold Hid; rw [hst.out]; exact if_neg (fun h => hcd h.1)
    have hcl : Hid (Cln w2 ((w3.alloc (.cells #[.int .i64 y.num, .slice A3 n3 c3] 38)).alloc (.cells #[.int .i64 (cd : Nat), .int .i64 (ca : Nat)] 89))) := cln_trans hS.out.cln (cln_trans hS3.out hk5.out)
    clear hst
    go_wp2_with fail
    go_ret3
    unfold WOpenPost
    rw [hsc.out]
    refine ⟨hD2.out.cln hcl.out, hSt2.out.trans (DStep.of_cln hD2.out hcl.out), ?_⟩
    simp only []
    rw [← hmap.out, hfin.out]
    rfl
   ·subst hcd
    obtain ⟨_, _, hpair⟩ := readLot_at (b := x.b) (x := y) (e := (0, ca)) ho.out.symm rfl
    obtain rfl : ca = 0 := by injection hpair
    by_cases hnum : y.num = from_ + (i : Int)
    rotate_left
    ·have hfin : Hid (openLots from_ (q.map BQ.b) = none) := by unfold Hid; rw [hst.out]; exact if_neg (fun h => hnum h.2)
     have tn : (y.num != from_ + (i : Int)) = true := by rw [bne_iff_ne]; exact hnum
     replace hnum := Lib.hid hnum
     have hcl : Hid (Cln w2 ((w3.alloc (.cells #[.int .i64 y.num, .slice A3 n3 c3] 38)).alloc (.cells #[.int .i64 ((0 : Nat) : Nat), .int .i64 ((0 : Nat) : Nat)] 89))) := cln_trans hS.out.cln (cln_trans hS3.out hk5.out)
     clear hst
     go_wp2_with fail
     go_ret3
     unfold WOpenPost
     rw [hsc.out]
     refine ⟨hD2.out.cln hcl.out, hSt2.out.trans (DStep.of_cln hD2.out hcl.out), ?_⟩
     simp only []
     rw [← hmap.out, hfin.out]
     rfl
    ·have hfin : Hid (openLots from_ (q.map BQ.b) = openGo from_ (i + 1) ((q.map BQ.b).drop (i + 1)) (lq.map LQ.x ++ [y])) := by unfold Hid; rw [hst.out]; exact if_pos ⟨rfl, hnum⟩
     have tn : (y.num != from_ + (i : Int)) = false := by rw [bne_eq_false_iff_eq]; exact hnum
     replace hnum := Lib.hid hnum
     have hO5 := Lib.hid (OwnQ.cln hS.out.own (cln_trans hS3.out hk5.out))
     have hq5 : Hid (OnlyBy (fun k => wr.heap.size ≤ k ∧ k < ((w3.alloc (.cells #[.int .i64 y.num, .slice A3 n3 c3] 38)).alloc (.cells #[.int .i64 ((0 : Nat) : Nat), .int .i64 ((0 : Nat) : Nat)] 89)).heap.size) ((w3.alloc (.cells #[.int .i64 y.num, .slice A3 n3 c3] 38)).alloc (.cells #[.int .i64 ((0 : Nat) : Nat), .int .i64 ((0 : Nat) : Nat)] 89)) (LQ.rd ⟨y, A3, n3, c3⟩)) := hr3.out.to (fun k hk => hk5.out.block k hk.2) (fun k hk => ⟨hk.1, Nat.lt_of_lt_of_le hk.2 hk5.out.size⟩)
     have hob := Lib.hid (fun g hg => (own_ge hS.out.own.own g hg).2)
     have hws := Lib.hid hS.out.cln.size
     have hW5 : w2.heap.size ≤ ((w3.alloc (.cells #[.int .i64 y.num, .slice A3 n3 c3] 38)).alloc (.cells #[.int .i64 ((0 : Nat) : Nat), .int .i64 ((0 : Nat) : Nat)] 89)).heap.size := (cln_trans hS.out.cln (cln_trans hS3.out hk5.out)).size
     have hcl := Lib.hid (cln_trans hS.out.cln (cln_trans hS3.out hk5.out))
     obtain ⟨i0, hi0, hz0, hz1, hz2⟩ := info_parts Tryz.info38
     clear hst
     go_wp2_with (with_reducible refine stop_app rfl ?_)
     refine Hid.out ?_
     show wpList _ _ _ _ _ _
     refine wpList_pushAt rfl _ _ 42 rfl w2.heap.size 38 i0 (.agg #[.int .i64 0, .slice none 0 0]) 2 32 Tryz.underlying42 hi0 hz0 hz1 hz2 rfl (by decide) (by decide) (.slice A1 i c1) i (lq.flatMap LQ.vals) [.int .i64 y.num, .slice A3 n3 c3] rfl (by simp [Value.oneCell']) rfl (by first | rfl | (simp only [World.size_alloc]; rfl)) hO5.out.own hbig hW5 ?_
     intro v' w7 hown7 hgr7 hv7
     obtain ⟨A7, c7, rfl, _, _⟩ := own_form hown7
     have hO7 : Hid (OwnLots w7 w2.heap.size (.slice A7 (i + 1) c7) (i + 1) (lq ++ [(⟨y, A3, n3, c3⟩ : LQ)])) :=
      OwnQ.push (P := LQ.rd) (b1 := wr.heap.size) (q := (⟨y, A3, n3, c3⟩ : LQ)) hO5.out (by rw [← lqVals_snoc]; exact hown7) hgr7 hv7 hws.out hob.out hq5.out
     have hc7 : Hid (Cln w2 w7) := ((Kept.of_below (S := fun k => w2.heap.size ≤ k) hcl.out).alloc _ |>.grown hgr7 (fun k hk _ => (own_ge hO5.out.own k hk).1)).toBelow (Nat.le_refl _) (fun k hk h => absurd h (Nat.not_le.2 hk))
     have hS7 : Hid (WoSt W w2 w7 from_ (q.map BQ.b) (i + 1) (lq ++ [(⟨y, A3, n3, c3⟩ : LQ)]) A7 c7) := ⟨hc7.out, hO7.out, by rw [hfin.out, List.map_append]; rfl⟩
     have tw2 := wrap_succ i n hin'.out hn4.out
     clear hown7 hgr7 hv7 hO7 hc7 hS hO5 hq5 hob hws hW5 hcl hi0 hz0 hz1 hz2 hfin tw hbig hin
     go_wp2_with fail
     go_roundw
     case rel => exact ⟨i + 1, _, A7, c7, hin'.out, by first | (rw [tw2]; rfl) | rfl, rfl, hS7⟩
     case measure => first | (rw [tw2]; exact meas_lt _ _ hin'.out) | exact meas_lt _ _ hin'.out
  ·obtain rfl : n = i := by omega
   have t3 : decide ((n : Int) < (n : Int)) = false := decide_eq_false (by omega)
   have hfin : Hid (openLots from_ (q.map BQ.b) = some (lq.map LQ.x)) := by
    unfold Hid; rw [hS.out.rest]; exact openGo_end (by rw [List.length_map, hlenq.out]; exact Nat.le_refl _)
   have hn4 : n ≤ 4096 := by rw [← hlenq.out]; have := hCnt.out; rw [← hmap.out, List.length_map] at this; exact this
   obtain ⟨tw, hbig⟩ := wo_nums hf1H.out hf2H.out hn4 (Nat.le_refl n)
   have hk8 : Hid (Cln wr (wr.alloc (.cells #[.pointer (some ⟨rb, 0, none⟩), .int .i64 (from_ + (n : Int))] 93))) := by unfold Hid; (repeat with_reducible first | exact cR _ | assumption | refine cA ?_ _ | refine cD ?_ | refine cN ?_ _ | refine cS ?_ (by first | omega | (simp <;> omega)) _)
   have hb8 := Lib.hid (Blk.new wr 93 #[.pointer (some ⟨rb, 0, none⟩), .int .i64 (from_ + (n : Int))])
   have hcl := Lib.hid (cln_trans hS.out.cln hk8.out)
   clear hn4 hbig
   go_wp2_with fail
   go_ret3
   unfold WOpenPost
   rw [hsc.out]
   refine ⟨hD2.out.cln hcl.out, hSt2.out.trans (DStep.of_cln hD2.out hcl.out), ?_⟩
   simp only []
   rw [← hmap.out, hfin.out]
   exact ⟨wr.heap.size, rb, A1, n, c1, lq, rfl, rfl, ⟨w2.heap.size, hbase.out, OwnQ.cln hS.out.own hk8.out, fun k hk => (hD2.out.mem (dblk_cln hD2.out hcl.out hk)).2.1⟩, hbr2.out.cln hcl.out, hb8.out, hrlt2.out, Nat.le_trans hbase.out hS.out.cln.size⟩
set_option maxHeartbeats 4000000 in
theorem wl_put_num {W : World} {xb : Nat} {v : Value} {k num : Int} (hx : Blk W xb 93 #[v, .int .i64 k]) (hne : num ≠ k) (A : Option Addr) (n c : Nat) :
  Calls Tryz.prog 16 #[.pointer (some ⟨xb, 0, none⟩), .agg #[.int .i64 num, .slice A n c]] W fun e w' => e = .returned (.int .i64 4) ∧ Cln W w' := by
 have hk0 : Cln W (W.alloc (.cells #[.int .i64 num, .slice A n c] 38)) := by (repeat with_reducible first | exact cR _ | assumption | refine cA ?_ _ | refine cD ?_ | refine cN ?_ _ | refine cS ?_ (by first | omega | (simp <;> omega)) _)
 have hb0 := Blk.new W 38 #[.int .i64 num, .slice A n c]
 have hx0 := hx.cln hk0
 have c0 := hb0.cell 0; have cl := hb0.lt; have x1 := hx0.cell 1; have xl := hx0.lt
 have tn : (num != k) = true := by rw [bne_iff_ne]; exact hne
 have hk0H : Hid (Cln W (W.alloc (.cells #[.int .i64 num, .slice A n c] 38)).drew) := Below.drew hk0
 clear hx hx0 hb0 hne hk0
 go_enter Tryz.func16, Tryz.ntmps16
 go_wp2_with fail
 go_region
 go_wp2_with fail
 go_ret
 exact ⟨rfl, hk0H.out⟩
set_option maxHeartbeats 4000000 in
theorem wl_put_bad {W : World} {xb : Nat} {v : Value} (x : MLot) (hx : Blk W xb 93 #[v, .int .i64 x.num]) (hK : KindsAt W) (A : Option Addr) (n c : Nat) (hmod : Mod x.deals) (hr : RdDeals W A n x.deals) (hc : (checkLot x).1 ≠ 0) :
  Calls Tryz.prog 16 #[.pointer (some ⟨xb, 0, none⟩), .agg #[.int .i64 x.num, .slice A n c]] W fun e w' => e = .returned (.int .i64 ((checkLot x).1 : Nat)) ∧ Cln W w' := by
 have hk0 : Cln W (W.alloc (.cells #[.int .i64 x.num, .slice A n c] 38)) := by (repeat with_reducible first | exact cR _ | assumption | refine cA ?_ _ | refine cD ?_ | refine cN ?_ _ | refine cS ?_ (by first | omega | (simp <;> omega)) _)
 have hb0 := Blk.new W 38 #[.int .i64 x.num, .slice A n c]
 have hx0 := hx.cln hk0
 have c0 := hb0.cell 0; have c1 := hb0.cell 1; have cl := hb0.lt; have x1 := hx0.cell 1; have xl := hx0.lt
 have hC := fun w (k : Cln W w) => lcheck_any x A n c hmod w (hK.cln k) (hr.cln k)
 have hk0H : Hid (Cln W (W.alloc (.cells #[.int .i64 x.num, .slice A n c] 38)).drew) := Below.drew hk0
 have hk0' := Lib.hid hk0
 generalize (checkLot x).2 = z2 at *
 generalize hzz : (checkLot x).1 = z at *
 have tz : (((z : Nat) : Int) != 0) = true := by rw [bne_iff_ne]; omega
 clear hx hx0 hb0 hk0 hr hK hzz hc
 go_enter Tryz.func16, Tryz.ntmps16
 go_wp2_with fail
 go_region
 go_wp2_with fail
 refine (hC _ hk0H.out).mono ?_; rintro e w1 ⟨rfl, hq⟩
 have hk1 := Lib.hid (cln_trans hk0H.out hq)
 clear hC hq
 go_wp2_with fail
 go_ret
 exact ⟨rfl, hk1.out⟩
set_option maxHeartbeats 4000000 in
theorem wl_put_full (x : MLot) {W : World} {lo pb rb xb : Nat} {d : MDisk} {fr ln a : Nat} (h : IsDisk W lo pb d) (hK : KindsAt W) (hx : Blk W xb 93 #[.pointer (some ⟨rb, 0, none⟩), .int .i64 x.num]) (hb : Blk W rb 77 #[.pointer (some ⟨pb, 0, none⟩), .int .i64 (fr : Nat), .int .i64 (ln : Nat), .int .i64 (a : Nat)]) (hd : d.down = false) (ha : a ≤ ln) (hl : ln ≤ 4096) (A : Option Addr) (n c : Nat) (hmod : Mod x.deals) (hr : RdDeals W A n x.deals) (hc : (checkLot x).1 = 0) (hf : ln - a < needS (wLot x).length) :
  Calls Tryz.prog 16 #[.pointer (some ⟨xb, 0, none⟩), .agg #[.int .i64 x.num, .slice A n c]] W fun e w' => e = .returned (.int .i64 8) ∧ Cln W w' := by
 have hk0 : Cln W (W.alloc (.cells #[.int .i64 x.num, .slice A n c] 38)) := by (repeat with_reducible first | exact cR _ | assumption | refine cA ?_ _ | refine cD ?_ | refine cN ?_ _ | refine cS ?_ (by first | omega | (simp <;> omega)) _)
 have hb0 := Blk.new W 38 #[.int .i64 x.num, .slice A n c]
 have hx0 := hx.cln hk0
 have c0 := hb0.cell 0; have c1 := hb0.cell 1; have cl := hb0.lt; have x0 := hx0.cell 0; have x1 := hx0.cell 1; have xl := hx0.lt
 have hC : ∀ w, Cln W w → Calls Tryz.prog 41 #[.agg #[.int .i64 x.num, .slice A n c]] w fun e w' => e = .returned (.tuple #[.int .i64 0, .int .i64 0]) ∧ Cln w w' := fun w k => by
  have := lcheck_any x A n c hmod w (hK.cln k) (hr.cln k); rw [(lot_ok hc).2.2.2.2.2] at this; exact this
 have hB := fun w (k : Cln W w) => lbytes_any x A n c hmod w (hK.cln k) (hr.cln k)
 have hlb : Hid (lotBytes x = wLot x) := by unfold Hid lotBytes; rw [if_pos hc]
 have h2048 := Lib.hid (lot_ok hc).2.2.2.2.1
 have hk0H : Hid (Cln W (W.alloc (.cells #[.int .i64 x.num, .slice A n c] 38)).drew) := Below.drew hk0
 have hH := Lib.hid h; have hbH := Lib.hid hb; have hfH := Lib.hid hf; have haH := Lib.hid ha; have hlH := Lib.hid hl
 have hbx := Lib.hid hb0; have hxH := Lib.hid hx
 clear hx hx0 hb0 hk0 hr hK hc h hb hf ha hl
 go_enter Tryz.func16, Tryz.ntmps16
 go_wp2_with fail
 go_region
 go_wp2_with fail
 refine (hC _ hk0H.out).mono ?_; rintro e w1 ⟨rfl, hq⟩
 have hk1 := Lib.hid (cln_trans hk0H.out hq)
 have hb1 := Lib.hid ((hbx.out.drew).cln hq)
 clear hC hq c0 c1 cl x0 x1 xl
 have c0 := hb1.out.cell 0; have c1 := hb1.out.cell 1; have cl := hb1.out.lt; have x0 := (hxH.out.cln hk1.out).cell 0; have x1 := (hxH.out.cln hk1.out).cell 1; have xl := (hxH.out.cln hk1.out).lt
 have hx1 := Lib.hid (hxH.out.cln hk1.out)
 have hk2 := Lib.hid (Below.drew hk1.out)
 have hb2 := Lib.hid hb1.out.drew
 have hx2 := Lib.hid hx1.out.drew
 clear c0 c1 cl x0 x1 xl
 go_wp2_with fail
 refine wp_region_held_drew (S := fun W' => W'.cell? ⟨xb, 0, none⟩ = some (.pointer (some ⟨rb, 0, none⟩)) ∧ W'.cell? ⟨W.heap.size, 0, none⟩ = some (.int .i64 x.num) ∧ W'.cell? ⟨W.heap.size, 1, none⟩ = some (.slice A n c)) (by kernel_rfl) ?hSf (fun hHeld => ?_)
 case hSf => exact ⟨hx2.out.cell 0, hb2.out.cell 0, hb2.out.cell 1⟩
 refine wpAnyH_take (i := 0) (oi := { dst := some 24, op := Op.move (Operand.tmp 0), type := 41, pos := "wal.go:50", after := #[], guard := none }) (v := ?v7) rfl (by kernel_rfl) (by kernel_rfl) (by kernel_rfl) (fun _ _ _ h => h) (Or.inl ⟨by rfl, ?hy7⟩) (by assumption) ?rest7
 case hy7 => intro w hSw; (try dsimp only at hSw); go_simp <;> with_reducible rfl
 try simp only [Act.put, List.setIfInBounds_toArray, List.set_cons_zero, List.set_cons_succ]
 refine wpAnyH_take (i := 1) (oi := { dst := some 25, op := Op.nilCheck (Operand.tmp 24), type := 0, pos := "wal.go:50", after := #[{ on := 0, ground := Ground.data }], guard := none }) (v := ?v8) rfl (by kernel_rfl) (by kernel_rfl) (by kernel_rfl) (fun _ _ _ h => h) (Or.inl ⟨by rfl, ?hy8⟩) (by assumption) ?rest8
 case hy8 => intro w hSw; (try dsimp only at hSw); go_simp <;> with_reducible rfl
 try simp only [Act.put, List.setIfInBounds_toArray, List.set_cons_zero, List.set_cons_succ]
 refine wpAnyH_take (i := 2) (oi := { dst := some 26, op := Op.fieldAddr 93 (Operand.tmp 25) 0, type := 0, pos := "wal.go:50", after := #[{ on := 1, ground := Ground.data }], guard := none }) (v := ?v9) rfl (by kernel_rfl) (by kernel_rfl) (by kernel_rfl) (fun _ _ _ h => h) (Or.inl ⟨by rfl, ?hy9⟩) (by assumption) ?rest9
 case hy9 => intro w hSw; (try dsimp only at hSw); go_simp <;> with_reducible rfl
 try simp only [Act.put, List.setIfInBounds_toArray, List.set_cons_zero, List.set_cons_succ]
 refine wpAnyH_take (i := 3) (oi := { dst := some 27, op := Op.load 30 (Operand.tmp 26), type := 30, pos := "wal.go:50", after := #[{ on := 2, ground := Ground.data }], guard := none }) (v := ?v10) rfl (by kernel_rfl) (by kernel_rfl) (by kernel_rfl) (fun _ _ _ h => h) (Or.inl ⟨by rfl, ?hy10⟩) (by assumption) ?rest10
 case hy10 => intro w hSw; (try dsimp only at hSw); go_simp <;> with_reducible rfl
 try simp only [Act.put, List.setIfInBounds_toArray, List.set_cons_zero, List.set_cons_succ]
 refine wpAnyH_take (i := 4) (oi := { dst := some 28, op := Op.load 38 (Operand.tmp 3), type := 38, pos := "wal.go:50", after := #[], guard := none }) (v := ?v11) rfl (by kernel_rfl) (by kernel_rfl) (by kernel_rfl) (fun _ _ _ h => h) (Or.inl ⟨by rfl, ?hy11⟩) (by assumption) ?rest11
 case hy11 => intro w hSw; (try dsimp only at hSw); go_simp <;> with_reducible rfl
 try simp only [Act.put, List.setIfInBounds_toArray, List.set_cons_zero, List.set_cons_succ]
 refine wpAnyH_ready (rs := [5]) (by kernel_rfl) (by simp) ?_
 refine AllReadyH.cons (o := { dst := some 29, op := Op.call { callee := Callee.value (Operand.func 42), args := #[Operand.tmp 28], argTypes := #[38] }, type := 33, pos := "wal.go:50", after := #[{ on := 4, ground := Ground.data }], guard := none }) rfl (fun K hK => ?_) AllReadyH.nil
 go_simp
 go_at_call 42
 with_reducible refine (hB _ hk2.out).mono ?_
 rintro e w5 ⟨A5, c5, n5, hn5, rfl, hown5, hq5⟩
 rw [hlb.out] at hown5 hn5
 have hx5 := Lib.hid (hx2.out.cln hq5)
 have hb5 := Lib.hid (hb2.out.cln hq5)
 have hk5 := Lib.hid (cln_trans hk2.out hq5)
 have hge5 := Lib.hid hk2.out.size
 replace hown5 := Lib.hid hown5
 (try go_wp2_with fail)
 refine hK.out _ _ ?_ (fun hHeld2 => ?_)
 ·exact ⟨hx5.out.cell 0, hb5.out.cell 0, hb5.out.cell 1⟩
 clear hK K hHeld hB hq5
 replace hHeld := hHeld2
 clear hHeld2
 try simp only [Act.put, List.setIfInBounds_toArray, List.set_cons_zero, List.set_cons_succ]
 have hAp := rl_append_full (A := A5) (n := n5) (c := c5) (hH.out.cln hk5.out) hd (hbH.out.cln hk5.out) haH.out hlH.out (Nat.le_trans (Nat.le_of_eq hn5.out) (Nat.le_trans h2048.out (by decide))) (by rw [hn5.out]; exact hfH.out)
 refine wpAnyH_ready (rs := [6]) (by kernel_rfl) (by simp) ?_
 refine AllReadyH.cons (o := { dst := some 30, op := Op.call { callee := Callee.value (Operand.func 9), args := #[Operand.tmp 27, Operand.tmp 29], argTypes := #[30, 33] }, type := 25, pos := "wal.go:50", after := #[{ on := 3, ground := Ground.data }, { on := 5, ground := Ground.data }, { on := 5, ground := Ground.chain }], guard := none }) rfl (fun K hK => ?_) AllReadyH.nil
 go_simp
 go_at_call 9
 with_reducible refine hAp.mono ?_
 rintro e w6 ⟨rfl, hq6⟩
 have hk6 := Lib.hid (cln_trans hk5.out hq6)
 have hx6 := Lib.hid (hx5.out.cln hq6)
 have hb6 := Lib.hid (hb5.out.cln hq6)
 (try go_wp2_with fail)
 refine hK.out _ _ ?_ (fun hHeld2 => ?_)
 ·exact ⟨hx6.out.cell 0, hb6.out.cell 0, hb6.out.cell 1⟩
 clear hK K hHeld hAp hq6
 replace hHeld := hHeld2
 clear hHeld2
 try simp only [Act.put, List.setIfInBounds_toArray, List.set_cons_zero, List.set_cons_succ]
 refine wpAnyH_take (i := 7) (oi := { dst := some 7, op := Op.assign (Operand.tmp 30), type := 25, pos := "wal.go:50", after := #[{ on := 6, ground := Ground.data }, { on := 6, ground := Ground.chain }, { on := 0, ground := Ground.phase }, { on := 1, ground := Ground.phase }, { on := 2, ground := Ground.phase }, { on := 3, ground := Ground.phase }, { on := 4, ground := Ground.phase }, { on := 5, ground := Ground.phase }, { on := 6, ground := Ground.phase }], guard := none }) (v := ?v12) rfl (by kernel_rfl) (by kernel_rfl) (by kernel_rfl) (fun _ _ _ h => h) (Or.inl ⟨by rfl, ?hy12⟩) (by assumption) ?rest12
 case hy12 => intro w hSw; (try dsimp only at hSw); go_simp <;> with_reducible rfl
 try simp only [Act.put, List.setIfInBounds_toArray, List.set_cons_zero, List.set_cons_succ]
 refine wpAnyH_done (by kernel_rfl) ?_ _
 clear hHeld
 go_wp2_with fail
 go_ret
 exact ⟨rfl, hk6.out⟩
def PutPost (W : World) (lo pb rb xb fr ln a N : Nat) (num : Int) (d1 : MDisk) (e : Ending) (w' : World) : Prop :=
 LStep (fun k => k = rb ∨ k = xb) pb W w' ∧ (d1.down = true → e = .returned (.int .i64 14) ∧ IsDisk w' lo pb d1 ∧ Blk w' rb 77 #[.pointer (some ⟨pb, 0, none⟩), .int .i64 (fr : Nat), .int .i64 (ln : Nat), .int .i64 (a : Nat)] ∧ Blk w' xb 93 #[.pointer (some ⟨rb, 0, none⟩), .int .i64 num]) ∧ (d1.down = false → e = .returned (.int .i64 0) ∧ IsDisk w' lo pb d1.sync ∧ Blk w' rb 77 #[.pointer (some ⟨pb, 0, none⟩), .int .i64 (fr : Nat), .int .i64 (ln : Nat), .int .i64 (a + N : Nat)] ∧ Blk w' xb 93 #[.pointer (some ⟨rb, 0, none⟩), .int .i64 (num + 1)])
theorem LStep.blk {S : Nat → Prop} {pb lo g t : Nat} {a b : World} {d : MDisk} {cs : Array Value} (h : LStep S pb a b) (hd : IsDisk a lo pb d) (hg : Blk a g t cs) (ht : t ≠ 72 ∧ t ≠ 79 ∧ t ≠ 103) (hS : ¬ S g) : Blk b g t cs := hg.kept h.kept (fun e => e.elim (hd.other hg ht) hS)
set_option maxHeartbeats 4000000 in
theorem wl_put (x : MLot) {W : World} {lo pb rb xb : Nat} {d : MDisk} {fr ln a : Nat} (h : IsDisk W lo pb d) (hK : KindsAt W) (hx : Blk W xb 93 #[.pointer (some ⟨rb, 0, none⟩), .int .i64 x.num]) (hb : Blk W rb 77 #[.pointer (some ⟨pb, 0, none⟩), .int .i64 (fr : Nat), .int .i64 (ln : Nat), .int .i64 (a : Nat)]) (hd : d.down = false) (hleft : 0 ≤ d.left ∧ d.left ≤ 1000000000) (hw : 0 ≤ d.writes ∧ d.writes ≤ 900000000) (hp : d.pend.length ≤ 900000) (ha : a ≤ ln) (hfit : fr + ln ≤ d.firm.length) (A : Option Addr) (n c : Nat) (hmod : Mod x.deals) (hr : RdDeals W A n x.deals) (hc : (checkLot x).1 = 0) (hf : needS (wLot x).length ≤ ln - a) :
  Calls Tryz.prog 16 #[.pointer (some ⟨xb, 0, none⟩), .agg #[.int .i64 x.num, .slice A n c]] W (PutPost W lo pb rb xb fr ln a (needS (wLot x).length) x.num (putD d (fr + a) (secsS (wLot x)))) := by
 have hk0 : Cln W (W.alloc (.cells #[.int .i64 x.num, .slice A n c] 38)) := by (repeat with_reducible first | exact cR _ | assumption | refine cA ?_ _ | refine cD ?_ | refine cN ?_ _ | refine cS ?_ (by first | omega | (simp <;> omega)) _)
 have hb0 := Blk.new W 38 #[.int .i64 x.num, .slice A n c]
 have hx0 := hx.cln hk0
 have c0 := hb0.cell 0; have c1 := hb0.cell 1; have cl := hb0.lt; have x0 := hx0.cell 0; have x1 := hx0.cell 1; have xl := hx0.lt
 have hC : ∀ w, Cln W w → Calls Tryz.prog 41 #[.agg #[.int .i64 x.num, .slice A n c]] w fun e w' => e = .returned (.tuple #[.int .i64 0, .int .i64 0]) ∧ Cln w w' := fun w k => by
  have := lcheck_any x A n c hmod w (hK.cln k) (hr.cln k); rw [(lot_ok hc).2.2.2.2.2] at this; exact this
 have hB := fun w (k : Cln W w) => lbytes_any x A n c hmod w (hK.cln k) (hr.cln k)
 have hlb : Hid (lotBytes x = wLot x) := by unfold Hid lotBytes; rw [if_pos hc]
 have h2048 := Lib.hid (lot_ok hc).2.2.2.2.1
 have hk0H : Hid (Cln W (W.alloc (.cells #[.int .i64 x.num, .slice A n c] 38)).drew) := Below.drew hk0
 have hH := Lib.hid h; have hbH := Lib.hid hb; have hfH := Lib.hid hf; have haH := Lib.hid ha; replace hfit := Lib.hid hfit; replace hleft := Lib.hid hleft; replace hw := Lib.hid hw; replace hp := Lib.hid hp; have hnum := Lib.hid (lot_ok hc).2.1; have hnum1 := Lib.hid (lot_ok hc).1
 have hbx := Lib.hid hb0; have hxH := Lib.hid hx
 clear hx hx0 hb0 hk0 hr hK hc h hb hf ha
 go_enter Tryz.func16, Tryz.ntmps16
 go_wp2_with fail
 go_region
 go_wp2_with fail
 refine (hC _ hk0H.out).mono ?_; rintro e w1 ⟨rfl, hq⟩
 have hk1 := Lib.hid (cln_trans hk0H.out hq)
 have hb1 := Lib.hid ((hbx.out.drew).cln hq)
 clear hC hq c0 c1 cl x0 x1 xl
 have c0 := hb1.out.cell 0; have c1 := hb1.out.cell 1; have cl := hb1.out.lt; have x0 := (hxH.out.cln hk1.out).cell 0; have x1 := (hxH.out.cln hk1.out).cell 1; have xl := (hxH.out.cln hk1.out).lt
 have hx1 := Lib.hid (hxH.out.cln hk1.out)
 have hk2 := Lib.hid (Below.drew hk1.out)
 have hb2 := Lib.hid hb1.out.drew
 have hx2 := Lib.hid hx1.out.drew
 clear c0 c1 cl x0 x1 xl
 go_wp2_with fail
 refine wp_region_held_drew (S := fun W' => W'.cell? ⟨xb, 0, none⟩ = some (.pointer (some ⟨rb, 0, none⟩)) ∧ W'.cell? ⟨W.heap.size, 0, none⟩ = some (.int .i64 x.num) ∧ W'.cell? ⟨W.heap.size, 1, none⟩ = some (.slice A n c)) (by kernel_rfl) ?hSf (fun hHeld => ?_)
 case hSf => exact ⟨hx2.out.cell 0, hb2.out.cell 0, hb2.out.cell 1⟩
 refine wpAnyH_take (i := 0) (oi := { dst := some 24, op := Op.move (Operand.tmp 0), type := 41, pos := "wal.go:50", after := #[], guard := none }) (v := ?v1) rfl (by kernel_rfl) (by kernel_rfl) (by kernel_rfl) (fun _ _ _ h => h) (Or.inl ⟨by rfl, ?hy1⟩) (by assumption) ?rest1
 case hy1 => intro w hSw; (try dsimp only at hSw); go_simp <;> with_reducible rfl
 try simp only [Act.put, List.setIfInBounds_toArray, List.set_cons_zero, List.set_cons_succ]
 refine wpAnyH_take (i := 1) (oi := { dst := some 25, op := Op.nilCheck (Operand.tmp 24), type := 0, pos := "wal.go:50", after := #[{ on := 0, ground := Ground.data }], guard := none }) (v := ?v2) rfl (by kernel_rfl) (by kernel_rfl) (by kernel_rfl) (fun _ _ _ h => h) (Or.inl ⟨by rfl, ?hy2⟩) (by assumption) ?rest2
 case hy2 => intro w hSw; (try dsimp only at hSw); go_simp <;> with_reducible rfl
 try simp only [Act.put, List.setIfInBounds_toArray, List.set_cons_zero, List.set_cons_succ]
 refine wpAnyH_take (i := 2) (oi := { dst := some 26, op := Op.fieldAddr 93 (Operand.tmp 25) 0, type := 0, pos := "wal.go:50", after := #[{ on := 1, ground := Ground.data }], guard := none }) (v := ?v3) rfl (by kernel_rfl) (by kernel_rfl) (by kernel_rfl) (fun _ _ _ h => h) (Or.inl ⟨by rfl, ?hy3⟩) (by assumption) ?rest3
 case hy3 => intro w hSw; (try dsimp only at hSw); go_simp <;> with_reducible rfl
 try simp only [Act.put, List.setIfInBounds_toArray, List.set_cons_zero, List.set_cons_succ]
 refine wpAnyH_take (i := 3) (oi := { dst := some 27, op := Op.load 30 (Operand.tmp 26), type := 30, pos := "wal.go:50", after := #[{ on := 2, ground := Ground.data }], guard := none }) (v := ?v4) rfl (by kernel_rfl) (by kernel_rfl) (by kernel_rfl) (fun _ _ _ h => h) (Or.inl ⟨by rfl, ?hy4⟩) (by assumption) ?rest4
 case hy4 => intro w hSw; (try dsimp only at hSw); go_simp <;> with_reducible rfl
 try simp only [Act.put, List.setIfInBounds_toArray, List.set_cons_zero, List.set_cons_succ]
 refine wpAnyH_take (i := 4) (oi := { dst := some 28, op := Op.load 38 (Operand.tmp 3), type := 38, pos := "wal.go:50", after := #[], guard := none }) (v := ?v5) rfl (by kernel_rfl) (by kernel_rfl) (by kernel_rfl) (fun _ _ _ h => h) (Or.inl ⟨by rfl, ?hy5⟩) (by assumption) ?rest5
 case hy5 => intro w hSw; (try dsimp only at hSw); go_simp <;> with_reducible rfl
 try simp only [Act.put, List.setIfInBounds_toArray, List.set_cons_zero, List.set_cons_succ]
 refine wpAnyH_ready (rs := [5]) (by kernel_rfl) (by simp) ?_
 refine AllReadyH.cons (o := { dst := some 29, op := Op.call { callee := Callee.value (Operand.func 42), args := #[Operand.tmp 28], argTypes := #[38] }, type := 33, pos := "wal.go:50", after := #[{ on := 4, ground := Ground.data }], guard := none }) rfl (fun K hK => ?_) AllReadyH.nil
 go_simp
 go_at_call 42
 with_reducible refine (hB _ hk2.out).mono ?_
 rintro e w5 ⟨A5, c5, n5, hn5, rfl, hown5, hq5⟩
 rw [hlb.out] at hown5 hn5
 have hx5 := Lib.hid (hx2.out.cln hq5)
 have hb5 := Lib.hid (hb2.out.cln hq5)
 have hk5 := Lib.hid (cln_trans hk2.out hq5)
 have hge5 := Lib.hid hk2.out.size
 replace hown5 := Lib.hid hown5
 (try go_wp2_with fail)
 refine hK.out _ _ ?_ (fun hHeld2 => ?_)
 ·exact ⟨hx5.out.cell 0, hb5.out.cell 0, hb5.out.cell 1⟩
 clear hK K hHeld hB hq5
 replace hHeld := hHeld2
 clear hHeld2
 try simp only [Act.put, List.setIfInBounds_toArray, List.set_cons_zero, List.set_cons_succ]
 have hAp := rl_append (A := A5) (n := n5) (c := c5) (hH.out.cln hk5.out) hd hleft.out hw.out hp.out (hbH.out.cln hk5.out) haH.out hfit.out (own_rd hown5.out) (own_cap hown5.out)
  (fun ad e => ⟨(own_ge hown5.out ad.block (by rw [e]; rfl)).2, dblk_new hH.out hk5.out (Nat.le_trans hge5.out (own_ge hown5.out ad.block (by rw [e]; rfl)).1)⟩) (Nat.le_trans (Nat.le_of_eq hn5.out) (Nat.le_trans h2048.out (by decide))) (by rw [hn5.out]; exact hfH.out)
 refine wpAnyH_ready (rs := [6]) (by kernel_rfl) (by simp) ?_
 refine AllReadyH.cons (o := { dst := some 30, op := Op.call { callee := Callee.value (Operand.func 9), args := #[Operand.tmp 27, Operand.tmp 29], argTypes := #[30, 33] }, type := 25, pos := "wal.go:50", after := #[{ on := 3, ground := Ground.data }, { on := 5, ground := Ground.data }, { on := 5, ground := Ground.chain }], guard := none }) rfl (fun K hK => ?_) AllReadyH.nil
 go_simp
 go_at_call 9
 with_reducible refine hAp.mono ?_
 rintro e w6 ⟨he6, hD6, hL6, hT6, hF6⟩
 rw [hn5.out] at hF6
 generalize hd1 : putD d (fr + a) (secsS (wLot x)) = d1 at he6 hD6 hT6 hF6
 replace hd1 := Lib.hid hd1
 obtain ⟨z, hz⟩ : ∃ z, z = downCode d1 := ⟨_, rfl⟩
 rw [← hz] at he6
 subst he6
 have hx6 := Lib.hid (hL6.blk (hH.out.cln hk5.out) hx5.out (by decide) (fun e => Blk.ne_ hx5.out (hbH.out.cln hk5.out) (by decide) e))
 have hb6 := Lib.hid (hL6.blk (hH.out.cln hk5.out) hb5.out (by decide) (fun e => Blk.ne_ hb5.out (hbH.out.cln hk5.out) (by decide) e))
 have hL6' := Lib.hid ((LStep.of_d (S := fun k => k = rb ∨ k = xb) (DStep.of_cln hH.out hk5.out)).trans (hL6.mono (fun k h => .inl h)))
 replace hD6 := Lib.hid hD6; replace hT6 := Lib.hid hT6; replace hF6 := Lib.hid hF6; replace hz := Lib.hid hz
 (try go_wp2_with fail)
 refine hK.out _ _ ?_ (fun hHeld2 => ?_)
 ·exact ⟨hx6.out.cell 0, hb6.out.cell 0, hb6.out.cell 1⟩
 clear hK K hHeld hAp hL6
 replace hHeld := hHeld2
 clear hHeld2
 try simp only [Act.put, List.setIfInBounds_toArray, List.set_cons_zero, List.set_cons_succ]
 refine wpAnyH_take (i := 7) (oi := { dst := some 7, op := Op.assign (Operand.tmp 30), type := 25, pos := "wal.go:50", after := #[{ on := 6, ground := Ground.data }, { on := 6, ground := Ground.chain }, { on := 0, ground := Ground.phase }, { on := 1, ground := Ground.phase }, { on := 2, ground := Ground.phase }, { on := 3, ground := Ground.phase }, { on := 4, ground := Ground.phase }, { on := 5, ground := Ground.phase }, { on := 6, ground := Ground.phase }], guard := none }) (v := ?v6) rfl (by kernel_rfl) (by kernel_rfl) (by kernel_rfl) (fun _ _ _ h => h) (Or.inl ⟨by rfl, ?hy6⟩) (by assumption) ?rest6
 case hy6 => intro w hSw; (try dsimp only at hSw); go_simp <;> with_reducible rfl
 try simp only [Act.put, List.setIfInBounds_toArray, List.set_cons_zero, List.set_cons_succ]
 refine wpAnyH_done (by kernel_rfl) ?_ _
 clear hHeld
 have hzc := hz.out
 unfold downCode at hzc
 cases hdn : d1.down with
 | true =>
  rw [hdn] at hzc
  obtain rfl : z = 14 := hzc
  have hT := Lib.hid (hT6.out hdn)
  have hfin : Hid (∀ (e : Ending), e = .returned (.int .i64 14) → PutPost W lo pb rb xb fr ln a (needS (wLot x).length) x.num d1 e w6) := fun e he => ⟨hL6'.out, (fun _ => ⟨he, hD6.out, hT.out, hx6.out⟩), (fun h => by rw [hdn] at h; cases h)⟩
  clear hdn
  go_wp2_with fail
  go_ret
  rw [hd1.out]
  exact hfin.out _ rfl
 | false =>
  rw [hdn] at hzc
  obtain rfl : z = 0 := hzc
  have hF := Lib.hid (hF6.out hdn)
  have hdnH := Lib.hid hdn
  have x0 := hx6.out.cell 0; have xl := hx6.out.lt
  have hY := rl_sync hD6.out hdn hF.out
  clear hdn hT6 hF6
  go_wp2_with fail
  refine hY.mono ?_; rintro e w7 ⟨rfl, hD7, hS7⟩
  have hx7 := Lib.hid (hS7.blk hD6.out hx6.out (by decide))
  have hb7 := Lib.hid (hS7.blk hD6.out hF.out (by decide))
  have hL7 := Lib.hid (hL6'.out.trans (LStep.of_d hS7))
  replace hD7 := Lib.hid hD7
  clear hY hS7 x0 xl
  have x0 := hx7.out.cell 0; have x1 := hx7.out.cell 1; have xl := hx7.out.lt; have f1 := hx7.out.frozen 1
  have tw : wrap64 (x.num + 1) = x.num + 1 := by have h1 := hnum.out; have h2 := hnum1.out; unfold wrap64; omega
  have hne : Hid (pb ≠ xb) := by
   obtain ⟨cs, hy⟩ := hD7.out.blk
   exact Blk.ne_ hy hx7.out (by decide)
  have hnr : Hid (rb ≠ xb) := Blk.ne_ hb7.out hx7.out (by decide)
  have hD8 := Lib.hid (hD7.out.set (i := 1) hx7.out (by decide) (.int .i64 (x.num + 1)))
  have hx8 := Lib.hid (hx7.out.set_ 1 (.int .i64 (x.num + 1)))
  have hb8 := Lib.hid (hb7.out.kept (keptSet w7 xb 1 (.int .i64 (x.num + 1))) hnr.out)
  have hL8 := Lib.hid (hL7.out.trans ((LStep.set (a := w7) (i := 1) (.int .i64 (x.num + 1)) hne.out).mono (fun k h => .inr h)))
  go_wp2_with fail
  go_ret
  rw [hd1.out]
  exact ⟨hL8.out, (fun h => by rw [hdnH.out] at h; cases h), fun _ => ⟨rfl, hD8.out, hb8.out, hx8.out⟩⟩
theorem wipe_blank (d : MDisk) : ∀ (n i : Nat) (b : Bool), (∀ j, i ≤ j → j < i + n → d.cur.getD j zsec = zsec) → wipeGo n d i b = (d, b)
 | 0, i, b, h => rfl
 | n + 1, i, b, h => by
  rw [wipeGo, if_pos (h i (Nat.le_refl _) (by omega))]
  exact wipe_blank d n (i + 1) b (fun j h1 h2 => h j (by omega) (by omega))
theorem roll_wipe {d : MDisk} {fr ln : Nat} {es : List (List UInt8)} (h : RollOn d fr ln es []) : wipeD d (fr + (layS es).length) (ln - (layS es).length) = d := by
 unfold wipeD
 rw [wipe_blank d (ln - (layS es).length) (fr + (layS es).length) false (fun j h1 h2 => ?_)]
 ·rfl
 ·obtain ⟨k, rfl⟩ : ∃ k, j = fr + k := ⟨j - fr, by omega⟩
  have hk : k < ln := by omega
  have ha := area_at (d := d) (from_ := fr) hk
  rw [h.areaS, List.getElem?_append_right (by omega)] at ha
  rw [List.getD_eq_getElem?_getD, ha]
  simp only [List.nil_append]
  rw [List.getElem?_replicate]
  split <;> rfl
def normL (x : MLot) : MLot := ⟨x.num, normDeals x.deals⟩
theorem openGo_lots (from_ : Int) : ∀ (ls : List MLot) (i : Nat) (acc : List MLot), (∀ (j : Nat) (x : MLot), ls[j]? = some x → (checkLot x).1 = 0 ∧ x.num = from_ + ((i + j : Nat) : Int) ∧ ∀ d ∈ x.deals, ∀ a ∈ d, FullA a) → openGo from_ i (ls.map wLot) acc = some (acc ++ ls.map normL)
 | [], i, acc, h => by simp [openGo]
 | x :: ls, i, acc, h => by
  obtain ⟨h1, h2, h3⟩ := h 0 x rfl
  rw [List.map_cons, openGo, readLot_wLot h1 h3, if_pos ⟨rfl, by simpa using h2⟩, openGo_lots from_ ls (i + 1) _ (fun j y hy => ?_)]
  ·simp [normL]
  ·have := h (j + 1) y (by simpa using hy)
   rw [show i + 1 + j = i + (j + 1) from by omega]; exact this
def LotsOk (from_ : Int) (ls : List MLot) : Prop := ∀ (j : Nat) (x : MLot), ls[j]? = some x → (checkLot x).1 = 0 ∧ x.num = from_ + (j : Int) ∧ ∀ d ∈ x.deals, ∀ a ∈ d, FullA a
theorem LotsOk.open_ {from_ : Int} {ls : List MLot} (h : LotsOk from_ ls) : openLots from_ (ls.map wLot) = some (ls.map normL) := by
 have := openGo_lots from_ ls 0 [] (fun j x hx => by rw [Nat.zero_add]; exact h j x hx)
 simpa [openLots] using this
theorem LotsOk.nil (from_ : Int) : LotsOk from_ [] := fun j x h => by simp at h
theorem LotsOk.snoc {from_ : Int} {ls : List MLot} (h : LotsOk from_ ls) {x : MLot} (h1 : (checkLot x).1 = 0) (h2 : x.num = from_ + (ls.length : Int)) (h3 : ∀ d ∈ x.deals, ∀ a ∈ d, FullA a) : LotsOk from_ (ls ++ [x]) := fun j y hy => by
 by_cases hj : j < ls.length
 ·rw [List.getElem?_append_left hj] at hy; exact h j y hy
 ·rw [List.getElem?_append_right (by omega)] at hy
  have hj2 : j = ls.length := by
   have := (List.getElem?_eq_some_iff.1 hy).1
   simp at this; omega
  subst hj2
  simp at hy; subst hy
  exact ⟨h1, h2, h3⟩
theorem LotsOk.empty_bad {from_ : Int} {ls : List MLot} (h : LotsOk from_ ls) {k : Int} (hk : k ≠ from_) (hl : 0 < ls.length) : openLots k (ls.map wLot) = none := by
 cases ls with
 | nil => simp at hl
 | cons x ls =>
  obtain ⟨h1, h2, h3⟩ := h 0 x rfl
  unfold openLots
  rw [List.map_cons, openGo, readLot_wLot h1 h3, if_neg]
  rintro ⟨_, he⟩
  simp at h2 he
  omega
structure LogOn (w0 W : World) (lo pb : Nat) (d : MDisk) (fr ln : Nat) (es : List (List UInt8)) (B : Nat) : Prop where
 cln : Cln w0 W
 low : w0.heap.size ≤ lo
 disk : IsDisk W lo pb d
 roll : RollOn d fr ln es []
 up : d.down = false
 left : d.left = 0
 wr : 0 ≤ d.writes ∧ d.writes ≤ (B : Int)
 pend : d.pend.length ≤ B
structure LogAt (W : World) (lo pb rb xb fr ln a : Nat) (next : Int) : Prop where
 rlo : lo ≤ rb
 xlo : lo ≤ xb
 rblk : Blk W rb 77 #[.pointer (some ⟨pb, 0, none⟩), .int .i64 (fr : Nat), .int .i64 (ln : Nat), .int .i64 (a : Nat)]
 xblk : Blk W xb 93 #[.pointer (some ⟨rb, 0, none⟩), .int .i64 next]
section
variable {w0 W : World} {lo pb : Nat} {d : MDisk} {fr ln : Nat} {es : List (List UInt8)} {B : Nat} {W' : World} {rb xb a : Nat} {next : Int}
theorem LogOn.cln_ (h : LogOn w0 W lo pb d fr ln es B) (k : Cln W W') : LogOn w0 W' lo pb d fr ln es B := ⟨cln_trans h.cln k, h.low, h.disk.cln k, h.roll, h.up, h.left, h.wr, h.pend⟩
theorem LogAt.cln_ (h : LogAt W lo pb rb xb fr ln a next) (k : Cln W W') : LogAt W' lo pb rb xb fr ln a next := ⟨h.rlo, h.xlo, h.rblk.cln k, h.xblk.cln k⟩
theorem LogAt.dstep (h : LogAt W lo pb rb xb fr ln a next) (k : DStep pb W W') (hd : IsDisk W lo pb d) : LogAt W' lo pb rb xb fr ln a next := ⟨h.rlo, h.xlo, k.blk hd h.rblk (by decide), k.blk hd h.xblk (by decide)⟩
theorem LogOn.kinds (h : LogOn w0 W lo pb d fr ln es B) (hK : KindsAt w0) : KindsAt W ∧ 1 < lo := ⟨hK.cln h.cln, Nat.lt_of_lt_of_le hK.lt h.low⟩
theorem LogOn.fit (h : LogOn w0 W lo pb d fr ln es B) : ln ≤ 4096 ∧ (layS es).length ≤ ln := by
 have h1 := h.roll.fits; have h2 := h.disk.pos.2; have h3 := h.roll.room
 simp at h3; omega
theorem LStep.cln {S : Nat → Prop} {a b w : World} (h : LStep S pb a b) (hd : IsDisk a lo pb d) (hw : Cln w a) (hlo : w.heap.size ≤ lo) (hS : ∀ k, S k → lo ≤ k) : Cln w b :=
 hw.trans (Below.mono (h.kept.toBelow (B := w.heap.size) hw.size fun i hi hk => by
  rcases hk with hk | hk
  ·have := (hd.mem hk).1; omega
  ·have := hS i hk; omega) (Nat.le_refl _))
theorem lg_left (h : LogOn w0 W lo pb d fr ln es B) (hx : LogAt W lo pb rb xb fr ln (layS es).length next) : Calls Tryz.prog 21 #[.pointer (some ⟨xb, 0, none⟩)] W fun e w' => e = .returned (.int .i64 ((ln - (layS es).length : Nat) : Nat)) ∧ Cln W w' :=
 wl_left hx.xblk hx.rblk h.fit.1 h.fit.2
theorem lg_next (hx : LogAt W lo pb rb xb fr ln a next) : Calls Tryz.prog 20 #[.pointer (some ⟨xb, 0, none⟩)] W fun e w' => e = .returned (.int .i64 next) ∧ Cln W w' := wl_next hx.xblk
end
def LgOpen (w0 W : World) (lo pb : Nat) (d : MDisk) (fr ln : Nat) (es : List (List UInt8)) (B : Nat) (from_ : Int) (e : Ending) (w' : World) : Prop :=
 LogOn w0 w' lo pb d fr ln es B ∧ DStep pb W w' ∧ match openLots from_ es with
 | none => e = .returned (.tuple #[.pointer none, .slice none 0 0, .int .i64 4])
 | some xs => ∃ xb rb A n c q, e = .returned (.tuple #[.pointer (some ⟨xb, 0, none⟩), .slice A n c, .int .i64 0]) ∧ q.map LQ.x = xs ∧ (∃ b0, W.heap.size ≤ b0 ∧ OwnLots w' b0 (.slice A n c) n q ∧ ∀ k, dblk w' pb k → k < b0) ∧ LogAt w' lo pb rb xb fr ln (layS es).length (from_ + (n : Int))
theorem lg_open {w0 W : World} {lo pb : Nat} {d : MDisk} {fr ln : Nat} {es : List (List UInt8)} {B : Nat} (h : LogOn w0 W lo pb d fr ln es B) (hK : KindsAt w0) (h1 : 1 ≤ ln) (hB : B ≤ 900000) (from_ : Int) (hf1 : 1 ≤ from_) (hf2 : from_ ≤ 1099511627776) :
  Calls Tryz.prog 12 #[.pointer (some ⟨pb, 0, none⟩), .agg #[.int .i64 (fr : Nat), .int .i64 (ln : Nat)], .int .i64 from_] W (LgOpen w0 W lo pb d fr ln es B from_) := by
 have hs := h.roll.scanS
 have hwi := roll_wipe h.roll
 refine (wl_open h.disk (h.kinds hK).1 (h.kinds hK).2 fr ln h1 h.roll.fits h.up h.left ⟨h.wr.1, by have := h.wr.2; omega⟩ (by have := h.pend; omega) from_ hf1 hf2).mono ?_
 rintro e w' ⟨hD, hS, hM⟩
 rw [hs] at hD hM
 simp only at hD hM
 rw [hwi] at hD
 refine ⟨⟨hS.cln h.disk h.cln h.low, h.low, hD, h.roll, h.up, h.left, h.wr, h.pend⟩, hS, ?_⟩
 cases ho : openLots from_ es with
 | none => rw [ho] at hM; exact hM
 | some xs =>
  rw [ho] at hM
  obtain ⟨xb, rb, A, n, c, q, he, hq, hO, hb, hx, hr1, hx1⟩ := hM
  have hlo : lo ≤ W.heap.size := Nat.le_trans h.disk.low (Nat.le_of_lt h.disk.lt)
  exact ⟨xb, rb, A, n, c, q, he, hq, hO, Nat.le_trans hlo hr1, Nat.le_trans hlo hx1, hb, hx⟩
def LgPut (w0 W : World) (lo pb rb xb : Nat) (d : MDisk) (fr ln : Nat) (es : List (List UInt8)) (B : Nat) (x : MLot) (e : Ending) (w' : World) : Prop :=
 e = .returned (.int .i64 0) ∧ LStep (fun k => k = rb ∨ k = xb) pb W w' ∧ LogAt w' lo pb rb xb fr ln (layS (es ++ [wLot x])).length (x.num + 1) ∧ ∃ d', LogOn w0 w' lo pb d' fr ln (es ++ [wLot x]) (B + 64) ∧ d'.pend = []
theorem lg_put {w0 W : World} {lo pb : Nat} {d : MDisk} {fr ln : Nat} {es : List (List UInt8)} {B : Nat} {rb xb : Nat} (x : MLot) (h : LogOn w0 W lo pb d fr ln es B) (hx : LogAt W lo pb rb xb fr ln (layS es).length x.num) (hK : KindsAt w0) (hB : B ≤ 900000) (A : Option Addr) (n c : Nat) (hmod : Mod x.deals) (hr : RdDeals W A n x.deals) (hc : (checkLot x).1 = 0) (hf : needS (wLot x).length ≤ ln - (layS es).length) :
  Calls Tryz.prog 16 #[.pointer (some ⟨xb, 0, none⟩), .agg #[.int .i64 x.num, .slice A n c]] W (LgPut w0 W lo pb rb xb d fr ln es B x) := by
 have h48 := (lot_ok hc).2.2.2.2.1
 have hneed := ap_need (n := (wLot x).length) (by omega)
 have hu := putD_up (secsS (wLot x)) d (fr + (layS es).length) h.left h.up
 rw [secs_len] at hu
 have hfit := h.fit
 refine (wl_put x h.disk (h.kinds hK).1 hx.xblk hx.rblk h.up (by rw [h.left]; omega) ⟨h.wr.1, by have := h.wr.2; omega⟩ (by have := h.pend; omega) hfit.2 h.roll.fits A n c hmod hr hc hf).mono ?_
 rintro e w' ⟨hL, _, hU⟩
 obtain ⟨he, hD, hb, hxb⟩ := hU hu.2.1
 have hR := RollOn.put (secsS (wLot x)) d [] h.roll h.left h.up (by rw [secs_len]; simp; omega) (secs_each _)
 rw [List.length_nil, Nat.add_zero, List.nil_append] at hR
 have hR2 := (hR.sync).grow (by omega)
 have hlay : (layS (es ++ [wLot x])).length = (layS es).length + needS (wLot x).length := by rw [lay_append, List.length_append]; simp [layS, secs_len]
 refine ⟨he, hL, ⟨hx.rlo, hx.xlo, by rw [hlay]; exact hb, hxb⟩, _, ⟨hL.cln h.disk h.cln h.low (fun k hk => ?_), h.low, hD, hR2, hu.2.1, hu.1, ?_, ?_⟩, rfl⟩
 ·rcases hk with rfl | rfl
  ·exact hx.rlo
  ·exact hx.xlo
 ·show 0 ≤ (putD d (fr + (layS es).length) (secsS (wLot x))).writes ∧ (putD d (fr + (layS es).length) (secsS (wLot x))).writes ≤ ((B + 64 : Nat) : Int)
  rw [hu.2.2.1]; have := h.wr; omega
 ·exact Nat.zero_le _
section
variable {w0 W : World} {lo pb : Nat} {d : MDisk} {fr ln : Nat} {es : List (List UInt8)} {B : Nat} {rb xb a : Nat} {next : Int}
theorem lg_put_num (hx : LogAt W lo pb rb xb fr ln a next) {num : Int} (hne : num ≠ next) (A : Option Addr) (n c : Nat) :
  Calls Tryz.prog 16 #[.pointer (some ⟨xb, 0, none⟩), .agg #[.int .i64 num, .slice A n c]] W fun e w' => e = .returned (.int .i64 4) ∧ Cln W w' := wl_put_num hx.xblk hne A n c
theorem lg_put_bad (x : MLot) (h : LogOn w0 W lo pb d fr ln es B) (hx : LogAt W lo pb rb xb fr ln a x.num) (hK : KindsAt w0) (A : Option Addr) (n c : Nat) (hmod : Mod x.deals) (hr : RdDeals W A n x.deals) (hc : (checkLot x).1 ≠ 0) :
  Calls Tryz.prog 16 #[.pointer (some ⟨xb, 0, none⟩), .agg #[.int .i64 x.num, .slice A n c]] W fun e w' => e = .returned (.int .i64 ((checkLot x).1 : Nat)) ∧ Cln W w' := wl_put_bad x hx.xblk (h.kinds hK).1 A n c hmod hr hc
theorem lg_put_full (x : MLot) (h : LogOn w0 W lo pb d fr ln es B) (hx : LogAt W lo pb rb xb fr ln (layS es).length x.num) (hK : KindsAt w0) (A : Option Addr) (n c : Nat) (hmod : Mod x.deals) (hr : RdDeals W A n x.deals) (hc : (checkLot x).1 = 0) (hf : ln - (layS es).length < needS (wLot x).length) :
  Calls Tryz.prog 16 #[.pointer (some ⟨xb, 0, none⟩), .agg #[.int .i64 x.num, .slice A n c]] W fun e w' => e = .returned (.int .i64 8) ∧ Cln W w' := wl_put_full x h.disk (h.kinds hK).1 hx.xblk hx.rblk h.up h.fit.2 h.fit.1 A n c hmod hr hc hf
end
theorem lg_new (w0 w : World) (hw : Cln w0 w) (nn fr ln : Nat) (h1 : 1 ≤ nn) (h2 : nn ≤ 4096) (hfit : fr + ln ≤ nn) : Calls Tryz.prog 7 #[.int .i64 (nn : Nat)] w fun e w' => ∃ pb, e = .returned (.tuple #[.pointer (some ⟨pb, 0, none⟩), .int .i64 0]) ∧ LogOn w0 w' w.heap.size pb (newDisk nn) fr ln [] 0 :=
 (dk_new nn h1 h2 w).mono fun e w' h => by
  obtain ⟨pb, he, hD, hk⟩ := h
  exact ⟨pb, he, cln_trans hw hk, hw.size, hD, RollOn.new nn fr ln hfit, rfl, rfl, ⟨Int.le_refl _, Int.le_refl _⟩, Nat.le_refl _⟩
end Go.Proofs.YtbemnfbndjolpaaGreatDoor
