import Derived.Test.YtbemnfbndjolpaaGreatDoorOwns
import Derived.Test.YtbemnfbndjolpaaGreatDoorDisks
import Derived.Test.YtbemnfbndjolpaaGreatDoorSeals
import Derived.OwnWalk
/- Rows of rows of bytes that a call makes itself. -/
set_option linter.unusedSimpArgs false
set_option linter.unusedVariables false
set_option maxRecDepth 20000
namespace Go.Proofs.YtbemnfbndjolpaaGreatDoor
open Go.RowKit Moi
structure BQ where
 b : List UInt8
 A : Option Addr
 c : Nat
def BQ.vals (q : BQ) : List Value := [.slice q.A q.b.length q.c]
def BQ.rd (q : BQ) (W : World) : Prop := W.ownsRow 0 5 1 (.slice q.A q.b.length q.c) q.b.length (byteVals q.b)
abbrev OwnBs : World → Nat → Value → Nat → List BQ → Prop := OwnQ 33 1 BQ.vals BQ.rd
theorem BQ.rd.bytes {q : BQ} {W : World} (h : BQ.rd q W) : RdBytes W q.A q.b.length q.b ∧ q.b.length ≤ q.c ∧ ∀ ad, q.A = some ad → ad.block < W.heap.size := by
 refine ⟨own_rd h, own_cap h, ?_⟩
 obtain ⟨A, c, hv, hA, _⟩ := own_form h
 injection hv with h1 _ _
 intro ad e
 exact (hA ad (h1 ▸ e)).2.2.2
theorem own_lower {W : World} {base e sz n : Nat} {v : Value} {xs : List Value} (h : W.ownsRow base e sz v n xs) {b2 : Nat} (hb : b2 ≤ base) : W.ownsRow b2 e sz v n xs := by
 refine ⟨h.1, ?_⟩
 rcases h.2 with h1 | ⟨g, cap, cur, hv, hg, r⟩
 ·exact .inl h1
 ·exact .inr ⟨g, cap, cur, hv, Nat.le_trans hb hg, r⟩
theorem bq_only {W : World} {base : Nat} {q : BQ} (h : W.ownsRow base 5 1 (.slice q.A q.b.length q.c) q.b.length (byteVals q.b)) : OnlyBy (fun k => base ≤ k ∧ k < W.heap.size) W (BQ.rd q) :=
 fun w' hk => own_lower (own_same h fun g hg => hk g (own_ge h g hg)) (Nat.zero_le _)
theorem bqVals_length (l : List BQ) : (l.flatMap BQ.vals).length = l.length := by
 induction l with
 | nil => rfl
 | cons x l ih => simp only [List.flatMap_cons, List.length_append, List.length_cons]; rw [ih]; simp [BQ.vals]; omega
theorem bqVals_get (l : List BQ) : ∀ i, i < l.length → (l.flatMap BQ.vals)[i]? = some (.slice (l.getD i ⟨[], none, 0⟩).A (l.getD i ⟨[], none, 0⟩).b.length (l.getD i ⟨[], none, 0⟩).c) := by
 induction l with
 | nil => intro i hi; simp at hi
 | cons x l ih =>
  intro i hi
  cases i with
  | zero => simp [BQ.vals]
  | succ i =>
   simp only [List.flatMap_cons, List.getD_cons_succ]
   rw [List.getElem?_append_right (by simp [BQ.vals]), show i + 1 - x.vals.length = i from by simp [BQ.vals]]
   exact ih i (by simpa using hi)
theorem bqVals_snoc (acc : List BQ) (b : List UInt8) (A : Option Addr) (c : Nat) : acc.flatMap BQ.vals ++ [.slice A b.length c] = (acc ++ [(⟨b, A, c⟩ : BQ)]).flatMap BQ.vals := by simp [BQ.vals]
theorem OwnBs.len {W : World} {base n : Nat} {v : Value} {l : List BQ} (h : OwnBs W base v n l) : l.length = n := by have := h.own.1; rw [bqVals_length] at this; omega
theorem Tryz.info33 : (Tryz.prog.info? 33).map (fun i => (i.zero, i.size, i.bytes)) = some (some (.slice none 0 0), 1, 24) := by kernel_rfl
def ScanPost (W : World) (r : List (List UInt8) × Nat) (e : Ending) (w' : World) : Prop :=
 Cln W w' ∧ ∃ A n c q, e = .returned (.tuple #[.slice A n c, .int .i64 (r.2 : Nat), .int .i64 0]) ∧ q.map BQ.b = r.1 ∧ OwnBs w' W.heap.size (.slice A n c) n q
structure ScanSt (W wr : World) (d : MDisk) (fr ln a k n : Nat) (q : List BQ) (A : Option Addr) (c : Nat) : Prop where
 cln : Cln W wr
 own : OwnBs wr W.heap.size (.slice A n c) n q
 box : Blk wr W.heap.size 29 #[.int .i64 (fr : Nat), .int .i64 (ln : Nat)]
 rest : scanS (areaS d fr ln) = scanGo k ((areaS d fr ln).drop a) (q.map BQ.b) a
 fit : a ≤ ln
 cnt : n ≤ a
 fuel : ((areaS d fr ln).drop a).length ≤ k
theorem ScanSt.kept {W wr w' : World} {d : MDisk} {fr ln a k n : Nat} {q : List BQ} {A : Option Addr} {c : Nat} (h : ScanSt W wr d fr ln a k n q A c) (hq : Cln wr w') : ScanSt W w' d fr ln a k n q A c :=
 ⟨cln_trans h.cln hq, OwnQ.cln h.own hq, h.box.cln hq, h.rest, h.fit, h.cnt, h.fuel⟩
theorem scan_nums {d : MDisk} {fr ln a m : Nat} (hfit : fr + ln ≤ d.firm.length) (h4 : d.firm.length ≤ 4096) (ha : a ≤ ln) (hm : m ≤ ((areaS d fr ln).drop a).length) : a + m ≤ ln ∧ wrap64 ((a : Int) + (m : Int)) = (a : Int) + (m : Int) ∧ a ≤ 4096 := by
 rw [List.length_drop, area_len hfit] at hm
 unfold wrap64; omega
theorem len_ne {m : Nat} (h : 1 ≤ m) : ((m : Int) == 0) = false := by rw [beq_eq_false_iff_ne]; omega
theorem scan_big {n a : Nat} (h : n ≤ a) (ha : a ≤ 4096) : (n + 1) * 24 ≤ 140737488355328 := by omega
theorem scan_meas {a m ln : Nat} (h : a + m ≤ ln) (hm : 1 ≤ m) : ((ln : Int) - intOf (.int .i64 ((a : Int) + (m : Int)))).toNat < ((ln : Int) - intOf (.int .i64 (a : Int))).toNat := by simp only [intOf]; omega
theorem cnt_next {n a m : Nat} (h : n ≤ a) (hm : 1 ≤ m) : n + 1 ≤ a + m := by omega
set_option maxHeartbeats 4000000 in
theorem rl_scan {W : World} {lo pb : Nat} {d : MDisk} (h : IsDisk W lo pb d) (fr ln : Nat) (h1 : 1 ≤ ln) (hfit : fr + ln ≤ d.firm.length) (hd : d.down = false) :
  Calls Tryz.prog 26 #[.pointer (some ⟨pb, 0, none⟩), .agg #[.int .i64 (fr : Nat), .int .i64 (ln : Nat)]] W (ScanPost W (scanS (areaS d fr ln))) := by
 have hk0 : Cln W (W.alloc (.cells #[.int .i64 (fr : Nat), .int .i64 (ln : Nat)] 29)) := by (repeat with_reducible first | exact cR _ | assumption | refine cA ?_ _ | refine cD ?_ | refine cN ?_ _ | refine cS ?_ (by first | omega | (simp <;> omega)) _)
 have hS0 : Hid (ScanSt W (W.alloc (.cells #[.int .i64 (fr : Nat), .int .i64 (ln : Nat)] 29)) d fr ln 0 (areaS d fr ln).length 0 [] none 0) := ⟨hk0, OwnQ.nil _ _ _ _ _ _, Blk.new W _ _, rfl, Nat.zero_le _, Nat.zero_le _, by simp⟩
 have cD : ∀ w, Cln W w → Calls Tryz.prog 28 #[.pointer (some ⟨pb, 0, none⟩)] w fun e w' => e = .returned (.bool false) ∧ Cln w w' := fun w k => by have := dk_down (h.cln k); rw [hd] at this; exact this
 have cF : ∀ w, Cln W w → Calls Tryz.prog 46 #[.pointer (some ⟨pb, 0, none⟩), .agg #[.int .i64 (fr : Nat), .int .i64 (ln : Nat)]] w fun e w' => e = .returned (.bool true) ∧ Cln w w' := fun w k => rl_fits (h.cln k) fr ln h1 hfit
 have cO : ∀ w a, Cln W w → a ≤ ln → Calls Tryz.prog 47 #[.pointer (some ⟨pb, 0, none⟩), .agg #[.int .i64 (fr : Nat), .int .i64 (ln : Nat)], .int .i64 (a : Nat)] w (OnePost w (oneS ((areaS d fr ln).drop a))) := fun w a k ha => rl_one (h.cln k) fr ln a hfit ha hd
 have hfit' := Lib.hid hfit
 have h4 := Lib.hid h.pos.2
 have c00 := hS0.out.box.cell 0; have c01 := hS0.out.box.cell 1; have c0l := hS0.out.box.lt
 clear h hk0 h1 hfit hd
 go_enter Tryz.func26, Tryz.ntmps26
 go_wp2_with fail
 refine (cD _ hS0.out.cln).mono ?_; rintro e w1 ⟨rfl, hq⟩
 have hS1 := Lib.hid (hS0.out.kept hq)
 clear hS0 hq c00 c01 c0l
 have c00 := hS1.out.box.cell 0; have c01 := hS1.out.box.cell 1; have c0l := hS1.out.box.lt
 go_wp2_with fail
 refine (cF _ hS1.out.cln).mono ?_; rintro e w2 ⟨rfl, hq⟩
 have hS2 := Lib.hid (hS1.out.kept hq)
 clear hS1 hq c00 c01 c0l cD cF
 go_wp2_with fail
 go_loopw [8, 7] (fun v u wr => ∃ (a k n : Nat) (q : List BQ) (A : Option Addr) (c : Nat), v = .int .i64 (a : Nat) ∧ u = .slice A n c ∧ Hid (ScanSt W wr d fr ln a k n q A c)) (fun v _ _ => ((ln : Int) - intOf v).toNat)
 case atStart => exact ⟨0, _, 0, [], none, 0, rfl, rfl, hS2⟩
 case round =>
  clear hS2
  obtain ⟨a, k, n, q, A, c, rfl, rfl, hS⟩ := hrel
  have c00 := hS.out.box.cell 0; have c01 := hS.out.box.cell 1; have c0l := hS.out.box.lt
  have hO := cO wr a hS.out.cln hS.out.fit
  go_wp2_with fail
  refine hO.mono ?_
  clear hO c00 c01 c0l
  intro e w1 hP
  have hS1 := Lib.hid (hS.out.kept hP.1)
  cases ho : oneS ((areaS d fr ln).drop a) with
  | none =>
   rw [ho] at hP
   obtain ⟨hq, rfl⟩ := hP
   have hfin : Hid (scanS (areaS d fr ln) = (q.map BQ.b, a)) := by unfold Hid; rw [hS1.out.rest, scan_none ho]
   clear ho hq hS cO
   go_wp2_with fail
   go_ret3
   refine ⟨hS1.out.cln, A, n, c, q, ?_, ?_, hS1.out.own⟩
   ·rw [hfin.out]; rfl
   ·rw [hfin.out]
  | some x =>
   rw [ho] at hP
   obtain ⟨b, m⟩ := x
   obtain ⟨hq, A1, c1, rfl, hown1⟩ := hP
   have hl := one_len ho
   obtain ⟨hn1, hn2, hn3⟩ := scan_nums hfit'.out h4.out hS1.out.fit hl.2.1
   have tm := len_ne hl.1
   have hst := Lib.hid (scan_some (acc := q.map BQ.b) (a := a) hS1.out.fuel ho)
   have hm1 := Lib.hid hl.1
   have hq1 := Lib.hid (bq_only (q := ⟨b, A1, c1⟩) hown1)
   have hbig := scan_big hS1.out.cnt hn3
   have hob := Lib.hid (fun g hg => (own_ge hS.out.own.own g hg).2)
   have hWs := Lib.hid (hS.out.cln.size)
   have hW1 : W.heap.size ≤ w1.heap.size := hS1.out.cln.size
   obtain ⟨i0, hi0, hz0, hz1, hz2⟩ := info_parts Tryz.info33
   replace hn1 := Lib.hid hn1
   replace hn3 := Lib.hid hn3
   replace hown1 := Lib.hid hown1
   clear ho hq hl hS
   go_wp2_with (at_builtin; apply stop_here)
   refine Hid.out ?_
   show wpList _ _ _ _ _ _
   refine wpList_pushAt rfl _ _ 22 rfl W.heap.size 33 i0 (.slice none 0 0) 1 24 Tryz.underlying22 hi0 hz0 hz1 hz2 rfl (by decide) (by decide) (.slice A n c) n (q.flatMap BQ.vals) [.slice A1 b.length c1] rfl (by simp [Value.oneCell']) rfl rfl hS1.out.own.own hbig hW1 ?_
   intro v' w4 hown4 hgr4 hv4
   obtain ⟨A4, c4, rfl, _, _⟩ := own_form hown4
   have hO4 : Hid (OwnBs w4 W.heap.size (.slice A4 (n + 1) c4) (n + 1) (q ++ [(⟨b, A1, c1⟩ : BQ)])) :=
    OwnQ.push (P := BQ.rd) (b1 := wr.heap.size) (q := (⟨b, A1, c1⟩ : BQ)) hS1.out.own (by rw [← bqVals_snoc]; exact hown4) hgr4 hv4 hWs.out hob.out hq1.out
   have hbox4 := Lib.hid (grown_blk (hS1.out.own.own.alloc _) hgr4 (hS1.out.box.alloc _) (by decide))
   have hc4 : Hid (Cln W w4) := ((Kept.of_below (S := fun k => W.heap.size ≤ k) hS1.out.cln).alloc _ |>.grown hgr4 (fun k hk _ => (own_ge hS1.out.own.own k hk).1)).toBelow (Nat.le_refl _) (fun k hk h => by have h : W.heap.size ≤ k := h; omega)
   have hS4 : Hid (ScanSt W w4 d fr ln (a + m) (k - 1) (n + 1) (q ++ [(⟨b, A1, c1⟩ : BQ)]) A4 c4) :=
    ⟨hc4.out, hO4.out, hbox4.out, by rw [hS1.out.rest, hst.out.1, List.map_append, List.drop_drop]; rfl, hn1.out, cnt_next hS1.out.cnt hm1.out, by have := hst.out.2; rw [List.drop_drop] at this; exact this⟩
   clear hown4 hgr4 hv4 hO4 hbox4 hc4 hS1 hst hq1 hob hWs hW1 hown1 hi0 hz0 hz1 hz2
   go_wp2_with fail
   go_roundw
   case rel => exact ⟨a + m, k - 1, n + 1, _, A4, c4, by first | (rw [hn2]; rfl) | rfl, rfl, hS4⟩
   case measure => first | (rw [hn2]; exact scan_meas hn1.out hm1.out) | exact scan_meas hn1.out hm1.out
theorem dblk_cln {a b : World} {lo pb i : Nat} {d : MDisk} (h : IsDisk a lo pb d) (k : Cln a b) (hb : dblk b pb i) : dblk a pb i := by
 have e : b.heap[pb]? = a.heap[pb]? := k.block pb h.lt
 rcases hb with hb | ⟨n, c, hb⟩ | ⟨n, c, hb⟩
 ·exact .inl hb
 ·exact .inr (.inl ⟨n, c, by rw [World.cell?_of_block (a := ⟨pb, 0, none⟩) e] at hb; exact hb⟩)
 ·exact .inr (.inr ⟨n, c, by rw [World.cell?_of_block (a := ⟨pb, 1, none⟩) e] at hb; exact hb⟩)
theorem dblk_new {a b : World} {lo pb i : Nat} {d : MDisk} (h : IsDisk a lo pb d) (k : Cln a b) (hi : a.heap.size ≤ i) : ¬ dblk b pb i := fun hb => by
 have := (h.mem (dblk_cln h k hb)).2.1
 omega
theorem scanGo_le : ∀ (k : Nat) (l : List Sec) (acc : List (List UInt8)) (a : Nat), (scanGo k l acc a).2 ≤ a + l.length
 | 0, l, acc, a => by simp [scanGo]
 | k + 1, l, acc, a => by
  rw [scanGo]
  cases ho : oneS l with
  | none => simp
  | some x =>
   obtain ⟨b, n⟩ := x
   have h1 := one_len ho
   have h2 := scanGo_le k (l.drop n) (acc ++ [b]) (a + n)
   rw [List.length_drop] at h2
   simp only
   omega
theorem scan_le (l : List Sec) : (scanS l).2 ≤ l.length := by have := scanGo_le l.length l [] 0; unfold scanS; omega
theorem OwnQ.lower {α : Type} {T : TypeId} {sz : Nat} {vals : α → List Value} {P : α → World → Prop} {W : World} {base b2 n : Nat} {v : Value} {l : List α} (h : OwnQ T sz vals P W base v n l) (hb : b2 ≤ base) : OwnQ T sz vals P W b2 v n l :=
 ⟨own_lower h.own hb, fun q hq => (h.it q hq).mono fun k hk => ⟨Nat.le_trans hb hk.1, hk.2⟩⟩
def ROpenPost (W : World) (lo pb : Nat) (d : MDisk) (fr ln : Nat) (e : Ending) (w' : World) : Prop :=
 ∃ rb A n c q, e = .returned (.tuple #[.pointer (some ⟨rb, 0, none⟩), .slice A n c, .int .i64 0]) ∧ q.map BQ.b = (scanS (areaS d fr ln)).1 ∧ OwnBs w' W.heap.size (.slice A n c) n q ∧
  Blk w' rb 77 #[.pointer (some ⟨pb, 0, none⟩), .int .i64 (fr : Nat), .int .i64 (ln : Nat), .int .i64 ((scanS (areaS d fr ln)).2 : Nat)] ∧ W.heap.size ≤ rb ∧
  IsDisk w' lo pb (wipeD d (fr + (scanS (areaS d fr ln)).2) (ln - (scanS (areaS d fr ln)).2)) ∧ DStep pb W w'
theorem ropen_nums {fr ln m nn : Nat} (hfit : fr + ln ≤ nn) (h4 : nn ≤ 4096) (hm : m ≤ ln) : wrap64 ((fr : Int) + (m : Int)) = ((fr + m : Nat) : Int) ∧ wrap64 ((ln : Int) - (m : Int)) = ((ln - m : Nat) : Int) ∧ fr + m + (ln - m) ≤ nn := by
 unfold wrap64; omega
set_option maxHeartbeats 4000000 in
theorem rl_open {W : World} {lo pb : Nat} {d : MDisk} (h : IsDisk W lo pb d) (fr ln : Nat) (h1 : 1 ≤ ln) (hfit : fr + ln ≤ d.firm.length) (hd : d.down = false) (hl : d.left = 0) (hw : 0 ≤ d.writes ∧ d.writes ≤ 900000000) (hp : d.pend.length ≤ 900000) :
  Calls Tryz.prog 8 #[.pointer (some ⟨pb, 0, none⟩), .agg #[.int .i64 (fr : Nat), .int .i64 (ln : Nat)]] W (ROpenPost W lo pb d fr ln) := by
 have hk0 : Cln W (W.alloc (.cells #[.int .i64 (fr : Nat), .int .i64 (ln : Nat)] 29)) := by (repeat with_reducible first | exact cR _ | assumption | refine cA ?_ _ | refine cD ?_ | refine cN ?_ _ | refine cS ?_ (by first | omega | (simp <;> omega)) _)
 have hbox := Blk.new W 29 #[.int .i64 (fr : Nat), .int .i64 (ln : Nat)]
 have cS := fun w (k : Cln W w) => rl_scan (h.cln k) fr ln h1 hfit hd
 have hm := scan_le (areaS d fr ln)
 rw [area_len hfit] at hm
 obtain ⟨n1, n2, n3⟩ := ropen_nums hfit h.pos.2 hm
 have h4 := h.pos.2
 have cW := fun w (k : Cln W w) => sl_wipe (h.cln k) (fr + (scanS (areaS d fr ln)).2) (ln - (scanS (areaS d fr ln)).2) n3 hd hl ⟨hw.1, by omega⟩ (by omega)
 have hH := Lib.hid h
 have hbx := Lib.hid hbox
 have hkH := Lib.hid hk0
 have c00 := hbox.cell 0; have c01 := hbox.cell 1; have c0l := hbox.lt
 clear h hfit hd hl hw hp hm n3 h1 hbox hk0 h4
 go_enter Tryz.func8, Tryz.ntmps8
 go_wp2_with fail
 refine (cS _ hkH.out).mono ?_
 clear cS
 intro e w1 hP
 obtain ⟨hq, A, n, c, q, rfl, hmap, hO⟩ := hP
 have hcl1 := Lib.hid (cln_trans hkH.out hq)
 have hb1 := Lib.hid (hbx.out.cln hq)
 have hO1 : Hid (OwnBs w1 W.heap.size (.slice A n c) n q) := OwnQ.lower hO (by rw [World.size_alloc]; exact Nat.le_succ _)
 replace hmap := Lib.hid hmap
 clear hq hO hkH hbx c00 c01 c0l
 have c00 := hb1.out.cell 0; have c01 := hb1.out.cell 1; have c0l := hb1.out.lt
 generalize hsc : scanS (areaS d fr ln) = r at *
 obtain ⟨es, m⟩ := r
 simp only [] at n1 n2 cW hmap
 replace hsc := Lib.hid hsc
 have cW1 := cW w1 hcl1.out
 rw [Int.natCast_add] at cW1
 have tz : (((0 : Nat) : Int) != 0) = false := by decide
 clear cW
 go_wp2_with fail
 refine cW1.mono ?_
 rintro e w2 ⟨rfl, hD2, hSt⟩
 have hb2 := hSt.blk (hH.out.cln hcl1.out) hb1.out (by decide)
 have hO2 := Lib.hid (OwnQ.kept hO1.out hSt.kept (fun i hi _ => dblk_new hH.out hcl1.out hi))
 have hSt2 := Lib.hid ((DStep.of_cln hH.out hcl1.out).trans hSt)
 replace hD2 := Lib.hid hD2
 have hSz := Lib.hid hSt.kept.size
 clear cW1 hSt hO1 hb1 c00 c01 c0l
 have c00 := hb2.cell 0; have c01 := hb2.cell 1; have c0l := hb2.lt
 have hk3 : Hid (Cln w2 (w2.alloc (.cells #[.pointer (some ⟨pb, 0, none⟩), .int .i64 (fr : Nat), .int .i64 (ln : Nat), .int .i64 (m : Nat)] 77))) := by unfold Hid; (repeat with_reducible first | exact cR _ | assumption | refine cA ?_ _ | refine cD ?_ | refine cN ?_ _ | refine cS ?_ (by first | omega | (simp <;> omega)) _)
 have hb3 := Lib.hid (Blk.new w2 77 #[.pointer (some ⟨pb, 0, none⟩), .int .i64 (fr : Nat), .int .i64 (ln : Nat), .int .i64 (m : Nat)])
 go_wp2_with fail
 go_ret3
 refine ⟨w2.heap.size, A, n, c, q, rfl, ?_, OwnQ.cln hO2.out hk3.out, ?_, Nat.le_trans hcl1.out.size hSz.out, ?_, hSt2.out.trans (DStep.of_cln hD2.out hk3.out)⟩
 ·rw [hsc.out]; exact hmap.out
 ·rw [hsc.out]; exact hb3.out
 ·rw [hsc.out]; exact hD2.out.cln hk3.out
structure LStep (S : Nat → Prop) (pb : Nat) (a b : World) : Prop where
 kept : Kept (fun k => dblk a pb k ∨ S k) a b
 old : ∀ k, k < a.heap.size → dblk b pb k → dblk a pb k
theorem LStep.of_d {S : Nat → Prop} {pb : Nat} {a b : World} (h : DStep pb a b) : LStep S pb a b := ⟨Kept.mono h.kept (fun _ _ h => .inl h), h.old⟩
theorem LStep.trans {S : Nat → Prop} {pb : Nat} {a b c : World} (h : LStep S pb a b) (k : LStep S pb b c) : LStep S pb a c :=
 ⟨h.kept.then_ k.kept fun i hi hb => hb.imp (h.old i hi) id, fun i hi hc => h.old i hi (k.old i (Nat.lt_of_lt_of_le hi h.kept.size) hc)⟩
theorem LStep.mono {S S2 : Nat → Prop} {pb : Nat} {a b : World} (h : LStep S pb a b) (hs : ∀ k, S k → S2 k) : LStep S2 pb a b := ⟨Kept.mono h.kept (fun _ _ e => e.imp id (hs _)), h.old⟩
theorem LStep.set {pb g i : Nat} {a : World} (v : Value) (hne : pb ≠ g) : LStep (· = g) pb a (a.setCell ⟨g, i, none⟩ v) := by
 have hk := keptSet a g i v
 refine ⟨Kept.mono hk (fun k _ h => .inr h), fun k hk' hb => ?_⟩
 by_cases hp : pb < a.heap.size
 ·have e := hk.block pb hp hne
  rcases hb with hb | ⟨n, c, hb⟩ | ⟨n, c, hb⟩
  ·exact .inl hb
  ·exact .inr (.inl ⟨n, c, by rw [World.cell?_of_block (a := ⟨pb, 0, none⟩) e] at hb; exact hb⟩)
  ·exact .inr (.inr ⟨n, c, by rw [World.cell?_of_block (a := ⟨pb, 1, none⟩) e] at hb; exact hb⟩)
 ·rcases hb with hb | ⟨n, c, hb⟩ | ⟨n, c, hb⟩
  ·exact .inl hb
  ·have := World.block_lt_of_cell? _ _ hb; simp at this; omega
  ·have := World.block_lt_of_cell? _ _ hb; simp at this; omega
theorem IsDisk.kept {S : Nat → Prop} {a b : World} {lo pb : Nat} {d : MDisk} (h : IsDisk a lo pb d) (k : Kept S a b) (hS : ∀ i, dblk a pb i → ¬ S i) : IsDisk b lo pb d := by
 have hm := fun i hi => (h.mem (k := i) hi).2.1
 obtain ⟨F, c, G, cg, hb, hF, hG⟩ := h.ex
 refine ⟨h.low, ⟨F, c, G, cg, hb.kept k (hS pb (.inl rfl)), dk_same hF fun i hi => ?_, dk_same hG fun i hi => ?_⟩, h.wf, h.pos⟩
 ·have e : F = i := by simpa [Value.ownBlock] using hi
  have hd : dblk a pb i := .inr (.inl ⟨d.firm.length, c, by rw [hb.cell, e]; rfl⟩)
  exact k.block i (hm i hd) (hS i hd)
 ·have hd : dblk a pb i := .inr (.inr ⟨d.pend.length, cg, by
   rw [hb.cell]
   obtain ⟨A, c', hv, hA, _⟩ := own_form hG
   injection hv with h1 _ _
   subst h1
   cases G with
   | none => simp [Value.ownBlock] at hi
   | some ad =>
    have hx := hA ad rfl
    obtain ⟨ab, ao, asp⟩ := ad
    simp at hx
    obtain ⟨rfl, rfl, _⟩ := hx
    have : ab = i := by simpa [Value.ownBlock] using hi
    subst this; rfl⟩)
  exact k.block i (hm i hd) (hS i hd)
theorem IsDisk.other {a : World} {lo pb g t : Nat} {d : MDisk} {cs : Array Value} (h : IsDisk a lo pb d) (hg : Blk a g t cs) (ht : t ≠ 72 ∧ t ≠ 79 ∧ t ≠ 103) : ¬ dblk a pb g := fun hb => by
 obtain ⟨_, _, cs', t', hb', h1 | h1 | h1⟩ := h.mem hb
 ·exact Blk.ne_ hg hb' (by rw [h1]; exact ht.1) rfl
 ·exact Blk.ne_ hg hb' (by rw [h1]; exact ht.2.1) rfl
 ·exact Blk.ne_ hg hb' (by rw [h1]; exact ht.2.2) rfl
theorem IsDisk.set {a : World} {lo pb g t i : Nat} {d : MDisk} {cs : Array Value} (h : IsDisk a lo pb d) (hg : Blk a g t cs) (ht : t ≠ 72 ∧ t ≠ 79 ∧ t ≠ 103) (v : Value) : IsDisk (a.setCell ⟨g, i, none⟩ v) lo pb d :=
 h.kept (keptSet a g i v) fun k hk e => h.other hg ht (by have e : k = g := e; rwa [e] at hk)
theorem stop_app {P : Program} {ops : Array Oper} {Q : Exit → Act → World → Prop} {rest : List Oper} {o : Oper} {a : Act} {w : World} {s x : Operand} {t u : TypeId} (ho : o.op = .call { callee := .builtin .append, args := #[s, x], argTypes := #[t, u] }) (h : Hid (wpList P ops Q (o :: rest) a w)) : wpList P ops Q (o :: rest) a w := h
theorem lit_own (w : World) (u : UInt8) : (w.alloc (.cells #[.int .u8 (u.toNat : Nat)] 5)).ownsRow w.heap.size 5 1 (.slice (some ⟨w.heap.size, 0, none⟩) 1 1) 1 (byteVals [u]) :=
 ⟨rfl, .inr ⟨w.heap.size, 1, #[.int .u8 (u.toNat : Nat)], rfl, Nat.le_refl _, Blk.new w 5 _, Nat.le_refl _, by simp [maxLen], rfl, rfl⟩⟩
theorem u8_wrap (u : UInt8) : IntKind.u8.wrap (u.toNat : Int) = (u.toNat : Int) := by have := UInt8.toNat_lt u; simp [IntKind.wrap, IntKind.bits, IntKind.signed]; omega
def APost (W : World) (lo pb rb fr ln a N : Nat) (d' : MDisk) (e : Ending) (w' : World) : Prop :=
 e = .returned (.int .i64 (downCode d')) ∧ IsDisk w' lo pb d' ∧ LStep (· = rb) pb W w' ∧ (d'.down = true → Blk w' rb 77 #[.pointer (some ⟨pb, 0, none⟩), .int .i64 (fr : Nat), .int .i64 (ln : Nat), .int .i64 (a : Nat)]) ∧ (d'.down = false → Blk w' rb 77 #[.pointer (some ⟨pb, 0, none⟩), .int .i64 (fr : Nat), .int .i64 (ln : Nat), .int .i64 (a + N : Nat)])
theorem secs_at (b : List UInt8) (i : Nat) (h : i < needS b.length) (u : UInt8) (p : List UInt8) (hu : u = UInt8.ofNat (needS b.length - 1 - i)) (hp : p = chunkS b i) : secsFrom b i = wrapS ([u] ++ p) :: secsFrom b (i + 1) := by
 rw [secsFrom_step b i h, hu, hp]; rfl
theorem secsFrom_end (b : List UInt8) : secsFrom b (needS b.length) = [] := by unfold secsFrom; exact List.drop_of_length_le (by rw [secs_len]; exact Nat.le_refl _)
structure ApSt (W wr : World) (lo pb : Nat) (d dk : MDisk) (fr a i : Nat) (bs : List UInt8) : Prop where
 disk : IsDisk wr lo pb dk
 step : DStep pb W wr
 rest : putD d (fr + a) (secsS bs) = putD dk (fr + a + i) (secsFrom bs i)
 up : dk.down = false
 left : 0 ≤ dk.left ∧ dk.left ≤ 1000000000
 wr0 : 0 ≤ dk.writes ∧ dk.writes ≤ d.writes + i
 pend : dk.pend.length ≤ d.pend.length + i
 firm : dk.firm.length = d.firm.length
theorem ApSt.num {W wr : World} {lo pb : Nat} {d dk : MDisk} {fr a i : Nat} {bs : List UInt8} (h : ApSt W wr lo pb d dk fr a i bs) (hi : i ≤ 64) (hw : d.writes ≤ 900000000) (hp : d.pend.length ≤ 900000) : (0 ≤ dk.left ∧ dk.left ≤ 1000000000 ∧ 0 ≤ dk.writes ∧ dk.writes ≤ 1000000000) ∧ dk.pend.length ≤ 1000000 := by
 have h1 := h.wr0; have h2 := h.pend; have h3 := h.left
 omega
theorem ApSt.next {W wr w4 : World} {lo pb : Nat} {d dk : MDisk} {fr a i : Nat} {bs : List UInt8} {s : Sec} (h : ApSt W wr lo pb d dk fr a i bs) (hD : IsDisk w4 lo pb (dk.write (fr + a + i) s)) (hS : DStep pb W w4) (hs : secsFrom bs i = s :: secsFrom bs (i + 1)) (hd : (dk.write (fr + a + i) s).down = false) : ApSt W w4 lo pb d (dk.write (fr + a + i) s) fr a (i + 1) bs := by
 refine ⟨hD, hS, ?_, hd, ?_, ?_, ?_, h.firm⟩
 ·rw [h.rest, hs, putD, hd, if_neg (by decide), Nat.add_assoc (fr + a)]
 ·show 0 ≤ (if 0 < dk.left then dk.left - 1 else dk.left) ∧ (if 0 < dk.left then dk.left - 1 else dk.left) ≤ 1000000000
  have := h.left; split <;> omega
 ·show 0 ≤ dk.writes + 1 ∧ dk.writes + 1 ≤ d.writes + ((i + 1 : Nat) : Int)
  have := h.wr0; omega
 ·show (dk.pend ++ [(fr + a + i, s)]).length ≤ d.pend.length + (i + 1)
  have := h.pend; simp; omega
theorem ap_need {n : Nat} (h : n ≤ 3840) : needS n ≤ 64 ∧ 1 ≤ needS n := by unfold needS; omega
theorem ap_lo {i n : Nat} (h : i < needS n) (h38 : n ≤ 3840) : 60 * i ≤ n ∧ i ≤ 64 := by unfold needS at h; omega
theorem ap_wraps {i N : Nat} (h : i < N) (hN : N ≤ 64) : wrap64 ((i : Int) * 60) = ((60 * i : Nat) : Int) ∧ wrap64 ((i : Int) + 1) = (i : Int) + 1 ∧ wrap64 (((i : Int) + 1) * 60) = ((60 * i + 60 : Nat) : Int) ∧ wrap64 ((N : Int) - 1) = (N : Int) - 1 ∧ wrap64 ((N : Int) - 1 - (i : Int)) = ((N - 1 - i : Nat) : Int) ∧ (UInt8.ofNat (N - 1 - i)).toNat = N - 1 - i := by
 refine ⟨by unfold wrap64; omega, by unfold wrap64; omega, by unfold wrap64; omega, by unfold wrap64; omega, by unfold wrap64; omega, ?_⟩
 simp; omega
theorem not_lt_i {a b : Nat} (h : a ≤ b) : ¬ ((b : Int) < (a : Int)) := by omega
theorem lt_i {a b : Nat} (h : a < b) : (a : Int) < (b : Int) := by omega
theorem ex_m {n lw hg : Nat} (h1 : lw ≤ n) (h2 : n < hg) (h3 : hg = lw + 60) : ∃ m, n = lw + m ∧ m ≤ 60 := ⟨n - lw, by omega, by omega⟩
theorem m_61 {m : Nat} (h : m ≤ 60) : 1 + m ≤ 61 ∧ 1 + m ≤ 140737488355328 := by omega
theorem ap_in {fr a i N m nn : Nat} (h : m = nn) (hr : fr + a + N ≤ nn) (hi : i < N) : fr + a + i < m := by omega
theorem ap_sum {fr a i N nn : Nat} (hr : fr + a + N ≤ nn) (hi : i < N) (h4 : nn ≤ 4096) : wrap64 ((fr : Int) + (a : Int)) = (fr : Int) + (a : Int) ∧ wrap64 ((fr : Int) + (a : Int) + (i : Int)) = (fr : Int) + (a : Int) + (i : Int) ∧ IntKind.i64.wrap ((fr : Int) + (a : Int)) = (fr : Int) + (a : Int) ∧ IntKind.i64.wrap ((fr : Int) + (a : Int) + (i : Int)) = (fr : Int) + (a : Int) + (i : Int) := by
 refine ⟨by unfold wrap64; omega, by unfold wrap64; omega, ?_, ?_⟩ <;> simp [IntKind.wrap, IntKind.bits, IntKind.signed] <;> omega
theorem ap_chunk {bs : List UInt8} {i lo m : Nat} (hlo : lo = 60 * i) (hm : m = 60 ∨ (m ≤ 60 ∧ bs.length = lo + m)) : (bs.drop lo).take m = chunkS bs i := by
 subst hlo
 unfold chunkS
 rcases hm with rfl | ⟨h1, h2⟩
 ·rfl
 ·rw [List.take_of_length_le (by rw [List.length_drop]; omega), List.take_of_length_le (by rw [List.length_drop]; omega)]
set_option maxHeartbeats 4000000 in
theorem rl_append_full {W : World} {lo pb rb : Nat} {d : MDisk} (h : IsDisk W lo pb d) (hd : d.down = false) {fr ln a : Nat} (hb : Blk W rb 77 #[.pointer (some ⟨pb, 0, none⟩), .int .i64 (fr : Nat), .int .i64 (ln : Nat), .int .i64 (a : Nat)]) (ha : a ≤ ln) (hl : ln ≤ 4096) {A : Option Addr} {n c : Nat} (hn : n ≤ 3840) (hf : ln - a < needS n) :
  Calls Tryz.prog 9 #[.pointer (some ⟨rb, 0, none⟩), .slice A n c] W fun e w' => e = .returned (.int .i64 8) ∧ Cln W w' := by
 have c0 := hb.cell 0; have c1 := hb.cell 1; have c2 := hb.cell 2; have c3 := hb.cell 3; have hlt := hb.lt
 have cD : Calls Tryz.prog 28 #[.pointer (some ⟨pb, 0, none⟩)] W fun e w' => e = .returned (.bool false) ∧ Cln W w' := by have := dk_down h; rw [hd] at this; exact this
 have t1 : decide (3840 < (n : Int)) = false := decide_eq_false (by omega)
 have cN := fun w => rl_need n (by omega) w
 have cL := fun w (k : Cln W w) => rl_left (hb.cln k) hl ha
 generalize hN : needS n = N at *
 generalize hM : ln - a = M at *
 have t2 : decide ((M : Int) < (N : Int)) = true := decide_eq_true (by omega)
 have t2' : decide (M < N) = true := decide_eq_true (by omega)
 clear hN hM h hd hb hf
 go_enter Tryz.func9, Tryz.ntmps9
 go_wp2_with fail
 refine cD.mono ?_; rintro e w1 ⟨rfl, hq⟩
 replace hq := Lib.hid hq
 clear cD c0 c1 c2 c3
 go_wp2_with fail
 refine (cN _).mono ?_; rintro e w2 ⟨rfl, hq2⟩
 have hq3 := Lib.hid (cln_trans hq.out hq2)
 clear hq hq2 cN
 go_wp2_with fail
 refine (cL _ hq3.out).mono ?_; rintro e w4 ⟨rfl, hq4⟩
 replace hq4 := Lib.hid (cln_trans hq3.out hq4)
 clear hq3 cL
 go_wp2_with fail
 go_ret
 exact ⟨rfl, hq4.out⟩
set_option maxHeartbeats 4000000 in
theorem rl_append {W : World} {lo pb rb : Nat} {d : MDisk} (h : IsDisk W lo pb d) (hd : d.down = false) (hleft : 0 ≤ d.left ∧ d.left ≤ 1000000000) (hw : 0 ≤ d.writes ∧ d.writes ≤ 900000000) (hp : d.pend.length ≤ 900000)
  {fr ln a : Nat} (hb : Blk W rb 77 #[.pointer (some ⟨pb, 0, none⟩), .int .i64 (fr : Nat), .int .i64 (ln : Nat), .int .i64 (a : Nat)]) (ha : a ≤ ln) (hfit : fr + ln ≤ d.firm.length) {A : Option Addr} {n c : Nat} {bs : List UInt8} (hr : RdBytes W A n bs) (hc : n ≤ c) (hA : ∀ ad, A = some ad → ad.block < W.heap.size ∧ ¬ dblk W pb ad.block) (hn : n ≤ 3840) (hf : needS n ≤ ln - a) :
  Calls Tryz.prog 9 #[.pointer (some ⟨rb, 0, none⟩), .slice A n c] W (APost W lo pb rb fr ln a (needS n) (putD d (fr + a) (secsS bs))) := by
 have hi79' : Hid ((Tryz.prog.info? 79).map (·.size) = some 64) := by unfold Hid; kernel_rfl
 have c0 := hb.cell 0; have c1 := hb.cell 1; have c2 := hb.cell 2; have c3 := hb.cell 3; have hlt := hb.lt
 have cD : Calls Tryz.prog 28 #[.pointer (some ⟨pb, 0, none⟩)] W fun e w' => e = .returned (.bool false) ∧ Cln W w' := by have := dk_down h; rw [hd] at this; exact this
 have t1 : decide (3840 < (n : Int)) = false := decide_eq_false (by omega)
 have cN := fun w => rl_need n (by omega) w
 have h4 := h.pos.2
 have cL := fun w (k : Cln W w) => rl_left (hb.cln k) (by omega) ha
 have hS0 : Hid (ApSt W W lo pb d d fr a 0 bs) := ⟨h, DStep.refl _ _, rfl, hd, hleft, ⟨hw.1, by omega⟩, by omega, rfl⟩
 have hlen := Lib.hid hr.len
 have hrH := Lib.hid hr
 have hbH := Lib.hid hb
 have hHd := Lib.hid h
 have hAH := Lib.hid hA
 have hw9 := Lib.hid hw.2
 have hp9 := Lib.hid hp
 have h64 := Lib.hid (ap_need hn)
 have hlow := Lib.hid (fun i (hi : i < needS n) => ap_lo hi hn)
 have hNl : Hid (needS bs.length = needS n) := by unfold Hid; rw [hlen.out]
 have hroom : Hid (fr + a + needS n ≤ d.firm.length) := by unfold Hid; omega
 have hann : Hid (a + needS n ≤ 4096) := by unfold Hid; omega
 generalize hN : needS n = N at *
 generalize hM : ln - a = M at *
 have t2 : decide ((M : Int) < (N : Int)) = false := decide_eq_false (by omega)
 have t2' : decide (M < N) = false := decide_eq_false (by omega)
 replace hN := Lib.hid hN
 clear hM h hd hb hf hA hr hleft hw hp ha hfit h4 hn
 go_enter Tryz.func9, Tryz.ntmps9
 go_wp2_with fail
 refine cD.mono ?_; rintro e w1 ⟨rfl, hq⟩
 have hS1 := Lib.hid hq
 clear cD hq
 go_wp2_with fail
 refine (cN _).mono ?_; rintro e w2 ⟨rfl, hq2⟩
 have hS2 := Lib.hid (cln_trans hS1.out hq2)
 clear hS1 hq2
 go_wp2_with fail
 refine (cL _ hS2.out).mono ?_; rintro e w3 ⟨rfl, hq3⟩
 have hS3 := Lib.hid (cln_trans hS2.out hq3)
 clear hS2 hq3 cL
 go_wp2_with fail
 refine (cN _).mono ?_; rintro e w4 ⟨rfl, hq4⟩
 have hS4 : Hid (ApSt W w4 lo pb d d fr a 0 bs) := by
  have hk := cln_trans hS3.out hq4
  exact ⟨hHd.out.cln hk, DStep.of_cln hHd.out hk, rfl, hS0.out.up, hS0.out.left, hS0.out.wr0, hS0.out.pend, rfl⟩
 clear hS3 hq4 cN hS0 c0 c1 c2 c3 hlt
 go_wp2_with fail
 all_goals (try (exfalso; omega))
 go_loopw [32] (fun v wr => ∃ (i : Nat) (dk : MDisk), i ≤ N ∧ v = .int .i64 (i : Nat) ∧ Hid (ApSt W wr lo pb d dk fr a i bs)) (fun v _ => (N - intOf v).toNat)
 case atStart => exact ⟨0, d, Nat.zero_le _, rfl, hS4⟩
 case round =>
  clear hS4
  obtain ⟨i, dk, hi, rfl, hS⟩ := hrel
  have hbr := Lib.hid (hS.out.step.blk hHd.out hbH.out (by decide))
  have c0 := hbr.out.cell 0; have c1 := hbr.out.cell 1; have c3 := hbr.out.cell 3; have hlt := hbr.out.lt
  by_cases hiN : i < N
  ·have ti : decide ((i : Int) < (N : Int)) = true := decide_eq_true (by omega)
   obtain ⟨hlo1, hi64⟩ := hlow.out i hiN
   obtain ⟨x1, x2, x3, x4, x5, hu⟩ := ap_wraps hiN h64.out.1
   obtain ⟨u, hue⟩ : ∃ u, u = UInt8.ofNat (N - 1 - i) := ⟨_, rfl⟩
   rw [← hue] at hu
   rw [← hu] at x5
   have tu := u8_wrap u
   obtain ⟨lw, hlw⟩ : ∃ z, z = 60 * i := ⟨_, rfl⟩
   rw [← hlw] at x1 hlo1
   obtain ⟨hg, hhg⟩ : ∃ z, z = lw + 60 := ⟨_, rfl⟩
   rw [← hlw, ← hhg] at x3
   have tm1 := not_lt_i hlo1
   have tm1' := Nat.not_lt.2 hlo1
   have hrW := hrH.out.kept hS.out.step.kept (fun ad e _ hk => (hAH.out ad e).2 hk)
   have hPart : Hid (∀ m, (m = 60 ∨ (m ≤ 60 ∧ bs.length = lw + m)) → (bs.drop lw).take m = chunkS bs i) := fun m hm => ap_chunk hlw hm
   have hSec : Hid (∀ p, p = chunkS bs i → secsFrom bs i = wrapS ([u] ++ p) :: secsFrom bs (i + 1)) := fun p hp => secs_at bs i (by rw [hNl.out]; exact hiN) u p (by rw [hNl.out]; exact hue) hp
   have hiN' := Lib.hid hiN
   replace hue := Lib.hid hue; replace hu := Lib.hid hu; replace hlw := Lib.hid hlw; replace hi64 := Lib.hid hi64; replace hlo1 := Lib.hid hlo1
   have hown5 := Lib.hid (lit_own wr u)
   have hk5 : Hid (Cln wr (wr.alloc (.cells #[.int .u8 (u.toNat : Nat)] 5))) := by unfold Hid; (repeat with_reducible first | exact cR _ | assumption | refine cA ?_ _ | refine cD ?_ | refine cN ?_ _ | refine cS ?_ (by first | omega | (simp <;> omega)) _)
   replace hrW := Lib.hid hrW
   by_cases hB : n < hg
   ·obtain ⟨m, hm, hm60⟩ := ex_m hlo1.out hB hhg
    obtain ⟨A', hsl, hrd⟩ := sub_lh hrW.out lw m (Nat.le_of_eq hm.symm) hc
    rw [← hm] at hsl
    have tm2 := lt_i hB
    have tm2' := hB
    have hch := Lib.hid (hPart.out m (.inr ⟨hm60, by rw [hlen.out]; exact hm⟩))
    replace hm := Lib.hid hm; replace hhg := Lib.hid hhg
    generalize (bs.drop lw).take m = part at hrd hch
    have hrd5 := Lib.hid (hrd.cln hk5.out)
    have hm61 := (m_61 hm60).1
    have hbg := (m_61 hm60).2
    have hWs : wr.heap.size ≤ (wr.alloc (.cells #[.int .u8 (u.toNat : Nat)] 5)).heap.size := hk5.out.size
    replace hm61 := Lib.hid hm61; replace hm60 := Lib.hid hm60
    clear hPart hrW hrd
    go_wp2_with (first | (simp only [hsl]) | (with_reducible refine stop_app rfl ?_))
    refine Hid.out ?_
    show wpList _ _ _ _ _ _
    refine wpList_catB rfl _ _ rfl rfl rfl hown5.out hrd5.out hbg hWs ?_
    intro A4 c4 w6 hown6 hgr6
    have hcl6 : Hid (Cln wr w6) := ((Kept.of_below (S := fun k => wr.heap.size ≤ k) hk5.out).grown hgr6 (fun k hk _ => (own_ge hown5.out k hk).1)).toBelow (Nat.le_refl _) (fun k hk h => absurd h (Nat.not_le.2 hk))
    have hSeal := sl_seal (c := c4) (own_rd hown6) hm61.out
    have hs := Lib.hid (hSec.out part hch.out)
    have hs64 : (wrapS ([u] ++ part)).length = 64 := wrapS_len _ (Nat.le_trans (Nat.le_of_eq (own_rd hown6).len) hm61.out)
    generalize wrapS ([u] ++ part) = s at hSeal hs hs64
    clear hown6 hgr6 hown5 hrd5 hsl hWs hbg hch hSec x1 x3 x4 x5 tu tm1 tm1' tm2 hk5
    go_wp2_with fail
    refine hSeal.mono ?_; rintro e w7 ⟨rfl, hq7⟩
    have hcl7 := Lib.hid (cln_trans hcl6.out hq7)
    have hss := sec_size hs64
    have hso := sec_one s
    have hk8 : Hid (Cln w7 (w7.alloc (.cells (byteVals s).toArray 79))) := by unfold Hid; (repeat with_reducible first | exact cR _ | assumption | refine cA ?_ _ | refine cD ?_ | refine cN ?_ _ | refine cS ?_ (by first | omega | (simp <;> omega)) _)
    replace hs64 := Lib.hid hs64
    have hD8 := Lib.hid (hS.out.disk.cln (cln_trans hcl7.out hk8.out))
    have hSt8 := Lib.hid (hS.out.step.trans (DStep.of_cln hS.out.disk (cln_trans hcl7.out hk8.out)))
    have hb8 := Lib.hid (hbr.out.cln (cln_trans hcl7.out hk8.out))
    clear hSeal hq7 hcl6 c0 c1 c3 hlt
    go_wp2_with (first | ((with_reducible refine wpList_store_new rfl 79 _ _ rfl _ (byteVals s).toArray 64 hi79'.out ?hcz hss hso ?hx ?hy ?_); (case hcz => rfl); (case hx => rfl); (case hy => rfl)))
    have hl79 : Hid ((Tryz.prog.info? 79).map (·.size) = some (byteVals s).length) := by unfold Hid; rw [hi79'.out, byteVals_length, hs64.out]
    have hlit := Lib.hid ((Blk.new w7 79 (byteVals s).toArray).drew)
    have hbd := Lib.hid hb8.out.drew
    have hDd := Lib.hid (hD8.out.cln (Below.drew (Below.refl _ _)))
    have hStd := Lib.hid (hSt8.out.trans (DStep.of_cln hD8.out (Below.drew (Below.refl _ _))))
    have hnl := Lib.hid (dblk_new hS.out.disk (cln_trans (cln_trans hcl7.out hk8.out) (Below.drew (Below.refl _ _))) hcl7.out.size)
    have hok := okAt_in hS.out.up (i := fr + a + i) (ap_in hS.out.firm hroom.out hiN'.out)
    have hnum := hS.out.num hi64.out hw9.out hp9.out
    have hWr := dk_write_ok hDd.out (fr + a + i) hok s hs64.out hnum.1 hnum.2
    obtain ⟨z, hz⟩ : ∃ z, z = downCode (dk.write (fr + a + i) s) := ⟨_, rfl⟩
    rw [← hz] at hWr
    rw [Int.natCast_add, Int.natCast_add] at hWr
    replace hz := Lib.hid hz
    obtain ⟨tw8, tw9, tw8', tw9'⟩ := ap_sum hroom.out hiN'.out (Nat.le_trans (Nat.le_of_eq hS.out.firm.symm) hS.out.disk.pos.2)
    clear hok hnum
    refine wp_region_held_drew (S := fun W' => W'.cell? ⟨rb, 0, none⟩ = some (.pointer (some ⟨pb, 0, none⟩)) ∧ W'.cell? ⟨rb, 1, none⟩ = some (.int .i64 (fr : Nat)) ∧ W'.cell? ⟨rb, 3, none⟩ = some (.int .i64 (a : Nat)) ∧ Hid (W'.rangeAt w7.heap.size 0 (byteVals s))) (by kernel_rfl) ?hSq (fun hHeld => ?_)
    case hSq => exact ⟨hbd.out.cell 0, hbd.out.cell 1, hbd.out.cell 3, fun j v hv => by rw [Nat.zero_add, hlit.out.cell]; simpa using hv⟩
    refine wpAnyH_take (i := 0) (oi := { dst := some 60, op := Op.move (Operand.tmp 0), type := 30, pos := "roll.go:121", after := #[], guard := none }) (v := ?v1) rfl (by kernel_rfl) (by kernel_rfl) (by kernel_rfl) (fun _ _ _ h => h) (Or.inl ⟨by rfl, ?hy1⟩) (by assumption) ?rest1
    case hy1 => intro w hSw; (try dsimp only at hSw); go_simp <;> with_reducible rfl
    try simp only [Act.put, List.setIfInBounds_toArray, List.set_cons_zero, List.set_cons_succ]
    refine wpAnyH_take (i := 1) (oi := { dst := some 61, op := Op.nilCheck (Operand.tmp 60), type := 0, pos := "roll.go:121", after := #[{ on := 0, ground := Ground.data }], guard := none }) (v := ?v2) rfl (by kernel_rfl) (by kernel_rfl) (by kernel_rfl) (fun _ _ _ h => h) (Or.inl ⟨by rfl, ?hy2⟩) (by assumption) ?rest2
    case hy2 => intro w hSw; (try dsimp only at hSw); go_simp <;> with_reducible rfl
    try simp only [Act.put, List.setIfInBounds_toArray, List.set_cons_zero, List.set_cons_succ]
    refine wpAnyH_take (i := 2) (oi := { dst := some 62, op := Op.fieldAddr 77 (Operand.tmp 61) 0, type := 0, pos := "roll.go:121", after := #[{ on := 1, ground := Ground.data }], guard := none }) (v := ?v3) rfl (by kernel_rfl) (by kernel_rfl) (by kernel_rfl) (fun _ _ _ h => h) (Or.inl ⟨by rfl, ?hy3⟩) (by assumption) ?rest3
    case hy3 => intro w hSw; (try dsimp only at hSw); go_simp <;> with_reducible rfl
    try simp only [Act.put, List.setIfInBounds_toArray, List.set_cons_zero, List.set_cons_succ]
    refine wpAnyH_take (i := 3) (oi := { dst := some 63, op := Op.load 24 (Operand.tmp 62), type := 24, pos := "roll.go:121", after := #[{ on := 2, ground := Ground.data }], guard := none }) (v := ?v4) rfl (by kernel_rfl) (by kernel_rfl) (by kernel_rfl) (fun _ _ _ h => h) (Or.inl ⟨by rfl, ?hy4⟩) (by assumption) ?rest4
    case hy4 => intro w hSw; (try dsimp only at hSw); go_simp <;> with_reducible rfl
    try simp only [Act.put, List.setIfInBounds_toArray, List.set_cons_zero, List.set_cons_succ]
    refine wpAnyH_take (i := 4) (oi := { dst := some 64, op := Op.move (Operand.tmp 0), type := 30, pos := "roll.go:121", after := #[], guard := none }) (v := ?v5) rfl (by kernel_rfl) (by kernel_rfl) (by kernel_rfl) (fun _ _ _ h => h) (Or.inl ⟨by rfl, ?hy5⟩) (by assumption) ?rest5
    case hy5 => intro w hSw; (try dsimp only at hSw); go_simp <;> with_reducible rfl
    try simp only [Act.put, List.setIfInBounds_toArray, List.set_cons_zero, List.set_cons_succ]
    refine wpAnyH_take (i := 5) (oi := { dst := some 65, op := Op.nilCheck (Operand.tmp 64), type := 0, pos := "roll.go:121", after := #[{ on := 4, ground := Ground.data }], guard := none }) (v := ?v6) rfl (by kernel_rfl) (by kernel_rfl) (by kernel_rfl) (fun _ _ _ h => h) (Or.inl ⟨by rfl, ?hy6⟩) (by assumption) ?rest6
    case hy6 => intro w hSw; (try dsimp only at hSw); go_simp <;> with_reducible rfl
    try simp only [Act.put, List.setIfInBounds_toArray, List.set_cons_zero, List.set_cons_succ]
    refine wpAnyH_take (i := 6) (oi := { dst := some 66, op := Op.fieldAddr 77 (Operand.tmp 65) 1, type := 0, pos := "roll.go:121", after := #[{ on := 5, ground := Ground.data }], guard := none }) (v := ?v7) rfl (by kernel_rfl) (by kernel_rfl) (by kernel_rfl) (fun _ _ _ h => h) (Or.inl ⟨by rfl, ?hy7⟩) (by assumption) ?rest7
    case hy7 => intro w hSw; (try dsimp only at hSw); go_simp <;> with_reducible rfl
    try simp only [Act.put, List.setIfInBounds_toArray, List.set_cons_zero, List.set_cons_succ]
    refine wpAnyH_take (i := 7) (oi := { dst := some 67, op := Op.fieldAddr 29 (Operand.tmp 66) 0, type := 0, pos := "roll.go:121", after := #[{ on := 6, ground := Ground.data }], guard := none }) (v := ?v8) rfl (by kernel_rfl) (by kernel_rfl) (by kernel_rfl) (fun _ _ _ h => h) (Or.inl ⟨by rfl, ?hy8⟩) (by assumption) ?rest8
    case hy8 => intro w hSw; (try dsimp only at hSw); go_simp <;> with_reducible rfl
    try simp only [Act.put, List.setIfInBounds_toArray, List.set_cons_zero, List.set_cons_succ]
    refine wpAnyH_take (i := 8) (oi := { dst := some 68, op := Op.load 3 (Operand.tmp 67), type := 3, pos := "roll.go:121", after := #[{ on := 7, ground := Ground.data }], guard := none }) (v := ?v9) rfl (by kernel_rfl) (by kernel_rfl) (by kernel_rfl) (fun _ _ _ h => h) (Or.inl ⟨by rfl, ?hy9⟩) (by assumption) ?rest9
    case hy9 => intro w hSw; (try dsimp only at hSw); go_simp <;> with_reducible rfl
    try simp only [Act.put, List.setIfInBounds_toArray, List.set_cons_zero, List.set_cons_succ]
    refine wpAnyH_take (i := 9) (oi := { dst := some 69, op := Op.move (Operand.tmp 0), type := 30, pos := "roll.go:121", after := #[], guard := none }) (v := ?v10) rfl (by kernel_rfl) (by kernel_rfl) (by kernel_rfl) (fun _ _ _ h => h) (Or.inl ⟨by rfl, ?hy10⟩) (by assumption) ?rest10
    case hy10 => intro w hSw; (try dsimp only at hSw); go_simp <;> with_reducible rfl
    try simp only [Act.put, List.setIfInBounds_toArray, List.set_cons_zero, List.set_cons_succ]
    refine wpAnyH_take (i := 10) (oi := { dst := some 70, op := Op.nilCheck (Operand.tmp 69), type := 0, pos := "roll.go:121", after := #[{ on := 9, ground := Ground.data }], guard := none }) (v := ?v11) rfl (by kernel_rfl) (by kernel_rfl) (by kernel_rfl) (fun _ _ _ h => h) (Or.inl ⟨by rfl, ?hy11⟩) (by assumption) ?rest11
    case hy11 => intro w hSw; (try dsimp only at hSw); go_simp <;> with_reducible rfl
    try simp only [Act.put, List.setIfInBounds_toArray, List.set_cons_zero, List.set_cons_succ]
    refine wpAnyH_take (i := 11) (oi := { dst := some 71, op := Op.fieldAddr 77 (Operand.tmp 70) 2, type := 0, pos := "roll.go:121", after := #[{ on := 10, ground := Ground.data }], guard := none }) (v := ?v12) rfl (by kernel_rfl) (by kernel_rfl) (by kernel_rfl) (fun _ _ _ h => h) (Or.inl ⟨by rfl, ?hy12⟩) (by assumption) ?rest12
    case hy12 => intro w hSw; (try dsimp only at hSw); go_simp <;> with_reducible rfl
    try simp only [Act.put, List.setIfInBounds_toArray, List.set_cons_zero, List.set_cons_succ]
    refine wpAnyH_take (i := 12) (oi := { dst := some 72, op := Op.load 3 (Operand.tmp 71), type := 3, pos := "roll.go:121", after := #[{ on := 11, ground := Ground.data }], guard := none }) (v := ?v13) rfl (by kernel_rfl) (by kernel_rfl) (by kernel_rfl) (fun _ _ _ h => h) (Or.inl ⟨by rfl, ?hy13⟩) (by assumption) ?rest13
    case hy13 => intro w hSw; (try dsimp only at hSw); go_simp <;> with_reducible rfl
    try simp only [Act.put, List.setIfInBounds_toArray, List.set_cons_zero, List.set_cons_succ]
    refine wpAnyH_take (i := 13) (oi := { dst := some 73, op := Op.binOp BinOp.add 3 (Operand.tmp 68) (Operand.tmp 72) 3, type := 3, pos := "roll.go:121", after := #[{ on := 8, ground := Ground.data }, { on := 12, ground := Ground.data }], guard := none }) (v := ?v14) rfl (by kernel_rfl) (by kernel_rfl) (by kernel_rfl) (fun _ _ _ h => h) (Or.inl ⟨by rfl, ?hy14⟩) (by assumption) ?rest14
    case hy14 => intro w hSw; (try dsimp only at hSw); go_simp <;> with_reducible rfl
    try simp only [Act.put, List.setIfInBounds_toArray, List.set_cons_zero, List.set_cons_succ]
    refine wpAnyH_take (i := 14) (oi := { dst := some 74, op := Op.move (Operand.tmp 6), type := 3, pos := "roll.go:121", after := #[], guard := none }) (v := ?v15) rfl (by kernel_rfl) (by kernel_rfl) (by kernel_rfl) (fun _ _ _ h => h) (Or.inl ⟨by rfl, ?hy15⟩) (by assumption) ?rest15
    case hy15 => intro w hSw; (try dsimp only at hSw); go_simp <;> with_reducible rfl
    try simp only [Act.put, List.setIfInBounds_toArray, List.set_cons_zero, List.set_cons_succ]
    refine wpAnyH_take (i := 15) (oi := { dst := some 75, op := Op.binOp BinOp.add 3 (Operand.tmp 73) (Operand.tmp 74) 3, type := 3, pos := "roll.go:121", after := #[{ on := 13, ground := Ground.data }, { on := 14, ground := Ground.data }], guard := none }) (v := ?v16) rfl (by kernel_rfl) (by kernel_rfl) (by kernel_rfl) (fun _ _ _ h => h) (Or.inl ⟨by rfl, ?hy16⟩) (by assumption) ?rest16
    case hy16 => intro w hSw; (try dsimp only at hSw); go_simp <;> with_reducible rfl
    try simp only [Act.put, List.setIfInBounds_toArray, List.set_cons_zero, List.set_cons_succ]
    refine wpAnyH_take (i := 16) (oi := { dst := some 76, op := Op.load 79 (Operand.tmp 8), type := 79, pos := "roll.go:121", after := #[], guard := none }) (v := .agg (byteVals s).toArray) rfl (by kernel_rfl) (by kernel_rfl) (by kernel_rfl) (fun _ _ _ h => h) (yieldsIf_load_mid (by rfl) 79 _ rfl w7.heap.size 0 (by rfl) (byteVals s) _ (fun w hw => hw.2.2.2.out) Tryz.underlying79 rfl hl79.out) (by assumption) ?_
    try simp only [Act.put, List.setIfInBounds_toArray, List.set_cons_zero, List.set_cons_succ]
    refine wpAnyH_ready (rs := [17]) (by kernel_rfl) (by simp) ?_
    refine AllReadyH.cons (o := { dst := some 77, op := Op.call { callee := Callee.value (Operand.func 32), args := #[Operand.tmp 63, Operand.tmp 75, Operand.tmp 76], argTypes := #[24, 3, 79] }, type := 25, pos := "roll.go:121", after := #[{ on := 3, ground := Ground.data }, { on := 15, ground := Ground.data }, { on := 16, ground := Ground.data }], guard := none }) rfl (fun K hK => ?_) AllReadyH.nil
    go_simp
    go_at_call 32
    with_reducible refine hWr.mono ?_
    rintro e w9 ⟨rfl, hD9, hS9⟩
    have hb9 := Lib.hid (hS9.blk hDd.out hbd.out (by decide))
    have hlit9 := Lib.hid (hlit.out.kept hS9.kept hnl.out)
    have hS9' := Lib.hid (hStd.out.trans hS9)
    replace hD9 := Lib.hid hD9
    (try go_wp2_with fail)
    refine hK.out _ _ ?_ (fun hHeld2 => ?_)
    ·exact ⟨hb9.out.cell 0, hb9.out.cell 1, hb9.out.cell 3, fun j v hv => by rw [Nat.zero_add, hlit9.out.cell]; simpa using hv⟩
    clear hK K hHeld hWr hS9 hlit hlit9 hbd hDd hStd hnl hl79
    replace hHeld := hHeld2
    clear hHeld2
    try simp only [Act.put, List.setIfInBounds_toArray, List.set_cons_zero, List.set_cons_succ]
    refine wpAnyH_take (i := 18) (oi := { dst := some 10, op := Op.assign (Operand.tmp 77), type := 25, pos := "roll.go:121", after := #[{ on := 17, ground := Ground.data }, { on := 17, ground := Ground.chain }, { on := 0, ground := Ground.phase }, { on := 1, ground := Ground.phase }, { on := 2, ground := Ground.phase }, { on := 3, ground := Ground.phase }, { on := 4, ground := Ground.phase }, { on := 5, ground := Ground.phase }, { on := 6, ground := Ground.phase }, { on := 7, ground := Ground.phase }, { on := 8, ground := Ground.phase }, { on := 9, ground := Ground.phase }, { on := 10, ground := Ground.phase }, { on := 11, ground := Ground.phase }, { on := 12, ground := Ground.phase }, { on := 13, ground := Ground.phase }, { on := 14, ground := Ground.phase }, { on := 15, ground := Ground.phase }, { on := 16, ground := Ground.phase }, { on := 17, ground := Ground.phase }], guard := none }) (v := ?v17) rfl (by kernel_rfl) (by kernel_rfl) (by kernel_rfl) (fun _ _ _ h => h) (Or.inl ⟨by rfl, ?hy17⟩) (by assumption) ?rest17
    case hy17 => intro w hSw; (try dsimp only at hSw); go_simp <;> with_reducible rfl
    try simp only [Act.put, List.setIfInBounds_toArray, List.set_cons_zero, List.set_cons_succ]
    refine wpAnyH_done (by kernel_rfl) ?_ _
    clear hHeld tw8 tw9 tw8' tw9' hcl7 hk8 hD8 hSt8 hb8 hss hso hs64 hbr
    have hzc := hz.out
    unfold downCode at hzc
    cases hdn : (dk.write (fr + a + i) s).down with
    | true =>
     rw [hdn] at hzc
     obtain rfl : z = 14 := hzc
     have hE : Hid (putD d (fr + a) (secsS bs) = dk.write (fr + a + i) s) := by unfold Hid; rw [hS.out.rest, hs.out, putD, hdn, if_pos rfl]
     clear hS hiN
     go_wp2_with fail
     go_ret
     rw [hE.out]
     exact ⟨by rw [← hz.out]; rfl, hD9.out, LStep.of_d hS9'.out, fun _ => hb9.out, fun h => by rw [hdn] at h; cases h⟩
    | false =>
     rw [hdn] at hzc
     obtain rfl : z = 0 := hzc
     have hSn := Lib.hid (hS.out.next hD9.out hS9'.out hs.out hdn)
     have hz64 := Lib.hid h64.out.1
     have tw2 := wrap_succ i N hiN'.out (Nat.le_trans hz64.out (by decide))
     clear hS hdn
     go_wp2_with fail
     go_roundw
     case rel => exact ⟨i + 1, _, hiN'.out, by first | (rw [tw2]; rfl) | rfl, hSn⟩
     case measure => first | (rw [tw2]; exact meas_lt _ _ hiN'.out) | exact meas_lt _ _ hiN'.out
   ·obtain ⟨m, hm⟩ : ∃ m, m = 60 := ⟨_, rfl⟩
    have hm60 : m ≤ 60 := Nat.le_of_eq hm
    have hmg : lw + m = hg := by rw [hm, hhg]
    obtain ⟨A', hsl, hrd⟩ := sub_lh hrW.out lw m (by rw [hmg]; exact Nat.not_lt.1 hB) hc
    rw [hmg] at hsl
    have tm2 := not_lt_i (Nat.not_lt.1 hB)
    clear hmg
    have hch := Lib.hid (hPart.out m (.inl hm))
    replace hm := Lib.hid hm; replace hhg := Lib.hid hhg
    generalize (bs.drop lw).take m = part at hrd hch
    have hrd5 := Lib.hid (hrd.cln hk5.out)
    have hm61 := (m_61 hm60).1
    have hbg := (m_61 hm60).2
    have hWs : wr.heap.size ≤ (wr.alloc (.cells #[.int .u8 (u.toNat : Nat)] 5)).heap.size := hk5.out.size
    replace hm61 := Lib.hid hm61; replace hm60 := Lib.hid hm60
    clear hPart hrW hrd
    go_wp2_with (first | (simp only [hsl]) | (with_reducible refine stop_app rfl ?_))
    refine Hid.out ?_
    show wpList _ _ _ _ _ _
    refine wpList_catB rfl _ _ rfl rfl rfl hown5.out hrd5.out hbg hWs ?_
    intro A4 c4 w6 hown6 hgr6
    have hcl6 : Hid (Cln wr w6) := ((Kept.of_below (S := fun k => wr.heap.size ≤ k) hk5.out).grown hgr6 (fun k hk _ => (own_ge hown5.out k hk).1)).toBelow (Nat.le_refl _) (fun k hk h => absurd h (Nat.not_le.2 hk))
    have hSeal := sl_seal (c := c4) (own_rd hown6) hm61.out
    have hs := Lib.hid (hSec.out part hch.out)
    have hs64 : (wrapS ([u] ++ part)).length = 64 := wrapS_len _ (Nat.le_trans (Nat.le_of_eq (own_rd hown6).len) hm61.out)
    generalize wrapS ([u] ++ part) = s at hSeal hs hs64
    clear hown6 hgr6 hown5 hrd5 hsl hWs hbg hch hSec x1 x3 x4 x5 tu tm1 tm1' tm2 hk5
    go_wp2_with fail
    refine hSeal.mono ?_; rintro e w7 ⟨rfl, hq7⟩
    have hcl7 := Lib.hid (cln_trans hcl6.out hq7)
    have hss := sec_size hs64
    have hso := sec_one s
    have hk8 : Hid (Cln w7 (w7.alloc (.cells (byteVals s).toArray 79))) := by unfold Hid; (repeat with_reducible first | exact cR _ | assumption | refine cA ?_ _ | refine cD ?_ | refine cN ?_ _ | refine cS ?_ (by first | omega | (simp <;> omega)) _)
    replace hs64 := Lib.hid hs64
    have hD8 := Lib.hid (hS.out.disk.cln (cln_trans hcl7.out hk8.out))
    have hSt8 := Lib.hid (hS.out.step.trans (DStep.of_cln hS.out.disk (cln_trans hcl7.out hk8.out)))
    have hb8 := Lib.hid (hbr.out.cln (cln_trans hcl7.out hk8.out))
    clear hSeal hq7 hcl6 c0 c1 c3 hlt
    go_wp2_with (first | ((with_reducible refine wpList_store_new rfl 79 _ _ rfl _ (byteVals s).toArray 64 hi79'.out ?hcz hss hso ?hx ?hy ?_); (case hcz => rfl); (case hx => rfl); (case hy => rfl)))
    have hl79 : Hid ((Tryz.prog.info? 79).map (·.size) = some (byteVals s).length) := by unfold Hid; rw [hi79'.out, byteVals_length, hs64.out]
    have hlit := Lib.hid ((Blk.new w7 79 (byteVals s).toArray).drew)
    have hbd := Lib.hid hb8.out.drew
    have hDd := Lib.hid (hD8.out.cln (Below.drew (Below.refl _ _)))
    have hStd := Lib.hid (hSt8.out.trans (DStep.of_cln hD8.out (Below.drew (Below.refl _ _))))
    have hnl := Lib.hid (dblk_new hS.out.disk (cln_trans (cln_trans hcl7.out hk8.out) (Below.drew (Below.refl _ _))) hcl7.out.size)
    have hok := okAt_in hS.out.up (i := fr + a + i) (ap_in hS.out.firm hroom.out hiN'.out)
    have hnum := hS.out.num hi64.out hw9.out hp9.out
    have hWr := dk_write_ok hDd.out (fr + a + i) hok s hs64.out hnum.1 hnum.2
    obtain ⟨z, hz⟩ : ∃ z, z = downCode (dk.write (fr + a + i) s) := ⟨_, rfl⟩
    rw [← hz] at hWr
    rw [Int.natCast_add, Int.natCast_add] at hWr
    replace hz := Lib.hid hz
    obtain ⟨tw8, tw9, tw8', tw9'⟩ := ap_sum hroom.out hiN'.out (Nat.le_trans (Nat.le_of_eq hS.out.firm.symm) hS.out.disk.pos.2)
    clear hok hnum
    refine wp_region_held_drew (S := fun W' => W'.cell? ⟨rb, 0, none⟩ = some (.pointer (some ⟨pb, 0, none⟩)) ∧ W'.cell? ⟨rb, 1, none⟩ = some (.int .i64 (fr : Nat)) ∧ W'.cell? ⟨rb, 3, none⟩ = some (.int .i64 (a : Nat)) ∧ Hid (W'.rangeAt w7.heap.size 0 (byteVals s))) (by kernel_rfl) ?hSq (fun hHeld => ?_)
    case hSq => exact ⟨hbd.out.cell 0, hbd.out.cell 1, hbd.out.cell 3, fun j v hv => by rw [Nat.zero_add, hlit.out.cell]; simpa using hv⟩
    refine wpAnyH_take (i := 0) (oi := { dst := some 60, op := Op.move (Operand.tmp 0), type := 30, pos := "roll.go:121", after := #[], guard := none }) (v := ?v18) rfl (by kernel_rfl) (by kernel_rfl) (by kernel_rfl) (fun _ _ _ h => h) (Or.inl ⟨by rfl, ?hy18⟩) (by assumption) ?rest18
    case hy18 => intro w hSw; (try dsimp only at hSw); go_simp <;> with_reducible rfl
    try simp only [Act.put, List.setIfInBounds_toArray, List.set_cons_zero, List.set_cons_succ]
    refine wpAnyH_take (i := 1) (oi := { dst := some 61, op := Op.nilCheck (Operand.tmp 60), type := 0, pos := "roll.go:121", after := #[{ on := 0, ground := Ground.data }], guard := none }) (v := ?v19) rfl (by kernel_rfl) (by kernel_rfl) (by kernel_rfl) (fun _ _ _ h => h) (Or.inl ⟨by rfl, ?hy19⟩) (by assumption) ?rest19
    case hy19 => intro w hSw; (try dsimp only at hSw); go_simp <;> with_reducible rfl
    try simp only [Act.put, List.setIfInBounds_toArray, List.set_cons_zero, List.set_cons_succ]
    refine wpAnyH_take (i := 2) (oi := { dst := some 62, op := Op.fieldAddr 77 (Operand.tmp 61) 0, type := 0, pos := "roll.go:121", after := #[{ on := 1, ground := Ground.data }], guard := none }) (v := ?v20) rfl (by kernel_rfl) (by kernel_rfl) (by kernel_rfl) (fun _ _ _ h => h) (Or.inl ⟨by rfl, ?hy20⟩) (by assumption) ?rest20
    case hy20 => intro w hSw; (try dsimp only at hSw); go_simp <;> with_reducible rfl
    try simp only [Act.put, List.setIfInBounds_toArray, List.set_cons_zero, List.set_cons_succ]
    refine wpAnyH_take (i := 3) (oi := { dst := some 63, op := Op.load 24 (Operand.tmp 62), type := 24, pos := "roll.go:121", after := #[{ on := 2, ground := Ground.data }], guard := none }) (v := ?v21) rfl (by kernel_rfl) (by kernel_rfl) (by kernel_rfl) (fun _ _ _ h => h) (Or.inl ⟨by rfl, ?hy21⟩) (by assumption) ?rest21
    case hy21 => intro w hSw; (try dsimp only at hSw); go_simp <;> with_reducible rfl
    try simp only [Act.put, List.setIfInBounds_toArray, List.set_cons_zero, List.set_cons_succ]
    refine wpAnyH_take (i := 4) (oi := { dst := some 64, op := Op.move (Operand.tmp 0), type := 30, pos := "roll.go:121", after := #[], guard := none }) (v := ?v22) rfl (by kernel_rfl) (by kernel_rfl) (by kernel_rfl) (fun _ _ _ h => h) (Or.inl ⟨by rfl, ?hy22⟩) (by assumption) ?rest22
    case hy22 => intro w hSw; (try dsimp only at hSw); go_simp <;> with_reducible rfl
    try simp only [Act.put, List.setIfInBounds_toArray, List.set_cons_zero, List.set_cons_succ]
    refine wpAnyH_take (i := 5) (oi := { dst := some 65, op := Op.nilCheck (Operand.tmp 64), type := 0, pos := "roll.go:121", after := #[{ on := 4, ground := Ground.data }], guard := none }) (v := ?v23) rfl (by kernel_rfl) (by kernel_rfl) (by kernel_rfl) (fun _ _ _ h => h) (Or.inl ⟨by rfl, ?hy23⟩) (by assumption) ?rest23
    case hy23 => intro w hSw; (try dsimp only at hSw); go_simp <;> with_reducible rfl
    try simp only [Act.put, List.setIfInBounds_toArray, List.set_cons_zero, List.set_cons_succ]
    refine wpAnyH_take (i := 6) (oi := { dst := some 66, op := Op.fieldAddr 77 (Operand.tmp 65) 1, type := 0, pos := "roll.go:121", after := #[{ on := 5, ground := Ground.data }], guard := none }) (v := ?v24) rfl (by kernel_rfl) (by kernel_rfl) (by kernel_rfl) (fun _ _ _ h => h) (Or.inl ⟨by rfl, ?hy24⟩) (by assumption) ?rest24
    case hy24 => intro w hSw; (try dsimp only at hSw); go_simp <;> with_reducible rfl
    try simp only [Act.put, List.setIfInBounds_toArray, List.set_cons_zero, List.set_cons_succ]
    refine wpAnyH_take (i := 7) (oi := { dst := some 67, op := Op.fieldAddr 29 (Operand.tmp 66) 0, type := 0, pos := "roll.go:121", after := #[{ on := 6, ground := Ground.data }], guard := none }) (v := ?v25) rfl (by kernel_rfl) (by kernel_rfl) (by kernel_rfl) (fun _ _ _ h => h) (Or.inl ⟨by rfl, ?hy25⟩) (by assumption) ?rest25
    case hy25 => intro w hSw; (try dsimp only at hSw); go_simp <;> with_reducible rfl
    try simp only [Act.put, List.setIfInBounds_toArray, List.set_cons_zero, List.set_cons_succ]
    refine wpAnyH_take (i := 8) (oi := { dst := some 68, op := Op.load 3 (Operand.tmp 67), type := 3, pos := "roll.go:121", after := #[{ on := 7, ground := Ground.data }], guard := none }) (v := ?v26) rfl (by kernel_rfl) (by kernel_rfl) (by kernel_rfl) (fun _ _ _ h => h) (Or.inl ⟨by rfl, ?hy26⟩) (by assumption) ?rest26
    case hy26 => intro w hSw; (try dsimp only at hSw); go_simp <;> with_reducible rfl
    try simp only [Act.put, List.setIfInBounds_toArray, List.set_cons_zero, List.set_cons_succ]
    refine wpAnyH_take (i := 9) (oi := { dst := some 69, op := Op.move (Operand.tmp 0), type := 30, pos := "roll.go:121", after := #[], guard := none }) (v := ?v27) rfl (by kernel_rfl) (by kernel_rfl) (by kernel_rfl) (fun _ _ _ h => h) (Or.inl ⟨by rfl, ?hy27⟩) (by assumption) ?rest27
    case hy27 => intro w hSw; (try dsimp only at hSw); go_simp <;> with_reducible rfl
    try simp only [Act.put, List.setIfInBounds_toArray, List.set_cons_zero, List.set_cons_succ]
    refine wpAnyH_take (i := 10) (oi := { dst := some 70, op := Op.nilCheck (Operand.tmp 69), type := 0, pos := "roll.go:121", after := #[{ on := 9, ground := Ground.data }], guard := none }) (v := ?v28) rfl (by kernel_rfl) (by kernel_rfl) (by kernel_rfl) (fun _ _ _ h => h) (Or.inl ⟨by rfl, ?hy28⟩) (by assumption) ?rest28
    case hy28 => intro w hSw; (try dsimp only at hSw); go_simp <;> with_reducible rfl
    try simp only [Act.put, List.setIfInBounds_toArray, List.set_cons_zero, List.set_cons_succ]
    refine wpAnyH_take (i := 11) (oi := { dst := some 71, op := Op.fieldAddr 77 (Operand.tmp 70) 2, type := 0, pos := "roll.go:121", after := #[{ on := 10, ground := Ground.data }], guard := none }) (v := ?v29) rfl (by kernel_rfl) (by kernel_rfl) (by kernel_rfl) (fun _ _ _ h => h) (Or.inl ⟨by rfl, ?hy29⟩) (by assumption) ?rest29
    case hy29 => intro w hSw; (try dsimp only at hSw); go_simp <;> with_reducible rfl
    try simp only [Act.put, List.setIfInBounds_toArray, List.set_cons_zero, List.set_cons_succ]
    refine wpAnyH_take (i := 12) (oi := { dst := some 72, op := Op.load 3 (Operand.tmp 71), type := 3, pos := "roll.go:121", after := #[{ on := 11, ground := Ground.data }], guard := none }) (v := ?v30) rfl (by kernel_rfl) (by kernel_rfl) (by kernel_rfl) (fun _ _ _ h => h) (Or.inl ⟨by rfl, ?hy30⟩) (by assumption) ?rest30
    case hy30 => intro w hSw; (try dsimp only at hSw); go_simp <;> with_reducible rfl
    try simp only [Act.put, List.setIfInBounds_toArray, List.set_cons_zero, List.set_cons_succ]
    refine wpAnyH_take (i := 13) (oi := { dst := some 73, op := Op.binOp BinOp.add 3 (Operand.tmp 68) (Operand.tmp 72) 3, type := 3, pos := "roll.go:121", after := #[{ on := 8, ground := Ground.data }, { on := 12, ground := Ground.data }], guard := none }) (v := ?v31) rfl (by kernel_rfl) (by kernel_rfl) (by kernel_rfl) (fun _ _ _ h => h) (Or.inl ⟨by rfl, ?hy31⟩) (by assumption) ?rest31
    case hy31 => intro w hSw; (try dsimp only at hSw); go_simp <;> with_reducible rfl
    try simp only [Act.put, List.setIfInBounds_toArray, List.set_cons_zero, List.set_cons_succ]
    refine wpAnyH_take (i := 14) (oi := { dst := some 74, op := Op.move (Operand.tmp 6), type := 3, pos := "roll.go:121", after := #[], guard := none }) (v := ?v32) rfl (by kernel_rfl) (by kernel_rfl) (by kernel_rfl) (fun _ _ _ h => h) (Or.inl ⟨by rfl, ?hy32⟩) (by assumption) ?rest32
    case hy32 => intro w hSw; (try dsimp only at hSw); go_simp <;> with_reducible rfl
    try simp only [Act.put, List.setIfInBounds_toArray, List.set_cons_zero, List.set_cons_succ]
    refine wpAnyH_take (i := 15) (oi := { dst := some 75, op := Op.binOp BinOp.add 3 (Operand.tmp 73) (Operand.tmp 74) 3, type := 3, pos := "roll.go:121", after := #[{ on := 13, ground := Ground.data }, { on := 14, ground := Ground.data }], guard := none }) (v := ?v33) rfl (by kernel_rfl) (by kernel_rfl) (by kernel_rfl) (fun _ _ _ h => h) (Or.inl ⟨by rfl, ?hy33⟩) (by assumption) ?rest33
    case hy33 => intro w hSw; (try dsimp only at hSw); go_simp <;> with_reducible rfl
    try simp only [Act.put, List.setIfInBounds_toArray, List.set_cons_zero, List.set_cons_succ]
    refine wpAnyH_take (i := 16) (oi := { dst := some 76, op := Op.load 79 (Operand.tmp 8), type := 79, pos := "roll.go:121", after := #[], guard := none }) (v := .agg (byteVals s).toArray) rfl (by kernel_rfl) (by kernel_rfl) (by kernel_rfl) (fun _ _ _ h => h) (yieldsIf_load_mid (by rfl) 79 _ rfl w7.heap.size 0 (by rfl) (byteVals s) _ (fun w hw => hw.2.2.2.out) Tryz.underlying79 rfl hl79.out) (by assumption) ?_
    try simp only [Act.put, List.setIfInBounds_toArray, List.set_cons_zero, List.set_cons_succ]
    refine wpAnyH_ready (rs := [17]) (by kernel_rfl) (by simp) ?_
    refine AllReadyH.cons (o := { dst := some 77, op := Op.call { callee := Callee.value (Operand.func 32), args := #[Operand.tmp 63, Operand.tmp 75, Operand.tmp 76], argTypes := #[24, 3, 79] }, type := 25, pos := "roll.go:121", after := #[{ on := 3, ground := Ground.data }, { on := 15, ground := Ground.data }, { on := 16, ground := Ground.data }], guard := none }) rfl (fun K hK => ?_) AllReadyH.nil
    go_simp
    go_at_call 32
    with_reducible refine hWr.mono ?_
    rintro e w9 ⟨rfl, hD9, hS9⟩
    have hb9 := Lib.hid (hS9.blk hDd.out hbd.out (by decide))
    have hlit9 := Lib.hid (hlit.out.kept hS9.kept hnl.out)
    have hS9' := Lib.hid (hStd.out.trans hS9)
    replace hD9 := Lib.hid hD9
    (try go_wp2_with fail)
    refine hK.out _ _ ?_ (fun hHeld2 => ?_)
    ·exact ⟨hb9.out.cell 0, hb9.out.cell 1, hb9.out.cell 3, fun j v hv => by rw [Nat.zero_add, hlit9.out.cell]; simpa using hv⟩
    clear hK K hHeld hWr hS9 hlit hlit9 hbd hDd hStd hnl hl79
    replace hHeld := hHeld2
    clear hHeld2
    try simp only [Act.put, List.setIfInBounds_toArray, List.set_cons_zero, List.set_cons_succ]
    refine wpAnyH_take (i := 18) (oi := { dst := some 10, op := Op.assign (Operand.tmp 77), type := 25, pos := "roll.go:121", after := #[{ on := 17, ground := Ground.data }, { on := 17, ground := Ground.chain }, { on := 0, ground := Ground.phase }, { on := 1, ground := Ground.phase }, { on := 2, ground := Ground.phase }, { on := 3, ground := Ground.phase }, { on := 4, ground := Ground.phase }, { on := 5, ground := Ground.phase }, { on := 6, ground := Ground.phase }, { on := 7, ground := Ground.phase }, { on := 8, ground := Ground.phase }, { on := 9, ground := Ground.phase }, { on := 10, ground := Ground.phase }, { on := 11, ground := Ground.phase }, { on := 12, ground := Ground.phase }, { on := 13, ground := Ground.phase }, { on := 14, ground := Ground.phase }, { on := 15, ground := Ground.phase }, { on := 16, ground := Ground.phase }, { on := 17, ground := Ground.phase }], guard := none }) (v := ?v34) rfl (by kernel_rfl) (by kernel_rfl) (by kernel_rfl) (fun _ _ _ h => h) (Or.inl ⟨by rfl, ?hy34⟩) (by assumption) ?rest34
    case hy34 => intro w hSw; (try dsimp only at hSw); go_simp <;> with_reducible rfl
    try simp only [Act.put, List.setIfInBounds_toArray, List.set_cons_zero, List.set_cons_succ]
    refine wpAnyH_done (by kernel_rfl) ?_ _
    clear hHeld tw8 tw9 tw8' tw9' hcl7 hk8 hD8 hSt8 hb8 hss hso hs64 hbr
    have hzc := hz.out
    unfold downCode at hzc
    cases hdn : (dk.write (fr + a + i) s).down with
    | true =>
     rw [hdn] at hzc
     obtain rfl : z = 14 := hzc
     have hE : Hid (putD d (fr + a) (secsS bs) = dk.write (fr + a + i) s) := by unfold Hid; rw [hS.out.rest, hs.out, putD, hdn, if_pos rfl]
     clear hS hiN
     go_wp2_with fail
     go_ret
     rw [hE.out]
     exact ⟨by rw [← hz.out]; rfl, hD9.out, LStep.of_d hS9'.out, fun _ => hb9.out, fun h => by rw [hdn] at h; cases h⟩
    | false =>
     rw [hdn] at hzc
     obtain rfl : z = 0 := hzc
     have hSn := Lib.hid (hS.out.next hD9.out hS9'.out hs.out hdn)
     have hz64 := Lib.hid h64.out.1
     have tw2 := wrap_succ i N hiN'.out (Nat.le_trans hz64.out (by decide))
     clear hS hdn
     go_wp2_with fail
     go_roundw
     case rel => exact ⟨i + 1, _, hiN'.out, by first | (rw [tw2]; rfl) | rfl, hSn⟩
     case measure => first | (rw [tw2]; exact meas_lt _ _ hiN'.out) | exact meas_lt _ _ hiN'.out
  ·obtain rfl : N = i := by omega
   have ti : decide ((N : Int) < (N : Int)) = false := decide_eq_false (by omega)
   have hE : Hid (putD d (fr + a) (secsS bs) = dk) := by
    unfold Hid; rw [hS.out.rest, ← hNl.out, secsFrom_end]; rfl
   have tw : wrap64 ((a : Int) + (N : Int)) = ((a + N : Nat) : Int) := by have := hann.out; unfold wrap64; omega
   have hne : Hid (pb ≠ rb) := by
    obtain ⟨cs, hx⟩ := hS.out.disk.blk
    exact Blk.ne_ hx hbr.out (by decide)
   have hD := Lib.hid (hS.out.disk.set (i := 3) hbr.out (by decide) (.int .i64 ((a + N : Nat) : Int)))
   have f3 := hbr.out.frozen 3
   go_wp2_with fail
   go_ret
   rw [hE.out]
   refine ⟨?_, hD.out, (LStep.of_d hS.out.step).trans (LStep.set _ hne.out), (fun h => by rw [hS.out.up] at h; cases h), fun _ => hbr.out.set_ 3 (.int .i64 ((a + N : Nat) : Int))⟩
   unfold downCode; rw [hS.out.up]; rfl
end Go.Proofs.YtbemnfbndjolpaaGreatDoor
