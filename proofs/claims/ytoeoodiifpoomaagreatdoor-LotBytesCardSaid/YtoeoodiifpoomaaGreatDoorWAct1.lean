/- The walks of package act: Same, bare, most. -/
import Derived.Test.YtoeoodiifpoomaaGreatDoorWActK
import Derived.Test.YtoeoodiifpoomaaGreatDoorTakes
import Derived.Deep.RegionWith
import Derived.StillTailTactics
set_option linter.unusedSimpArgs false
set_option linter.unusedVariables false
set_option maxRecDepth 20000
namespace Go.Proofs.YtoeoodiifpoomaaGreatDoor
open Go.RowKit Moi
attribute [local go_sem] toList_str str_size less_ltB store_float
def actVal (a : MAct) (A : Option Addr) (n c : Nat) : Value :=
  .agg #[.int .i64 a.kind, .string (str a.key), .int .i64 a.n, .float .f64 a.x, .string (str a.s), .int .i64 a.make.kind, .int .i64 a.make.num, .int .i64 a.make.low, .int .i64 a.make.high, .float .f64 a.make.real, .int .i64 a.make.cap, .string (str a.make.text), .slice A n c, .bool a.must]
theorem zeroRec_val : (.agg #[.int .i64 0, .int .i64 0, .int .i64 0, .int .i64 0, .float .f64 0, .int .i64 0, .string ⟨#[]⟩, .slice none 0 0] : Value) = recVal zeroRec none 0 0 := rfl
theorem most_any (k : Int) (w : World) :
    Calls Tryz.prog 103 #[.agg #[.string (str (wordOf k)), .int .i64 (onOf k : Nat), .string (str (kindFs k))]] w fun e w' => e = .returned (.int .i64 (mostOf k : Nat)) ∧ Cln w w' := by
  unfold mostOf
  have hb := Blk.new w 139 #[.string (str (wordOf k)), .int .i64 (onOf k : Nat), .string (str (kindFs k))]
  have hc := hb.cell 1
  have hlt := hb.lt
  by_cases h1 : onOf k = 1
  · have t1 : (((onOf k : Nat) : Int) == 1) = true := by rw [h1]; rfl
    rw [if_pos h1]
    clear hb h1
    go_enter Tryz.func103, Tryz.ntmps103
    go_wp2_with fail
    go_ret
    exact ⟨rfl, by (repeat (first | (with_reducible exact Below.refl _ _) | (with_reducible assumption) | (with_reducible refine Below.setCell ?_ (by first | omega | (simp; done) | (simp; omega)) _) | (with_reducible refine Below.alloc ?_ (by first | omega | (simp; done) | (simp; omega)) _) | (with_reducible refine Below.drew ?_) | (with_reducible refine below_drewN ?_ _)))⟩
  · have t1 : (((onOf k : Nat) : Int) == 1) = false := by rw [beq_eq_false_iff_ne]; omega
    rw [if_neg h1]
    clear hb h1
    go_enter Tryz.func103, Tryz.ntmps103
    go_wp2_with fail
    go_ret
    exact ⟨rfl, by (repeat (first | (with_reducible exact Below.refl _ _) | (with_reducible assumption) | (with_reducible refine Below.setCell ?_ (by first | omega | (simp; done) | (simp; omega)) _) | (with_reducible refine Below.alloc ?_ (by first | omega | (simp; done) | (simp; omega)) _) | (with_reducible refine Below.drew ?_) | (with_reducible refine below_drewN ?_ _)))⟩
set_option maxHeartbeats 8000000 in
theorem abare_any (a : MAct) (A : Option Addr) (n c : Nat) (hx : a.x < 18446744073709551616) (hr : a.make.real < 18446744073709551616) (hn : n ≤ 140737488355328) (w : World) (hit : RdItems w A n a.make.list) :
    Calls Tryz.prog 102 #[actVal a A n c, .agg #[.string (str (wordOf a.kind)), .int .i64 (onOf a.kind : Nat), .string (str (kindFs a.kind))]] w fun e w' => e = .returned (.bool (bareA a)) ∧ Cln w w' := by
  have f110 : ∀ W, Calls Tryz.prog 119 #[.agg #[.string (str (wordOf a.kind)), .int .i64 (onOf a.kind : Nat), .string (str (kindFs a.kind))], .int .u8 110] W fun e w' => e = .returned (.bool (hasF a.kind 110)) ∧ Cln W w' := fun W => field_any a.kind 110 W
  have f120 : ∀ W, Calls Tryz.prog 119 #[.agg #[.string (str (wordOf a.kind)), .int .i64 (onOf a.kind : Nat), .string (str (kindFs a.kind))], .int .u8 120] W fun e w' => e = .returned (.bool (hasF a.kind 120)) ∧ Cln W w' := fun W => field_any a.kind 120 W
  have f115 : ∀ W, Calls Tryz.prog 119 #[.agg #[.string (str (wordOf a.kind)), .int .i64 (onOf a.kind : Nat), .string (str (kindFs a.kind))], .int .u8 115] W fun e w' => e = .returned (.bool (hasF a.kind 115)) ∧ Cln W w' := fun W => field_any a.kind 115 W
  have f109 : ∀ W, Calls Tryz.prog 119 #[.agg #[.string (str (wordOf a.kind)), .int .i64 (onOf a.kind : Nat), .string (str (kindFs a.kind))], .int .u8 109] W fun e w' => e = .returned (.bool (hasF a.kind 109)) ∧ Cln W w' := fun W => field_any a.kind 109 W
  generalize wordOf a.kind = wd at f110 f120 f115 f109 ⊢
  generalize onOf a.kind = on at f110 f120 f115 f109 ⊢
  generalize kindFs a.kind = fl at f110 f120 f115 f109 ⊢
  have hend : ∀ (v : Bool) (w' : World), v = bareA a → Cln w w' → (Ending.returned (.bool v) = .returned (.bool (bareA a)) ∧ Cln w w') := fun v w' h h2 => ⟨by rw [h], h2⟩
  have hS : ∀ W, Cln w W → Calls Tryz.prog 129 #[.agg #[.int .i64 a.make.kind, .int .i64 a.make.num, .int .i64 a.make.low, .int .i64 a.make.high, .float .f64 a.make.real, .int .i64 a.make.cap, .string (str a.make.text), .slice A n c], .agg #[.int .i64 0, .int .i64 0, .int .i64 0, .int .i64 0, .float .f64 0, .int .i64 0, .string ⟨#[]⟩, .slice none 0 0]] W fun e w' => e = .returned (.bool (sameRec a.make zeroRec)) ∧ Cln W w' :=
    fun W h => same_any a.make zeroRec A none n c 0 0 W (hit.cln h) (RdItems.none_ _) hn (by omega) hr (by decide)
  have hcl : Hid (Cln w ((w.alloc (.cells #[.int .i64 a.kind, .string (str a.key), .int .i64 a.n, .float .f64 a.x, .string (str a.s), .int .i64 a.make.kind, .int .i64 a.make.num, .int .i64 a.make.low, .int .i64 a.make.high, .float .f64 a.make.real, .int .i64 a.make.cap, .string (str a.make.text), .slice A n c, .bool a.must] 90)).alloc (.cells #[.string (str wd), .int .i64 (on : Nat), .string (str fl)] 139))) := by unfold Hid; (repeat (first | (with_reducible exact Below.refl _ _) | (with_reducible assumption) | (with_reducible refine Below.setCell ?_ (by first | omega | (simp; done) | (simp; omega)) _) | (with_reducible refine Below.alloc ?_ (by first | omega | (simp; done) | (simp; omega)) _) | (with_reducible refine Below.drew ?_) | (with_reducible refine below_drewN ?_ _)))
  have hbA := Lib.hid ((Blk.new w 90 #[.int .i64 a.kind, .string (str a.key), .int .i64 a.n, .float .f64 a.x, .string (str a.s), .int .i64 a.make.kind, .int .i64 a.make.num, .int .i64 a.make.low, .int .i64 a.make.high, .float .f64 a.make.real, .int .i64 a.make.cap, .string (str a.make.text), .slice A n c, .bool a.must]).alloc (.cells #[.string (str wd), .int .i64 (on : Nat), .string (str fl)] 139))
  have hbK := Blk.new (w.alloc (.cells #[.int .i64 a.kind, .string (str a.key), .int .i64 a.n, .float .f64 a.x, .string (str a.s), .int .i64 a.make.kind, .int .i64 a.make.num, .int .i64 a.make.low, .int .i64 a.make.high, .float .f64 a.make.real, .int .i64 a.make.cap, .string (str a.make.text), .slice A n c, .bool a.must] 90)) 139 #[.string (str wd), .int .i64 (on : Nat), .string (str fl)]
  rw [World.size_alloc] at hbK
  replace hbK := Lib.hid hbK
  have hcur : Hid (Cln ((w.alloc (.cells #[.int .i64 a.kind, .string (str a.key), .int .i64 a.n, .float .f64 a.x, .string (str a.s), .int .i64 a.make.kind, .int .i64 a.make.num, .int .i64 a.make.low, .int .i64 a.make.high, .float .f64 a.make.real, .int .i64 a.make.cap, .string (str a.make.text), .slice A n c, .bool a.must] 90)).alloc (.cells #[.string (str wd), .int .i64 (on : Nat), .string (str fl)] 139)) ((w.alloc (.cells #[.int .i64 a.kind, .string (str a.key), .int .i64 a.n, .float .f64 a.x, .string (str a.s), .int .i64 a.make.kind, .int .i64 a.make.num, .int .i64 a.make.low, .int .i64 a.make.high, .float .f64 a.make.real, .int .i64 a.make.cap, .string (str a.make.text), .slice A n c, .bool a.must] 90)).alloc (.cells #[.string (str wd), .int .i64 (on : Nat), .string (str fl)] 139))) := Below.refl _ _
  have uA := hbA.out.cell; have uK := hbK.out.cell
  have lA := hbA.out.lt; have lK := hbK.out.lt
  clear hit
  unfold actVal
  go_enter Tryz.func102, Tryz.ntmps102
  go_wp2_with (first
    | (go_at_call 119; (first | with_reducible refine (f110 _).mono ?_ | with_reducible refine (f120 _).mono ?_ | with_reducible refine (f115 _).mono ?_ | with_reducible refine (f109 _).mono ?_); rintro e w' ⟨rfl, hq⟩; have hcur := Lib.hid (cln_trans hcur.out hq); clear hq uA uK lA lK; have uA := (hbA.out.cln hcur.out).cell; have uK := (hbK.out.cln hcur.out).cell; have lA := (hbA.out.cln hcur.out).lt; have lK := (hbK.out.cln hcur.out).lt)
    | (go_at_call 128; refine (fsame_any _ _ hx (by omega) _).mono ?_; rintro e w' ⟨rfl, rfl⟩)
    | (go_at_call 129; with_reducible refine (hS _ (cln_trans hcl.out hcur.out)).mono ?_; rintro e w' ⟨rfl, hq⟩; have hcur := Lib.hid (cln_trans hcur.out hq)))
  all_goals
    go_ret
    refine hend _ _ ?_ (cln_trans hcl.out hcur.out)
    clear f110 f120 f115 f109 hS uA uK hcur hbA hbK hcl hend
    simp_all [bareA]
end Go.Proofs.YtoeoodiifpoomaaGreatDoor
