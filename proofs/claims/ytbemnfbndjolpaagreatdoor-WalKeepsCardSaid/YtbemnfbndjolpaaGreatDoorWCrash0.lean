/- The walk of disk.Crash where nothing is pending. (Printed by wip/tools/gen_crash0.py.) -/
import Derived.Test.YtbemnfbndjolpaaGreatDoorWals
set_option linter.unusedSimpArgs false
set_option linter.unusedVariables false
set_option maxRecDepth 20000
namespace Go.Proofs.YtbemnfbndjolpaaGreatDoor
open Go.RowKit Moi
set_option maxHeartbeats 4000000 in
theorem dk_crash0 {W : World} {lo pb : Nat} {d : MDisk} (h : IsDisk W lo pb d) (hp : d.pend = []) : Calls Tryz.prog 23 #[.pointer (some ⟨pb, 0, none⟩), .slice none 0 0] W fun e w' => e = .returned (.tuple #[]) ∧ IsDisk w' lo pb ⟨d.firm, [], 0, false, d.writes⟩ ∧ DStep pb W w' := by
 have hlow := h.low; have hwf := h.wf; have hpos := h.pos
 obtain ⟨F, c, G, cg, hb, hF, hG⟩ := h.ex
 rw [hp] at hb
 have hpF : pb ≠ F := fun e => by
  have := own_ne hF hb (by decide)
  rw [e] at this; exact this rfl
 have hbH := Lib.hid hb
 have hFH := Lib.hid hF
 have c1 : W.cell? ⟨pb, 1, none⟩ = some (.slice G 0 cg) := hb.cell 1
 have c2 : W.cell? ⟨pb, 2, none⟩ = some (.int .i64 d.left) := hb.cell 2
 have c3 : W.cell? ⟨pb, 3, none⟩ = some (.bool d.down) := hb.cell 3
 have cl := hb.lt; have f1 := hb.frozen 1; have f2 := hb.frozen 2; have f3 := hb.frozen 3
 have hb3 := Lib.hid (((hb.set_ 1 (.slice none 0 0)).set_ 2 (.int .i64 0)).set_ 3 (.bool false))
 have hK := Lib.hid ((((Kept.refl (fun k => k = pb) W).setCell (p := ⟨pb, 1, none⟩) (fun _ => rfl) (.slice none 0 0)).setCell (p := ⟨pb, 2, none⟩) (fun _ => rfl) (.int .i64 0)).setCell (p := ⟨pb, 3, none⟩) (fun _ => rfl) (.bool false))
 clear hF hG h hb
 go_enter Tryz.func23, Tryz.ntmps23
 go_wp2_with fail
 go_loopw [12] (fun v wr => v = .int .i64 0 ∧ Hid (wr = W)) (fun v _ => 0)
 case atStart => exact ⟨rfl, (show Hid (W = W) from rfl)⟩
 case round =>
  obtain ⟨rfl, hwr⟩ := hrel
  obtain rfl := hwr.out
  go_wp2_with fail
  refine bodyPost_end (results_none rfl _ _ _) rfl ?_
  refine ⟨rfl, ⟨hlow, ⟨F, c, none, 0, hb3.out, dk_same hFH.out (fun k hk => hK.out.block k (dk_ge hFH.out k hk).2 (fun e => hpF (by rw [← e]; simpa [Value.ownBlock] using hk.symm))), World.ownsRow_nil _ _ _ _⟩, ⟨hwf.firm, fun _ hx => by cases hx⟩, hpos⟩, hK.out.mono (fun k _ e => .inl e), ?_⟩
  intro k hkl hd
  rcases hd with hd | ⟨n', c', hd⟩ | ⟨n', c', hd⟩
  ·exact .inl hd
  ·rw [hb3.out.cell] at hd
   exact .inr (.inl ⟨n', c', by rw [hbH.out.cell]; exact hd⟩)
  ·rw [hb3.out.cell] at hd
   simp at hd
end Go.Proofs.YtbemnfbndjolpaaGreatDoor
