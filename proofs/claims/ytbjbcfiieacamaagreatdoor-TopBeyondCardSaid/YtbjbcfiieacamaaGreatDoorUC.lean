import Derived.Test.YtbjbcfiieacamaaGreatDoorUB
namespace Go.Proofs.YtbjbcfiieacamaaGreatDoor
open Go.RowKit
set_option linter.unusedVariables false

set_option maxRecDepth 100000 in
set_option maxHeartbeats 400000 in
theorem line23 (a : Int) (w : World) :
    Calls Tryz.prog 23 #[.int .i64 a] w fun e w' => ∃ s : ByteArray, s.size ≤ 3 ∧ e = .returned (.string s) ∧ Below w.heap.size w w' := by
  go_enter Tryz.func23, Tryz.ntmps23
  go_wp2_with fail
  refine (mod5 _ _ _ (by decide) (by decide)).mono ?_
  rintro e w' ⟨x, hx0, hx1, rfl, rfl⟩
  have hx : x = 0 ∨ x = 1 ∨ x = 2 ∨ x = 3 ∨ x = 4 ∨ x = 5 ∨ x = 6 ∨ x = 7 ∨ x = 8 ∨ x = 9 := by omega
  rcases hx with rfl | rfl | rfl | rfl | rfl | rfl | rfl | rfl | rfl | rfl <;>
  · go_wp2_with fail
    go_ret
    exact ⟨_, by decide, rfl, (Below.refl _ _).alloc (Nat.le_refl _) _⟩
end Go.Proofs.YtbjbcfiieacamaaGreatDoor
