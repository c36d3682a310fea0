import Derived.Test.YtagembkjmnfidaaFrmC
import Derived.Test.YtagembkjmnfidaaAwkH
import Derived.Test.YtagembkjmnfidaaChkA
namespace Go.Proofs.Ytagembkjmnfidaa
open Go.RowKit
open Go.Proofs.Ml
set_option linter.unusedVariables false

set_option maxRecDepth 100000 in
set_option maxHeartbeats 800000 in
theorem awake35 (w : World) : Calls Try.prog 35 #[] w fun e w' => e = .returned (.bool true) ∧ Below w.heap.size w w' := by
  have hG : fpErr [⟨0, 0⟩, ⟨2, 1⟩] 3 2 = 0 ∧ fpRes [⟨0, 0⟩, ⟨2, 1⟩] 3 2 = [⟨1, 1, 1, 0⟩] ∧ errOf (valid [⟨1, 1, 1, 0⟩] 3 2) = 0 ∧ errOf (valid [⟨1, 1, 1, 0⟩] 3 3) = 80 := by decide
  have HG := hide hG
  clear hG
  go_enter Try.func35, Try.ntmps35
  go_wp2_with fail
  refine (from41 _ [⟨0, 0⟩, ⟨2, 1⟩] 3 2 _ (Rd.lit rfl (by decide)) (by decide)).mono ?_
  rintro e w1 ⟨v, rfl, hown, hb1⟩
  rw [HG.out.1]
  rw [HG.out.2.1] at hown
  have hr1 := Rd.of_own hown
  go_wp2_with fail
  refine (same44 _ _ [⟨1, 1, 1, 0⟩] _ (hr1.below ((Below.refl w1.heap.size w1).alloc (Nat.le_refl _) _) (Nat.le_refl _)) (Rd.lit rfl (by decide)) (by decide)).mono ?_
  rintro e w2 ⟨rfl, hb2⟩
  have h1 : Below w.heap.size w w1 := ((Below.refl w.heap.size w).alloc (Nat.le_refl _) _).trans (hb1.mono (by simp))
  have hs := h1.size
  have h12 : Below w1.heap.size w1 w2 := ((Below.refl w1.heap.size w1).alloc (Nat.le_refl _) _).trans (hb2.mono (by simp))
  have hs2 := h12.size
  have hr2 := hr1.below h12 (Nat.le_refl _)
  go_wp2_with fail
  refine (check37 _ [⟨1, 1, 1, 0⟩] 3 2 _ hr2 (by decide)).mono ?_
  rintro e w3 ⟨rfl, hb3⟩
  rw [HG.out.2.2.1]
  have hs3 := hb3.size
  have hr3 := hr2.below hb3 (Nat.le_refl _)
  go_wp2_with fail
  refine (check37 _ [⟨1, 1, 1, 0⟩] 3 3 _ hr3 (by decide)).mono ?_
  rintro e w4 ⟨rfl, hb4⟩
  rw [HG.out.2.2.2]
  go_wp2_with fail
  go_ret
  exact ⟨rfl, ((h1.trans (h12.mono hs)).trans (hb3.mono (by omega))).trans (hb4.mono (by omega))⟩
end Go.Proofs.Ytagembkjmnfidaa
