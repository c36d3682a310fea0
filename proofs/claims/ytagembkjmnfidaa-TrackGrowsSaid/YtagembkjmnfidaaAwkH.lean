import Derived.Test.YtagembkjmnfidaaGrpA
import Derived.Test.YtagembkjmnfidaaSame
namespace Go.Proofs.Ytagembkjmnfidaa
open Go.RowKit
open Go.Proofs.Ml
set_option linter.unusedVariables false

/-- A literal list in the newest block. -/
theorem Rd.lit {w : World} {t : TypeId} {size n : Nat} {cs : Array Value} (hs : cs.size = n * size) (hn : n ≤ 1000) : Rd (w.alloc (.cells cs t)) (.slice (some ⟨w.heap.size, 0, none⟩) n n) size n cs.toList := by
  refine ⟨_, _, rfl, Nat.le_refl _, by simp only [maxLen]; omega, by simpa using hs, fun _ => ⟨_, 0, rfl, by simp, fun j u hu => ?_⟩⟩
  rw [Nat.zero_add, new_cell w cs t j]
  simpa using hu

set_option maxRecDepth 100000 in
set_option maxHeartbeats 800000 in
theorem awake26 (w : World) : Calls Try.prog 26 #[] w fun e w' => e = .returned (.bool true) ∧ Below w.heap.size w w' := by
  have hG : grpErr [⟨2, 1, 2, 1⟩, ⟨6, 0, 6, 1⟩] 10 11 2 = 0 ∧ grp [⟨2, 1, 2, 1⟩, ⟨6, 0, 6, 1⟩] 10 11 2 = [⟨0, 2, 0, 8, 0, 9⟩] := by decide
  have HG := hide hG
  clear hG
  go_enter Try.func26, Try.ntmps26
  go_wp2_with fail
  refine (group28 _ [⟨2, 1, 2, 1⟩, ⟨6, 0, 6, 1⟩] 10 11 2 _ (Rd.lit rfl (by decide)) (by decide)).mono ?_
  rintro e w1 ⟨v, rfl, hown, hb1⟩
  rw [HG.out.1]
  rw [HG.out.2] at hown
  go_wp2_with fail
  refine (same31 _ _ [⟨0, 2, 0, 8, 0, 9⟩] _ ((Rd.of_own hown).below ((Below.refl w1.heap.size w1).alloc (Nat.le_refl _) _) (Nat.le_refl _)) (Rd.lit rfl (by decide)) (by decide)).mono ?_
  rintro e w2 ⟨rfl, hb2⟩
  go_wp2_with fail
  go_ret
  refine ⟨rfl, ?_⟩
  have h1 : Below w.heap.size w w1 := ((Below.refl w.heap.size w).alloc (Nat.le_refl _) _).trans (hb1.mono (by simp))
  have hs := h1.size
  exact (h1.alloc hs _).trans (hb2.mono (by simp; omega))
end Go.Proofs.Ytagembkjmnfidaa
