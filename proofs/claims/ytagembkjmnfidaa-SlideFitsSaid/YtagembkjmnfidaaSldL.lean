import Derived.Test.YtagembkjmnfidaaSldJ
import Derived.Test.YtagembkjmnfidaaAwkH
import Derived.Test.YtagembkjmnfidaaSame
namespace Go.Proofs.Ytagembkjmnfidaa
open Go.RowKit
open Go.Proofs.Ml
set_option linter.unusedVariables false

theorem aw_fits : fits [⟨0, 0, 0, 1⟩] [1, 2] [1, 1, 2] = true := by decide
theorem aw_down : Mv (canD [1, 2] [1, 1, 2]) 1 0 1 [⟨0, 0, 0, 1⟩] [⟨1, 0, 1, 1⟩] := by
  refine .step 0 _ _ ⟨⟨0, 0, 0, 1⟩, [1, 1, 2], 0, 1, rfl, rfl, by decide, rfl, trivial⟩ (.stop _ ?_)
  intro h
  rw [canD_iff (t := [1, 1, 2]) (f := 1) (n := 1) (by decide) rfl] at h
  exact absurd h.2.1 (by decide)
theorem aw_up : Mv (canU [1, 2] [1, 1, 2]) (-1) 0 0 [⟨0, 0, 0, 1⟩] [⟨0, 0, 0, 1⟩] := by
  refine .stop _ ?_
  intro h
  rw [canU_iff (t := [1, 1, 2]) (f := 0) (n := 1) (by decide) rfl] at h
  exact absurd h.1 (by decide)

theorem lit_l (W : World) (B : Nat) (hB : B = W.heap.size) : Rd (W.alloc (.cells #[.int .i64 0, .int .i64 0, .int .i64 0, .int .i64 1] 45)) (.slice (some ⟨B, 0, none⟩) 1 1) 4 1 (chVals [⟨0, 0, 0, 1⟩]) := by subst hB; exact Rd.lit rfl (by decide)
theorem lit_r (W : World) (B : Nat) (hB : B = W.heap.size) : Rd (W.alloc (.cells #[.int .i64 1, .int .i64 0, .int .i64 1, .int .i64 1] 45)) (.slice (some ⟨B, 0, none⟩) 1 1) 4 1 (chVals [⟨1, 0, 1, 1⟩]) := by subst hB; exact Rd.lit rfl (by decide)
theorem lit_a (W : World) (B : Nat) (hB : B = W.heap.size) : Rd (W.alloc (.cells #[.int .i64 1, .int .i64 2] 3)) (.slice (some ⟨B, 0, none⟩) 2 2) 1 2 (inVals [1, 2]) := by subst hB; exact Rd.lit rfl (by decide)
theorem lit_b (W : World) (B : Nat) (hB : B = W.heap.size) : Rd (W.alloc (.cells #[.int .i64 1, .int .i64 1, .int .i64 2] 3)) (.slice (some ⟨B, 0, none⟩) 3 3) 1 3 (inVals [1, 1, 2]) := by subst hB; exact Rd.lit rfl (by decide)
theorem aw_dn (v va vb : Value) (W : World) (h1 : Rd W v 4 1 (chVals [⟨0, 0, 0, 1⟩])) (h2 : Rd W va 1 2 (inVals [1, 2])) (h3 : Rd W vb 1 3 (inVals [1, 1, 2])) :
    Calls Try.prog 68 #[v, va, vb] W fun e w' => ∃ v', e = .returned (.tuple #[v', .int .i64 0]) ∧ Rd w' v' 4 1 (chVals [⟨1, 0, 1, 1⟩]) ∧ Below W.heap.size W w' := by
  refine (down68 v va vb [⟨0, 0, 0, 1⟩] [1, 2] [1, 1, 2] W h1 h2 h3 (by decide)).mono ?_
  rintro e w1 (⟨hf, _⟩ | ⟨_, r, v, rfl, hr, _, hown, hb1⟩)
  · rw [aw_fits] at hf; cases hf
  · obtain rfl := hr.det (.cons 0 [] 1 _ _ _ aw_down (.nil _))
    exact ⟨v, rfl, Rd.of_own hown, hb1⟩
theorem aw_rm (v va vb : Value) (W : World) (h1 : Rd W v 4 1 (chVals [⟨0, 0, 0, 1⟩])) (h2 : Rd W va 1 2 (inVals [1, 2])) (h3 : Rd W vb 1 3 (inVals [1, 1, 2])) :
    Calls Try.prog 65 #[v, va, vb, .int .i64 0] W fun e w' => e = .returned (.tuple #[.int .i64 0, .int .i64 1, .int .i64 0]) ∧ Below W.heap.size W w' := by
  refine (room65 v va vb [⟨0, 0, 0, 1⟩] [1, 2] [1, 1, 2] 0 W h1 h2 h3 (by decide)).mono ?_
  rintro e w1 ⟨h, hb1⟩
  refine ⟨?_, hb1⟩
  rcases h with ⟨hf, _⟩ | ⟨_, hk, _⟩ | ⟨_, K, u, d, r, s, hK, _, hu, hd, rfl⟩
  · rw [aw_fits] at hf; cases hf
  · exact absurd hk (by decide)
  · obtain rfl : K = 0 := by omega
    obtain ⟨rfl, _⟩ := hu.det aw_up
    obtain ⟨rfl, _⟩ := hd.det aw_down
    rfl

set_option maxRecDepth 100000 in
set_option maxHeartbeats 1600000 in
theorem awake67 (w : World) : Calls Try.prog 67 #[] w fun e w' => e = .returned (.bool true) ∧ Below w.heap.size w w' := by
  have HL0 := hide (lit_l w _ rfl)
  have B0 := hide (show Below w.heap.size w (w.alloc (.cells #[.int .i64 0, .int .i64 0, .int .i64 0, .int .i64 1] 45)) from (Below.refl _ _).alloc (Nat.le_refl _) _)
  go_enter Try.func67, Try.ntmps67
  go_wp2_with fail
  refine (aw_dn _ _ _ _ ((HL0.out.below ((Below.refl _ _).alloc (Nat.le_refl _) _) (Nat.le_refl _)).below ((Below.refl _ _).alloc (Nat.le_refl _) _) (Nat.le_refl _)) ((lit_a _ _ (by simp)).below ((Below.refl _ _).alloc (Nat.le_refl _) _) (Nat.le_refl _)) (lit_b _ _ (by simp))).mono ?_
  rintro e w1 ⟨v, rfl, hr1, hb1⟩
  have hb1' := (((Below.refl (w.alloc (.cells #[.int .i64 0, .int .i64 0, .int .i64 0, .int .i64 1] 45)).heap.size _).alloc (Nat.le_refl _) (.cells #[.int .i64 1, .int .i64 2] 3)).alloc (by simp) (.cells #[.int .i64 1, .int .i64 1, .int .i64 2] 3)).trans (hb1.mono (by simp))
  have hl1 := HL0.out.below hb1' (Nat.le_refl _)
  have c1 := B0.out.trans (hb1'.mono B0.out.size)
  have s1 := c1.size
  clear hb1' hb1 HL0 B0
  go_wp2_with fail
  refine (aw_rm _ _ _ _ ((hl1.below ((Below.refl _ _).alloc (Nat.le_refl _) _) (Nat.le_refl _)).below ((Below.refl _ _).alloc (Nat.le_refl _) _) (Nat.le_refl _)) ((lit_a _ _ (by simp)).below ((Below.refl _ _).alloc (Nat.le_refl _) _) (Nat.le_refl _)) (lit_b _ _ (by simp))).mono ?_
  rintro e w2 ⟨rfl, hb2⟩
  have hb2' := (((Below.refl w1.heap.size w1).alloc (Nat.le_refl _) (.cells #[.int .i64 1, .int .i64 2] 3)).alloc (by simp) (.cells #[.int .i64 1, .int .i64 1, .int .i64 2] 3)).trans (hb2.mono (by simp; omega))
  have hr2 := hr1.below hb2' (Nat.le_refl _)
  have c2 := c1.trans (hb2'.mono s1)
  have s2 := c2.size
  clear hb2' hb2 hl1 hr1
  go_wp2_with fail
  refine (same44 _ _ [⟨1, 0, 1, 1⟩] _ (hr2.below ((Below.refl _ _).alloc (Nat.le_refl _) _) (Nat.le_refl _)) (lit_r _ _ (by simp)) (by decide)).mono ?_
  rintro e w3 ⟨rfl, hb3⟩
  go_wp2_with fail
  go_ret
  exact ⟨rfl, (c2.alloc s2 _).trans (hb3.mono (by simp; omega))⟩
end Go.Proofs.Ytagembkjmnfidaa
