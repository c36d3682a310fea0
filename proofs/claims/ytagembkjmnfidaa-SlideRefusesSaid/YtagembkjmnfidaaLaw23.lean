import Derived.Test.YtagembkjmnfidaaSldL
import Derived.Test.YtagembkjmnfidaaFts
namespace Go.Proofs.Ytagembkjmnfidaa
open Go.RowKit
open Go.Proofs.Ml
set_option linter.unusedVariables false

set_option maxRecDepth 100000 in
set_option maxHeartbeats 3200000 in
theorem walk23 (w : World) (v0 : Value) (z0 : List Chg) (r0 : Rd w v0 4 z0.length (chVals z0)) (b0 : z0.length ≤ 9223372036854775807) (v1 : Value) (z1 : List Int) (r1 : Rd w v1 1 z1.length (inVals z1)) (b1 : z1.length ≤ 9223372036854775807) (v2 : Value) (z2 : List Int) (r2 : Rd w v2 1 z2.length (inVals z2)) (b2 : z2.length ≤ 9223372036854775807) (a3 : Int) (b3 : -9223372036854775808 ≤ a3 ∧ a3 ≤ 9223372036854775807) :
    Calls Try.prog 23 #[v0, v1, v2, .int .i64 a3] w fun e w' => e = .returned (.bool true) ∧ Below w.heap.size w w' := by
  have H0 := hide r0
  have H1 := hide r1
  have H2 := hide r2
  obtain ⟨A0, c0, rfl, _, _, _, _⟩ := r0
  obtain ⟨A1, c1, rfl, _, _, _, _⟩ := r1
  obtain ⟨A2, c2, rfl, _, _, _, _⟩ := r2
  by_cases h0 : 10 < z0.length
  · have d0 : decide ((10 : Int) < (z0.length : Int)) = true := by simp; omega
    have d0' : decide (10 < z0.length) = true := by simp; omega
    clear h0
    go_enter Try.func23, Try.ntmps23
    go_wp2_with fail
    refine (awake67 _).mono ?_
    rintro e w' ⟨rfl, hb⟩
    go_wp2_with fail
    go_ret
    exact ⟨rfl, hb⟩
  have d0 : decide ((10 : Int) < (z0.length : Int)) = false := by simp; omega
  have d0' : decide (10 < z0.length) = false := by simp; omega
  by_cases h1 : 12 < z1.length
  · have d1 : decide ((12 : Int) < (z1.length : Int)) = true := by simp; omega
    have d1' : decide (12 < z1.length) = true := by simp; omega
    clear h1
    go_enter Try.func23, Try.ntmps23
    go_wp2_with fail
    refine (awake67 _).mono ?_
    rintro e w' ⟨rfl, hb⟩
    go_wp2_with fail
    go_ret
    exact ⟨rfl, hb⟩
  have d1 : decide ((12 : Int) < (z1.length : Int)) = false := by simp; omega
  have d1' : decide (12 < z1.length) = false := by simp; omega
  by_cases h2 : 12 < z2.length
  · have d2 : decide ((12 : Int) < (z2.length : Int)) = true := by simp; omega
    have d2' : decide (12 < z2.length) = true := by simp; omega
    clear h2
    go_enter Try.func23, Try.ntmps23
    go_wp2_with fail
    refine (awake67 _).mono ?_
    rintro e w' ⟨rfl, hb⟩
    go_wp2_with fail
    go_ret
    exact ⟨rfl, hb⟩
  have d2 : decide ((12 : Int) < (z2.length : Int)) = false := by simp; omega
  have d2' : decide (12 < z2.length) = false := by simp; omega
  have hl : z0.length ≤ 900000 := by omega
  clear h0 h1 h2
  have H48 := hide (fits48 _ _ _ z0 z1 z2 w H0.out H1.out H2.out hl)
  go_enter Try.func23, Try.ntmps23
  go_wp2_with fail
  refine H48.out.mono ?_
  rintro e w1 ⟨rfl, hb1⟩
  have s1 := hb1.size
  cases hf : fits z0 z1 z2 with
  | true =>
    clear hf
    go_wp2_with fail
    refine (awake67 _).mono ?_
    rintro e w' ⟨rfl, hb⟩
    go_wp2_with fail
    go_ret
    exact ⟨rfl, hb1.trans (hb.mono s1)⟩
  | false =>
    have HF := hide hf
    clear hf H48
    go_wp2_with fail
    refine (down68 _ _ _ z0 z1 z2 _ (H0.out.below hb1 (Nat.le_refl _)) (H1.out.below hb1 (Nat.le_refl _)) (H2.out.below hb1 (Nat.le_refl _)) hl).mono ?_
    rintro e w2 (⟨_, rfl, hb2⟩ | ⟨hf, _⟩)
    case inr => rw [HF.out] at hf; cases hf
    have c2_ := hb1.trans (hb2.mono s1)
    have s2 := c2_.size
    clear hb2
    go_wp2_with fail
    refine (up70 _ _ _ z0 z1 z2 _ (H0.out.below c2_ (Nat.le_refl _)) (H1.out.below c2_ (Nat.le_refl _)) (H2.out.below c2_ (Nat.le_refl _)) hl).mono ?_
    rintro e w3 (⟨_, rfl, hb3⟩ | ⟨hf, _⟩)
    case inr => rw [HF.out] at hf; cases hf
    have c3_ := c2_.trans (hb3.mono s2)
    have s3 := c3_.size
    clear hb3
    go_wp2_with fail
    refine (room65 _ _ _ z0 z1 z2 a3 _ (H0.out.below c3_ (Nat.le_refl _)) (H1.out.below c3_ (Nat.le_refl _)) (H2.out.below c3_ (Nat.le_refl _)) hl).mono ?_
    rintro e w4 ⟨(⟨_, rfl⟩ | ⟨hf, _⟩ | ⟨hf, _⟩), hb4⟩
    case inr.inl => rw [HF.out] at hf; cases hf
    case inr.inr => rw [HF.out] at hf; cases hf
    have c4_ := c3_.trans (hb4.mono s3)
    have s4 := c4_.size
    clear hb4
    go_wp2_with fail
    refine (awake67 _).mono ?_
    rintro e w' ⟨rfl, hb⟩
    go_wp2_with fail
    go_ret
    exact ⟨rfl, c4_.trans (hb.mono s4)⟩
end Go.Proofs.Ytagembkjmnfidaa
