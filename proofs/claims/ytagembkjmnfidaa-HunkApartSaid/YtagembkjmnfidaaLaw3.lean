import Derived.Test.YtagembkjmnfidaaGrpB
import Derived.Test.YtagembkjmnfidaaGen2
import Derived.Test.YtagembkjmnfidaaAwkH
namespace Go.Proofs.Ytagembkjmnfidaa
open Go.RowKit
open Go.Proofs.Ml
set_option linter.unusedVariables false

theorem hunksGo_len (m ctx : Int) : ∀ (l : List Chg) (k first : Int) (a z : Chg), (hunksGo m ctx k first a z l).length ≤ l.length + 1
  | [], _, _, _, _ => by simp [hunksGo]
  | c :: l, k, first, a, z => by
    simp only [hunksGo]
    split
    · have := hunksGo_len m ctx l (k + 1) k c c
      simp only [List.length_cons]; omega
    · have := hunksGo_len m ctx l (k + 1) first a c
      simp only [List.length_cons]; omega
theorem grp_len (l : List Chg) (m n ctx : Int) : (grp l m n ctx).length ≤ l.length := by
  unfold grp
  split
  · simp
  · split
    · unfold hunks hunksFrom
      cases l with
      | nil => simp
      | cons c l => exact hunksGo_len m ctx l _ _ _ _
    · simp

set_option maxRecDepth 100000 in
set_option maxHeartbeats 1600000 in
theorem walk3 (w : World) (v0 : Value) (z0 : List Int) (r0 : Rd w v0 1 z0.length (inVals z0)) (b0 : z0.length ≤ 9223372036854775807) (ctx : Int) (b1 : -9223372036854775808 ≤ ctx ∧ ctx ≤ 9223372036854775807)
    (v2 : Value) (l : List Chg) (r2 : Rd w v2 4 l.length (chVals l)) (b2 : l.length ≤ 9223372036854775807) (m : Int) (b3 : -9223372036854775808 ≤ m ∧ m ≤ 9223372036854775807) (n : Int) (b4 : -9223372036854775808 ≤ n ∧ n ≤ 9223372036854775807) (c : Int) (b5 : -9223372036854775808 ≤ c ∧ c ≤ 9223372036854775807) :
    Calls Try.prog 3 #[v0, .int .i64 ctx, v2, .int .i64 m, .int .i64 n, .int .i64 c] w fun e w' => e = .returned (.bool true) ∧ Below w.heap.size w w' := by
  have H0 := hide r0
  have H2 := hide r2
  obtain ⟨A, cap, rfl, hcap, hcap', hlen, hA⟩ := r2
  clear hlen hcap hcap' hA r0
  by_cases hx : 10 < l.length
  · go_enter Try.func3, Try.ntmps3
    go_wp2_with fail
    refine (awake26 _).mono ?_
    rintro e w' ⟨rfl, hb⟩
    go_wp2_with fail
    go_ret
    exact ⟨rfl, hb⟩
  have hl10 : l.length ≤ 10 := by omega
  clear hx
  obtain ⟨k, hk⟩ : ∃ k, k = gmod ctx 5 := ⟨_, rfl⟩
  have hmod : ∀ W, Calls Try.prog 29 #[.int .i64 ctx, .int .i64 5] W fun e w' => e = .returned (.int .i64 k) ∧ W = w' := fun W => by
    rw [hk]; exact mod29 ctx 5 W (by omega) (by omega)
  have HM := hide hmod
  clear hmod hk
  go_enter Try.func3, Try.ntmps3
  go_wp2_with fail
  refine (script27 _ z0 0 _ H0.out b0 (by omega) (by omega)).mono ?_
  rintro e w1 ⟨sv, s, a, b, rfl, hval, ha, hb, hsl, hs, hb1⟩
  have HS := hide (Rd.of_own hs)
  have HV := hide hval
  clear hs hval
  have s1 := hb1.size
  go_wp2_with fail
  refine (HM.out _).mono ?_
  rintro e w1' ⟨rfl, rfl⟩
  go_wp2_with fail
  refine (group28 _ s a b k _ HS.out (by omega)).mono ?_
  rintro e w2 ⟨xv, rfl, hxo, hb2⟩
  have HX := hide (Rd.of_own hxo)
  have HS2 := hide (HS.out.below hb2 (Nat.le_refl _))
  have c2 := hb1.trans (hb2.mono s1)
  have s2 := c2.size
  clear hxo
  go_wp2_with fail
  refine (HM.out _).mono ?_
  rintro e w2' ⟨rfl, rfl⟩
  go_wp2_with fail
  refine (refgroup30 _ s a b k _ HS2.out (by omega)).mono ?_
  rintro e w3 ⟨yv, rfl, hyo, hb3⟩
  have HY := hide (Rd.of_own hyo)
  have HX3 := hide (HX.out.below hb3 (Nat.le_refl _))
  have HS3 := hide (HS2.out.below hb3 (Nat.le_refl _))
  have c3 := c2.trans (hb3.mono s2)
  have s3 := c3.size
  clear hyo
  have q1 := grp_len s a b k
  generalize grpErr s a b k = E1 at *
  generalize grp s a b k = G1 at *
  go_wp2_with fail
  refine (group28 _ l m n c _ (H2.out.below c3 (Nat.le_refl _)) (by omega)).mono ?_
  rintro e w4 ⟨uv, rfl, huo, hb4⟩
  have HU := hide (Rd.of_own huo)
  have c4 := c3.trans (hb4.mono s3)
  have s4 := c4.size
  clear huo
  go_wp2_with fail
  refine (refgroup30 _ l m n c _ (H2.out.below c4 (Nat.le_refl _)) (by omega)).mono ?_
  rintro e w5 ⟨vv, rfl, hvo, hb5⟩
  have HVV := hide (Rd.of_own hvo)
  have HU5 := hide (HU.out.below hb5 (Nat.le_refl _))
  have c5 := c4.trans (hb5.mono s4)
  have s5 := c5.size
  clear hvo
  have q2 := grp_len l m n c
  generalize grpErr l m n c = E2 at *
  generalize grp l m n c = G2 at *
  have hb35 := hb4.trans (hb5.mono hb4.size)
  have HG := hide (grp_range (l := s) (m := a) (n := b) (ctx := 1048577) (.inr (by omega)))
  go_wp2_with fail
  refine (group28 _ s a b 1048577 _ (HS3.out.below hb35 (Nat.le_refl _)) (by omega)).mono ?_
  rintro e w6 ⟨zv, rfl, hzo, hb6⟩
  rw [HG.out.1]
  have c6 := c5.trans (hb6.mono s5)
  have s6 := c6.size
  have hb36 := hb35.trans (hb6.mono hb35.size)
  clear hzo
  go_wp2_with fail
  refine (same31 _ _ G1 _ (HX3.out.below hb36 (Nat.le_refl _)) ((HY.out).below hb36 (Nat.le_refl _)) (by omega)).mono ?_
  rintro e w7 ⟨rfl, hb7⟩
  have c7 := c6.trans (hb7.mono s6)
  have s7 := c7.size
  have hb57 := hb6.trans (hb7.mono hb6.size)
  go_wp2_with fail
  refine (same31 _ _ G2 _ (HU5.out.below hb57 (Nat.le_refl _)) (HVV.out.below hb57 (Nat.le_refl _)) (by omega)).mono ?_
  rintro e w8 ⟨rfl, hb8⟩
  have c8 := c7.trans (hb8.mono s7)
  have s8 := c8.size
  go_wp2_with fail
  refine (awake26 _).mono ?_
  rintro e w9 ⟨rfl, hb9⟩
  go_wp2_with fail
  go_ret
  exact ⟨rfl, c8.trans (hb9.mono s8)⟩
end Go.Proofs.Ytagembkjmnfidaa
