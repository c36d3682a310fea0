import Derived.Test.YtagembkjmnfidaaSldQ
import Derived.Test.YtagembkjmnfidaaSldM
import Derived.Test.YtagembkjmnfidaaSldL
namespace Go.Proofs.Ytagembkjmnfidaa
open Go.RowKit
open Go.Proofs.Ml
set_option linter.unusedVariables false

set_option maxRecDepth 100000 in
set_option maxHeartbeats 3200000 in
theorem walk20 (w : World) (v0 : Value) (z0 : List Int) (r0 : Rd w v0 1 z0.length (inVals z0)) (b0 : z0.length ≤ 9223372036854775807) (a1 : Bool) (a2 : Int) (b2 : -9223372036854775808 ≤ a2 ∧ a2 ≤ 9223372036854775807) :
    Calls Try.prog 20 #[v0, .bool a1, .int .i64 a2] w fun e w' => e = .returned (.bool true) ∧ Below w.heap.size w w' := by
  have H0 := hide r0
  clear r0
  go_enter Try.func20, Try.ntmps20
  go_wp2_with fail
  refine (pk64 _ z0 a1 _ H0.out b0).mono ?_
  rintro e W1 ⟨l, a, b, Al, cl, Aa, ca, Ab, cb, rfl, hf, hRl, hRa, hRb, hb1⟩
  have c1 := hb1
  have s1 := c1.size
  have t1 := hb1.size
  replace H0 := hide (H0.out.below hb1 (Nat.le_refl _))
  clear hb1
  obtain ⟨hl9, ha9, hb9⟩ := fits_len hf
  have F := hide hf
  have Rl := hide (hRl)
  have Ra := hide (hRa)
  have Rb := hide (hRb)
  clear hf hRl hRa hRb
  clear H0
  clear b2
  go_wp2_with fail
  refine (RmRet.calls (room65 _ _ _ l a b a2 _ Rl.out Ra.out Rb.out (by omega)) F.out).mono ?_
  rintro e W2 ⟨Xp, Yp, Ep, rfl, hmp, hb2⟩
  have c2 := c1.trans (hb2.mono s1)
  have s2 := c2.size
  have t2 := hb2.size
  replace Rl := hide (Rl.out.below hb2 (Nat.le_refl _))
  replace Ra := hide (Ra.out.below hb2 (Nat.le_refl _))
  replace Rb := hide (Rb.out.below hb2 (Nat.le_refl _))
  clear hb2
  have Mp := hide hmp
  clear hmp
  go_wp2_with fail
  refine (RmRet.calls (rroom66 _ _ _ l a b a2 _ Rl.out Ra.out Rb.out (by omega)) F.out).mono ?_
  rintro e W3 ⟨Xq, Yq, Eq, rfl, hmq, hb3⟩
  have c3 := c2.trans (hb3.mono s2)
  have s3 := c3.size
  have t3 := hb3.size
  replace Rl := hide (Rl.out.below hb3 (Nat.le_refl _))
  replace Ra := hide (Ra.out.below hb3 (Nat.le_refl _))
  replace Rb := hide (Rb.out.below hb3 (Nat.le_refl _))
  clear hb3
  have Mq := hide hmq
  clear hmq
  obtain ⟨e1_, e2_, e3_⟩ := Mp.out.det Mq.out
  subst e1_
  subst e2_
  subst e3_
  have qXp : ((Xp == Xp) : Bool) = true := by simp
  have qYp : ((Yp == Yp) : Bool) = true := by simp
  have qEp : ((Ep == Ep) : Bool) = true := by simp
  by_cases h0 : 0 < l.length
  · have d0 : decide ((0 : Int) < (l.length : Int)) = true := decide_eq_true (by omega)
    have d1 : decide (0 < l.length) = true := decide_eq_true (by omega)
    go_wp2_with fail
    refine (mod29b _ _ _ (by omega) (by omega)).mono ?_
    rintro e w' ⟨rfl, rfl⟩
    generalize gmod a2 l.length = K at *
    clear d0 d1 h0
    go_wp2_with fail
    refine (RmRet.calls (room65 _ _ _ l a b K _ Rl.out Ra.out Rb.out (by omega)) F.out).mono ?_
    rintro e W4 ⟨Xr, Yr, Er, rfl, hmr, hb4⟩
    have c4 := c3.trans (hb4.mono s3)
    have s4 := c4.size
    have t4 := hb4.size
    replace Rl := hide (Rl.out.below hb4 (Nat.le_refl _))
    replace Ra := hide (Ra.out.below hb4 (Nat.le_refl _))
    replace Rb := hide (Rb.out.below hb4 (Nat.le_refl _))
    clear hb4
    have Mr := hide hmr
    clear hmr
    go_wp2_with fail
    refine (RmRet.calls (rroom66 _ _ _ l a b K _ Rl.out Ra.out Rb.out (by omega)) F.out).mono ?_
    rintro e W5 ⟨Xs, Ys, Es, rfl, hms, hb5⟩
    have c5 := c4.trans (hb5.mono s4)
    have s5 := c5.size
    have t5 := hb5.size
    replace Rl := hide (Rl.out.below hb5 (Nat.le_refl _))
    replace Ra := hide (Ra.out.below hb5 (Nat.le_refl _))
    replace Rb := hide (Rb.out.below hb5 (Nat.le_refl _))
    clear hb5
    have Ms := hide hms
    clear hms
    obtain ⟨e1_, e2_, e3_⟩ := Mr.out.det Ms.out
    subst e1_
    subst e2_
    subst e3_
    have qXr : ((Xr == Xr) : Bool) = true := by simp
    have qYr : ((Yr == Yr) : Bool) = true := by simp
    have qEr : ((Er == Er) : Bool) = true := by simp
    go_wp2_with fail
    refine (awake67 _).mono ?_
    rintro e W6 ⟨rfl, hb6⟩
    have c6 := c5.trans (hb6.mono s5)
    have s6 := c6.size
    have t6 := hb6.size
    clear hb6
    go_wp2_with fail
    go_ret
    exact ⟨rfl, c6⟩
  · have d0 : decide ((0 : Int) < (l.length : Int)) = false := decide_eq_false (by omega)
    have d1 : decide (0 < l.length) = false := decide_eq_false (by omega)
    clear h0
    go_wp2_with fail
    refine (RmRet.calls (room65 _ _ _ l a b a2 _ Rl.out Ra.out Rb.out (by omega)) F.out).mono ?_
    rintro e W4 ⟨Xr, Yr, Er, rfl, hmr, hb4⟩
    have c4 := c3.trans (hb4.mono s3)
    have s4 := c4.size
    have t4 := hb4.size
    replace Rl := hide (Rl.out.below hb4 (Nat.le_refl _))
    replace Ra := hide (Ra.out.below hb4 (Nat.le_refl _))
    replace Rb := hide (Rb.out.below hb4 (Nat.le_refl _))
    clear hb4
    have Mr := hide hmr
    clear hmr
    go_wp2_with fail
    refine (RmRet.calls (rroom66 _ _ _ l a b a2 _ Rl.out Ra.out Rb.out (by omega)) F.out).mono ?_
    rintro e W5 ⟨Xs, Ys, Es, rfl, hms, hb5⟩
    have c5 := c4.trans (hb5.mono s4)
    have s5 := c5.size
    have t5 := hb5.size
    replace Rl := hide (Rl.out.below hb5 (Nat.le_refl _))
    replace Ra := hide (Ra.out.below hb5 (Nat.le_refl _))
    replace Rb := hide (Rb.out.below hb5 (Nat.le_refl _))
    clear hb5
    have Ms := hide hms
    clear hms
    obtain ⟨e1_, e2_, e3_⟩ := Mr.out.det Ms.out
    subst e1_
    subst e2_
    subst e3_
    have qXr : ((Xr == Xr) : Bool) = true := by simp
    have qYr : ((Yr == Yr) : Bool) = true := by simp
    have qEr : ((Er == Er) : Bool) = true := by simp
    go_wp2_with fail
    refine (awake67 _).mono ?_
    rintro e W6 ⟨rfl, hb6⟩
    have c6 := c5.trans (hb6.mono s5)
    have s6 := c6.size
    have t6 := hb6.size
    clear hb6
    go_wp2_with fail
    go_ret
    exact ⟨rfl, c6⟩
end Go.Proofs.Ytagembkjmnfidaa
