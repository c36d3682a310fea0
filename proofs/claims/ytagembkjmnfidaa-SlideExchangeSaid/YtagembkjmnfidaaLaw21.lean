import Derived.Test.YtagembkjmnfidaaSldQ
import Derived.Test.YtagembkjmnfidaaSldL
import Derived.Test.YtagembkjmnfidaaSame
import Derived.Test.YtagembkjmnfidaaInv
namespace Go.Proofs.Ytagembkjmnfidaa
open Go.RowKit
open Go.Proofs.Ml
set_option linter.unusedVariables false

set_option maxRecDepth 100000 in
set_option maxHeartbeats 3200000 in
theorem walk21 (w : World) (v0 : Value) (z0 : List Int) (r0 : Rd w v0 1 z0.length (inVals z0)) (b0 : z0.length ≤ 9223372036854775807) (a1 : Bool) :
    Calls Try.prog 21 #[v0, .bool a1] w fun e w' => e = .returned (.bool true) ∧ Below w.heap.size w w' := by
  have H0 := hide r0
  clear r0
  go_enter Try.func21, Try.ntmps21
  go_wp2_with fail
  refine (pk64 _ z0 a1 _ H0.out b0).mono ?_
  rintro e W1 ⟨l, a, b, Al, cl, Aa, ca, Ab, cb, rfl, hf, hRl, hRa, hRb, hb1⟩
  have c1 := hb1
  have s1 := c1.size
  have t1 := hb1.size
  replace H0 := hide (H0.out.below hb1 (Nat.le_refl _))
  clear hb1
  obtain ⟨hl9, ha9, hb9⟩ := fits_len hf
  have F := hide hf
  have Rl := hide (hRl)
  have Ra := hide (hRa)
  have Rb := hide (hRb)
  clear hf hRl hRa hRb
  clear H0
  go_wp2_with fail
  refine (SlRet.calls (down68 _ _ _ l a b _ Rl.out Ra.out Rb.out (by omega)) F.out).mono ?_
  rintro e W2 ⟨x, Ax, cx_, rfl, hmx, hfx, hRx, hlx, hb2⟩
  have c2 := c1.trans (hb2.mono s1)
  have s2 := c2.size
  have t2 := hb2.size
  replace Rl := hide (Rl.out.below hb2 (Nat.le_refl _))
  replace Ra := hide (Ra.out.below hb2 (Nat.le_refl _))
  replace Rb := hide (Rb.out.below hb2 (Nat.le_refl _))
  clear hb2
  obtain ⟨hl9x, _, _⟩ := fits_len hfx
  have Mx := hide hmx
  have Fx := hide hfx
  have Lx := hide hlx
  have Rx := hide (hRx)
  clear hmx hfx hRx hlx
  go_wp2_with fail
  refine (inv53 _ l _ Rl.out (by omega)).mono ?_
  rintro e W3 ⟨vi, rfl, hoi, hb3⟩
  have c3 := c2.trans (hb3.mono s2)
  have s3 := c3.size
  have t3 := hb3.size
  replace Rl := hide (Rl.out.below hb3 (Nat.le_refl _))
  replace Ra := hide (Ra.out.below hb3 (Nat.le_refl _))
  replace Rb := hide (Rb.out.below hb3 (Nat.le_refl _))
  replace Rx := hide (Rx.out.below hb3 (Nat.le_refl _))
  clear hb3
  have hli := inv_len l
  have Ri := hide (Rd.of_own hoi)
  have hli' : (inv l).length ≤ 900000 := by omega
  clear hoi hli
  go_wp2_with fail
  refine (SlRet.calls (down68 _ _ _ (inv l) b a _ Ri.out Rb.out Ra.out (by omega)) (fits_inv F.out)).mono ?_
  rintro e W4 ⟨y, Ay, cy_, rfl, hmy, hfy, hRy, hly, hb4⟩
  have c4 := c3.trans (hb4.mono s3)
  have s4 := c4.size
  have t4 := hb4.size
  replace Rl := hide (Rl.out.below hb4 (Nat.le_refl _))
  replace Ra := hide (Ra.out.below hb4 (Nat.le_refl _))
  replace Rb := hide (Rb.out.below hb4 (Nat.le_refl _))
  replace Rx := hide (Rx.out.below hb4 (Nat.le_refl _))
  replace Ri := hide (Ri.out.below hb4 (Nat.le_refl _))
  clear hb4
  obtain ⟨hl9y, _, _⟩ := fits_len hfy
  have My := hide hmy
  have Fy := hide hfy
  have Ly := hide hly
  have Ry := hide (hRy)
  clear hmy hfy hRy hly
  have e_ := ex_det F.out Mx.out My.out
  subst e_
  go_wp2_with fail
  refine (inv53 _ x _ Rx.out (by omega)).mono ?_
  rintro e W5 ⟨vj, rfl, hoj, hb5⟩
  have c5 := c4.trans (hb5.mono s4)
  have s5 := c5.size
  have t5 := hb5.size
  replace Rl := hide (Rl.out.below hb5 (Nat.le_refl _))
  replace Ra := hide (Ra.out.below hb5 (Nat.le_refl _))
  replace Rb := hide (Rb.out.below hb5 (Nat.le_refl _))
  replace Rx := hide (Rx.out.below hb5 (Nat.le_refl _))
  replace Ri := hide (Ri.out.below hb5 (Nat.le_refl _))
  replace Ry := hide (Ry.out.below hb5 (Nat.le_refl _))
  clear hb5
  have hlj := inv_len x
  have Rj := hide (Rd.of_own hoj)
  have hlj' : (inv x).length ≤ 900000 := by omega
  clear hoj hlj
  go_wp2_with fail
  refine (same44 _ _ (inv x) _ Rj.out Ry.out (by omega)).mono ?_
  rintro e W6 ⟨rfl, hb6⟩
  have c6 := c5.trans (hb6.mono s5)
  have s6 := c6.size
  have t6 := hb6.size
  replace Rl := hide (Rl.out.below hb6 (Nat.le_refl _))
  replace Ra := hide (Ra.out.below hb6 (Nat.le_refl _))
  replace Rb := hide (Rb.out.below hb6 (Nat.le_refl _))
  replace Rx := hide (Rx.out.below hb6 (Nat.le_refl _))
  replace Ri := hide (Ri.out.below hb6 (Nat.le_refl _))
  replace Ry := hide (Ry.out.below hb6 (Nat.le_refl _))
  replace Rj := hide (Rj.out.below hb6 (Nat.le_refl _))
  clear hb6
  go_wp2_with fail
  refine (awake67 _).mono ?_
  rintro e W7 ⟨rfl, hb7⟩
  have c7 := c6.trans (hb7.mono s6)
  have s7 := c7.size
  have t7 := hb7.size
  clear hb7
  go_wp2_with fail
  go_ret
  exact ⟨rfl, c7⟩
end Go.Proofs.Ytagembkjmnfidaa
