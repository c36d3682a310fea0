import Derived.Test.YtagembkjmnfidaaAwkS
import Derived.Test.YtagembkjmnfidaaCmpA
import Derived.Test.YtagembkjmnfidaaCmpB
import Derived.Test.YtagembkjmnfidaaSec
import Derived.Test.YtagembkjmnfidaaInv
import Derived.Test.YtagembkjmnfidaaBaseI
namespace Go.Proofs.Ytagembkjmnfidaa
open Go.RowKit
open Go.Proofs.Ml
set_option linter.unusedVariables false

set_option maxRecDepth 100000 in
set_option maxHeartbeats 3200000 in
theorem walk11 (w : World) (v0 : Value) (z0 : List Int) (r0 : Rd w v0 1 z0.length (inVals z0)) (b0 : z0.length ≤ 9223372036854775807) (v1 : Value) (l : List Chg) (r1 : Rd w v1 4 l.length (chVals l)) (b1 : l.length ≤ 9223372036854775807) (sh : Int) (b2 : -9223372036854775808 ≤ sh ∧ sh ≤ 9223372036854775807) :
    Calls Try.prog 11 #[v0, v1, .int .i64 sh] w fun e w' => e = .returned (.bool true) ∧ Below w.heap.size w w' := by
  have H0 := hide r0
  have H1 := hide r1
  obtain ⟨A, cap, rfl, hcap, hcap', hlen, hA⟩ := r1
  clear r0 hcap hcap' hlen hA b1
  by_cases hx : 10 < l.length
  · go_enter Try.func11, Try.ntmps11
    go_wp2_with fail
    refine (awake35 _).mono ?_
    rintro e w' ⟨rfl, hb⟩
    go_wp2_with fail
    go_ret
    exact ⟨rfl, hb⟩
  go_enter Try.func11, Try.ntmps11
  go_wp2_with fail
  refine (script27 _ z0 0 _ H0.out b0 (by omega) (by omega)).mono ?_
  rintro e W1 ⟨vx, x, mx, nx, rfl, hvalx, hmx, hnx, hlx, hox, hb1⟩
  have c1 := hb1
  have s1 := c1.size
  have t1 := hb1.size
  replace H0 := hide (H0.out.below hb1 (Nat.le_refl _))
  replace H1 := hide (H1.out.below hb1 (Nat.le_refl _))
  clear hb1 t1
  have Rx := hide (Rd.of_own hox)
  have Vx := hide hvalx
  have hv_ := valid_iff.1 hvalx
  obtain ⟨m0x, m1x⟩ := hv_.1
  obtain ⟨n0x, n1x⟩ := hv_.2.1
  clear hvalx hox hv_
  go_wp2_with fail
  refine (second49 _ z0 200 nx _ H0.out b0 (by omega) (by omega) (by omega) (by omega)).mono ?_
  rintro e W2 ⟨vy, y, ny, rfl, hvaly, hny, hly, hoy, hb2⟩
  have c2 := c1.trans (hb2.mono s1)
  have s2 := c2.size
  have t2 := hb2.size
  replace H0 := hide (H0.out.below hb2 (Nat.le_refl _))
  replace H1 := hide (H1.out.below hb2 (Nat.le_refl _))
  replace Rx := hide (Rx.out.below hb2 (Nat.le_refl _))
  clear hb2 t2
  have Ry := hide (Rd.of_own hoy)
  have Vy := hide hvaly
  have hv_ := valid_iff.1 hvaly
  obtain ⟨n0y, n1y⟩ := hv_.2.1
  clear hvaly hoy hv_
  have Ea := hide (cp_ok Vx.out Vy.out)
  go_wp2_with fail
  refine (cmp50 _ _ x y mx nx ny _ Rx.out Ry.out (by first | omega | simp) (by first | omega | simp)).mono ?_
  rintro e W3 ⟨va, rfl, hoa, hb3⟩
  have c3 := c2.trans (hb3.mono s2)
  have s3 := c3.size
  have t3 := hb3.size
  replace H0 := hide (H0.out.below hb3 (Nat.le_refl _))
  replace H1 := hide (H1.out.below hb3 (Nat.le_refl _))
  replace Rx := hide (Rx.out.below hb3 (Nat.le_refl _))
  replace Ry := hide (Ry.out.below hb3 (Nat.le_refl _))
  clear hb3 t3
  rw [Ea.out.1]
  simp only [errOf, if_true]
  rw [Ea.out.2] at hoa
  clear Ea
  obtain ⟨a, ha⟩ : ∃ a, a = comp x y mx nx ny := ⟨_, rfl⟩
  rw [← ha] at hoa
  have hla : a.length ≤ 8192 := by rw [ha]; exact comp_len Vx.out Vy.out
  have Va := hide (show valid a mx ny = true by rw [ha]; exact comp_valid Vx.out Vy.out)
  have Qa := hide ha
  clear ha
  have Ra := hide (Rd.of_own hoa)
  clear hoa
  have Eb := hide (cp_ok Vx.out Vy.out)
  go_wp2_with fail
  refine (cmp51 _ _ x y mx nx ny _ Rx.out Ry.out (by first | omega | simp) (by first | omega | simp)).mono ?_
  rintro e W4 ⟨vb, rfl, hob, hb4⟩
  have c4 := c3.trans (hb4.mono s3)
  have s4 := c4.size
  have t4 := hb4.size
  replace H0 := hide (H0.out.below hb4 (Nat.le_refl _))
  replace H1 := hide (H1.out.below hb4 (Nat.le_refl _))
  replace Rx := hide (Rx.out.below hb4 (Nat.le_refl _))
  replace Ry := hide (Ry.out.below hb4 (Nat.le_refl _))
  replace Ra := hide (Ra.out.below hb4 (Nat.le_refl _))
  clear hb4 t4
  rw [Eb.out.1]
  simp only [errOf, if_true]
  rw [Eb.out.2] at hob
  clear Eb
  rw [show comp x y mx nx ny = a from Qa.out.symm] at hob
  have Rb := hide (Rd.of_own hob)
  clear hob
  go_wp2_with fail
  refine (mod29 sh 3 _ (by omega) (by omega)).mono ?_
  rintro e w' ⟨rfl, rfl⟩
  obtain ⟨q0, q1⟩ := gmod_range sh 3 (by omega) (by omega)
  generalize gmod sh 3 = s at *
  have hcl := cpRes_len x y mx (nx + s) ny
  go_wp2_with fail
  refine (cmp50 _ _ x y mx (nx + s) ny _ Rx.out Ry.out (by omega) (by omega)).mono ?_
  rintro e W5 ⟨vc, rfl, hoc, hb5⟩
  have c5 := c4.trans (hb5.mono s4)
  have s5 := c5.size
  have t5 := hb5.size
  replace H0 := hide (H0.out.below hb5 (Nat.le_refl _))
  replace H1 := hide (H1.out.below hb5 (Nat.le_refl _))
  replace Rx := hide (Rx.out.below hb5 (Nat.le_refl _))
  replace Ry := hide (Ry.out.below hb5 (Nat.le_refl _))
  replace Ra := hide (Ra.out.below hb5 (Nat.le_refl _))
  replace Rb := hide (Rb.out.below hb5 (Nat.le_refl _))
  clear hb5 t5
  have Rc := hide (Rd.of_own hoc)
  clear hoc
  go_wp2_with fail
  refine (cmp51 _ _ x y mx (nx + s) ny _ Rx.out Ry.out (by omega) (by omega)).mono ?_
  rintro e W6 ⟨vd, rfl, hod, hb6⟩
  have c6 := c5.trans (hb6.mono s5)
  have s6 := c6.size
  have t6 := hb6.size
  replace H0 := hide (H0.out.below hb6 (Nat.le_refl _))
  replace H1 := hide (H1.out.below hb6 (Nat.le_refl _))
  replace Rx := hide (Rx.out.below hb6 (Nat.le_refl _))
  replace Ry := hide (Ry.out.below hb6 (Nat.le_refl _))
  replace Ra := hide (Ra.out.below hb6 (Nat.le_refl _))
  replace Rb := hide (Rb.out.below hb6 (Nat.le_refl _))
  replace Rc := hide (Rc.out.below hb6 (Nat.le_refl _))
  clear hb6 t6
  have Rd2 := hide (Rd.of_own hod)
  clear hod
  generalize errOf (cpOk x y mx (nx + s) ny) = E at *
  generalize cpRes x y mx (nx + s) ny = c at *
  go_wp2_with fail
  refine (same44 _ _ a _ Ra.out Rb.out (by omega)).mono ?_
  rintro e W7 ⟨rfl, hb7⟩
  have c7 := c6.trans (hb7.mono s6)
  have s7 := c7.size
  have t7 := hb7.size
  replace H0 := hide (H0.out.below hb7 (Nat.le_refl _))
  replace H1 := hide (H1.out.below hb7 (Nat.le_refl _))
  replace Rx := hide (Rx.out.below hb7 (Nat.le_refl _))
  replace Ry := hide (Ry.out.below hb7 (Nat.le_refl _))
  replace Ra := hide (Ra.out.below hb7 (Nat.le_refl _))
  replace Rb := hide (Rb.out.below hb7 (Nat.le_refl _))
  replace Rc := hide (Rc.out.below hb7 (Nat.le_refl _))
  replace Rd2 := hide (Rd2.out.below hb7 (Nat.le_refl _))
  clear hb7 t7
  go_wp2_with fail
  refine (same44 _ _ c _ Rc.out Rd2.out (by omega)).mono ?_
  rintro e W8 ⟨rfl, hb8⟩
  have c8 := c7.trans (hb8.mono s7)
  have s8 := c8.size
  have t8 := hb8.size
  replace H0 := hide (H0.out.below hb8 (Nat.le_refl _))
  replace H1 := hide (H1.out.below hb8 (Nat.le_refl _))
  replace Rx := hide (Rx.out.below hb8 (Nat.le_refl _))
  replace Ry := hide (Ry.out.below hb8 (Nat.le_refl _))
  replace Ra := hide (Ra.out.below hb8 (Nat.le_refl _))
  replace Rb := hide (Rb.out.below hb8 (Nat.le_refl _))
  replace Rc := hide (Rc.out.below hb8 (Nat.le_refl _))
  replace Rd2 := hide (Rd2.out.below hb8 (Nat.le_refl _))
  clear hb8 t8
  go_wp2_with fail
  refine (inv52 _ l _ H1.out (by omega)).mono ?_
  rintro e W9 ⟨vu, rfl, hou, hb9⟩
  have c9 := c8.trans (hb9.mono s8)
  have s9 := c9.size
  have t9 := hb9.size
  replace H0 := hide (H0.out.below hb9 (Nat.le_refl _))
  replace H1 := hide (H1.out.below hb9 (Nat.le_refl _))
  replace Rx := hide (Rx.out.below hb9 (Nat.le_refl _))
  replace Ry := hide (Ry.out.below hb9 (Nat.le_refl _))
  replace Ra := hide (Ra.out.below hb9 (Nat.le_refl _))
  replace Rb := hide (Rb.out.below hb9 (Nat.le_refl _))
  replace Rc := hide (Rc.out.below hb9 (Nat.le_refl _))
  replace Rd2 := hide (Rd2.out.below hb9 (Nat.le_refl _))
  clear hb9 t9
  have hlu := inv_len l
  have Ru := hide (Rd.of_own hou)
  have hlu' : (inv l).length ≤ 900000 := by omega
  clear hou hlu
  go_wp2_with fail
  refine (inv53 _ l _ H1.out (by omega)).mono ?_
  rintro e W10 ⟨vt, rfl, hot, hb10⟩
  have c10 := c9.trans (hb10.mono s9)
  have s10 := c10.size
  have t10 := hb10.size
  replace H0 := hide (H0.out.below hb10 (Nat.le_refl _))
  replace H1 := hide (H1.out.below hb10 (Nat.le_refl _))
  replace Rx := hide (Rx.out.below hb10 (Nat.le_refl _))
  replace Ry := hide (Ry.out.below hb10 (Nat.le_refl _))
  replace Ra := hide (Ra.out.below hb10 (Nat.le_refl _))
  replace Rb := hide (Rb.out.below hb10 (Nat.le_refl _))
  replace Rc := hide (Rc.out.below hb10 (Nat.le_refl _))
  replace Rd2 := hide (Rd2.out.below hb10 (Nat.le_refl _))
  replace Ru := hide (Ru.out.below hb10 (Nat.le_refl _))
  clear hb10 t10
  have hlt := inv_len l
  have Rt := hide (Rd.of_own hot)
  have hlt' : (inv l).length ≤ 900000 := by omega
  clear hot hlt
  go_wp2_with fail
  refine (same44 _ _ (inv l) _ Ru.out Rt.out (by omega)).mono ?_
  rintro e W11 ⟨rfl, hb11⟩
  have c11 := c10.trans (hb11.mono s10)
  have s11 := c11.size
  have t11 := hb11.size
  replace H0 := hide (H0.out.below hb11 (Nat.le_refl _))
  replace H1 := hide (H1.out.below hb11 (Nat.le_refl _))
  replace Rx := hide (Rx.out.below hb11 (Nat.le_refl _))
  replace Ry := hide (Ry.out.below hb11 (Nat.le_refl _))
  replace Ra := hide (Ra.out.below hb11 (Nat.le_refl _))
  replace Rb := hide (Rb.out.below hb11 (Nat.le_refl _))
  replace Rc := hide (Rc.out.below hb11 (Nat.le_refl _))
  replace Rd2 := hide (Rd2.out.below hb11 (Nat.le_refl _))
  replace Ru := hide (Ru.out.below hb11 (Nat.le_refl _))
  replace Rt := hide (Rt.out.below hb11 (Nat.le_refl _))
  clear hb11 t11
  go_wp2_with fail
  refine (awake35 _).mono ?_
  rintro e W12 ⟨rfl, hb12⟩
  have c12 := c11.trans (hb12.mono s11)
  have s12 := c12.size
  have t12 := hb12.size
  clear hb12 t12
  go_wp2_with fail
  go_ret
  exact ⟨rfl, c12⟩
end Go.Proofs.Ytagembkjmnfidaa
