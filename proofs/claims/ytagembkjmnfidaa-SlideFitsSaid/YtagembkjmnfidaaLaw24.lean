import Derived.Test.YtagembkjmnfidaaSldQ
import Derived.Test.YtagembkjmnfidaaSldL
import Derived.Test.YtagembkjmnfidaaSame
import Derived.Test.YtagembkjmnfidaaSizB
import Derived.Test.YtagembkjmnfidaaBaseJ
namespace Go.Proofs.Ytagembkjmnfidaa
open Go.RowKit
open Go.Proofs.Ml
set_option linter.unusedVariables false

set_option maxRecDepth 100000 in
set_option maxHeartbeats 3200000 in
theorem walk24 (w : World) (v0 : Value) (z0 : List Int) (r0 : Rd w v0 1 z0.length (inVals z0)) (b0 : z0.length ≤ 9223372036854775807) (a1 : Bool) :
    Calls Try.prog 24 #[v0, .bool a1] w fun e w' => e = .returned (.bool true) ∧ Below w.heap.size w w' := by
  have H0 := hide r0
  clear r0
  go_enter Try.func24, Try.ntmps24
  go_wp2_with fail
  refine (pk64 _ z0 a1 _ H0.out b0).mono ?_
  rintro e W1 ⟨l, a, b, Al, cl, Aa, ca, Ab, cb, rfl, hf, hRl, hRa, hRb, hb1⟩
  have c1 := hb1
  have s1 := c1.size
  have t1 := hb1.size
  replace H0 := hide (H0.out.below hb1 (Nat.le_refl _))
  clear hb1
  obtain ⟨hl9, ha9, hb9⟩ := fits_len hf
  have F := hide hf
  have Rl := hide (hRl)
  have Ra := hide (hRa)
  have Rb := hide (hRb)
  clear hf hRl hRa hRb
  clear H0
  go_wp2_with fail
  refine (SlRet.calls (down68 _ _ _ l a b _ Rl.out Ra.out Rb.out (by omega)) F.out).mono ?_
  rintro e W2 ⟨x, Ax, cx_, rfl, hmx, hfx, hRx, hlx, hb2⟩
  have c2 := c1.trans (hb2.mono s1)
  have s2 := c2.size
  have t2 := hb2.size
  replace Rl := hide (Rl.out.below hb2 (Nat.le_refl _))
  replace Ra := hide (Ra.out.below hb2 (Nat.le_refl _))
  replace Rb := hide (Rb.out.below hb2 (Nat.le_refl _))
  clear hb2
  obtain ⟨hl9x, _, _⟩ := fits_len hfx
  have Mx := hide hmx
  have Fx := hide hfx
  have Lx := hide hlx
  have Rx := hide (hRx)
  clear hmx hfx hRx hlx
  go_wp2_with fail
  refine (SlRet.calls (up70 _ _ _ l a b _ Rl.out Ra.out Rb.out (by omega)) F.out).mono ?_
  rintro e W3 ⟨y, Ay, cy_, rfl, hmy, hfy, hRy, hly, hb3⟩
  have c3 := c2.trans (hb3.mono s2)
  have s3 := c3.size
  have t3 := hb3.size
  replace Rl := hide (Rl.out.below hb3 (Nat.le_refl _))
  replace Ra := hide (Ra.out.below hb3 (Nat.le_refl _))
  replace Rb := hide (Rb.out.below hb3 (Nat.le_refl _))
  replace Rx := hide (Rx.out.below hb3 (Nat.le_refl _))
  clear hb3
  obtain ⟨hl9y, _, _⟩ := fits_len hfy
  have My := hide hmy
  have Fy := hide hfy
  have Ly := hide hly
  have Ry := hide (hRy)
  clear hmy hfy hRy hly
  go_wp2_with fail
  refine (fits48 _ _ _ x a b _ Rx.out Ra.out Rb.out (by omega)).mono ?_
  rintro e W4 ⟨rfl, hb4⟩
  have c4 := c3.trans (hb4.mono s3)
  have s4 := c4.size
  have t4 := hb4.size
  replace Rl := hide (Rl.out.below hb4 (Nat.le_refl _))
  replace Ra := hide (Ra.out.below hb4 (Nat.le_refl _))
  replace Rb := hide (Rb.out.below hb4 (Nat.le_refl _))
  replace Rx := hide (Rx.out.below hb4 (Nat.le_refl _))
  replace Ry := hide (Ry.out.below hb4 (Nat.le_refl _))
  clear hb4
  rw [Fx.out]
  have nx : (((x.length : Int) != (l.length : Int)) : Bool) = false := by rw [Lx.out]; simp
  go_wp2_with fail
  refine (fits48 _ _ _ y a b _ Ry.out Ra.out Rb.out (by omega)).mono ?_
  rintro e W5 ⟨rfl, hb5⟩
  have c5 := c4.trans (hb5.mono s4)
  have s5 := c5.size
  have t5 := hb5.size
  replace Rl := hide (Rl.out.below hb5 (Nat.le_refl _))
  replace Ra := hide (Ra.out.below hb5 (Nat.le_refl _))
  replace Rb := hide (Rb.out.below hb5 (Nat.le_refl _))
  replace Rx := hide (Rx.out.below hb5 (Nat.le_refl _))
  replace Ry := hide (Ry.out.below hb5 (Nat.le_refl _))
  clear hb5
  rw [Fy.out]
  have ny : (((y.length : Int) != (l.length : Int)) : Bool) = false := by rw [Ly.out]; simp
  go_wp2_with fail
  refine (size32 _ l _ Rl.out (by omega)).mono ?_
  rintro e W6 ⟨rfl, hb6⟩
  have c6 := c5.trans (hb6.mono s5)
  have s6 := c6.size
  have t6 := hb6.size
  replace Rl := hide (Rl.out.below hb6 (Nat.le_refl _))
  replace Ra := hide (Ra.out.below hb6 (Nat.le_refl _))
  replace Rb := hide (Rb.out.below hb6 (Nat.le_refl _))
  replace Rx := hide (Rx.out.below hb6 (Nat.le_refl _))
  replace Ry := hide (Ry.out.below hb6 (Nat.le_refl _))
  clear hb6
  have qo : ((szO l == szO l) : Bool) = true := by simp
  have qn : ((szN l == szN l) : Bool) = true := by simp
  go_wp2_with fail
  refine (size32 _ x _ Rx.out (by omega)).mono ?_
  rintro e W7 ⟨rfl, hb7⟩
  have c7 := c6.trans (hb7.mono s6)
  have s7 := c7.size
  have t7 := hb7.size
  replace Rl := hide (Rl.out.below hb7 (Nat.le_refl _))
  replace Ra := hide (Ra.out.below hb7 (Nat.le_refl _))
  replace Rb := hide (Rb.out.below hb7 (Nat.le_refl _))
  replace Rx := hide (Rx.out.below hb7 (Nat.le_refl _))
  replace Ry := hide (Ry.out.below hb7 (Nat.le_refl _))
  clear hb7
  rw [Mx.out.same.sz.1, Mx.out.same.sz.2]
  go_wp2_with fail
  refine (size32 _ y _ Ry.out (by omega)).mono ?_
  rintro e W8 ⟨rfl, hb8⟩
  have c8 := c7.trans (hb8.mono s7)
  have s8 := c8.size
  have t8 := hb8.size
  replace Rl := hide (Rl.out.below hb8 (Nat.le_refl _))
  replace Ra := hide (Ra.out.below hb8 (Nat.le_refl _))
  replace Rb := hide (Rb.out.below hb8 (Nat.le_refl _))
  replace Rx := hide (Rx.out.below hb8 (Nat.le_refl _))
  replace Ry := hide (Ry.out.below hb8 (Nat.le_refl _))
  clear hb8
  rw [My.out.same.sz.1, My.out.same.sz.2]
  generalize szO l = P at *
  generalize szN l = Q at *
  go_wp2_with fail
  refine (SlRet.calls (down68 _ _ _ x a b _ Rx.out Ra.out Rb.out (by omega)) Fx.out).mono ?_
  rintro e W9 ⟨v, Av, cv_, rfl, hmv, hfv, hRv, hlv, hb9⟩
  have c9 := c8.trans (hb9.mono s8)
  have s9 := c9.size
  have t9 := hb9.size
  replace Rl := hide (Rl.out.below hb9 (Nat.le_refl _))
  replace Ra := hide (Ra.out.below hb9 (Nat.le_refl _))
  replace Rb := hide (Rb.out.below hb9 (Nat.le_refl _))
  replace Rx := hide (Rx.out.below hb9 (Nat.le_refl _))
  replace Ry := hide (Ry.out.below hb9 (Nat.le_refl _))
  clear hb9
  obtain ⟨hl9v, _, _⟩ := fits_len hfv
  have Mv := hide hmv
  have Fv := hide hfv
  have Lv := hide hlv
  have Rv := hide (hRv)
  clear hmv hfv hRv hlv
  have e_ := dn_again Mx.out Mv.out
  subst e_
  go_wp2_with fail
  refine (SlRet.calls (up70 _ _ _ y a b _ Ry.out Ra.out Rb.out (by omega)) Fy.out).mono ?_
  rintro e W10 ⟨u, Au, cu_, rfl, hmu, hfu, hRu, hlu, hb10⟩
  have c10 := c9.trans (hb10.mono s9)
  have s10 := c10.size
  have t10 := hb10.size
  replace Rl := hide (Rl.out.below hb10 (Nat.le_refl _))
  replace Ra := hide (Ra.out.below hb10 (Nat.le_refl _))
  replace Rb := hide (Rb.out.below hb10 (Nat.le_refl _))
  replace Rx := hide (Rx.out.below hb10 (Nat.le_refl _))
  replace Ry := hide (Ry.out.below hb10 (Nat.le_refl _))
  replace Rv := hide (Rv.out.below hb10 (Nat.le_refl _))
  clear hb10
  obtain ⟨hl9u, _, _⟩ := fits_len hfu
  have Mu := hide hmu
  have Fu := hide hfu
  have Lu := hide hlu
  have Ru := hide (hRu)
  clear hmu hfu hRu hlu
  have e_ := up_again My.out Mu.out
  subst e_
  go_wp2_with fail
  go_loopw [22] (fun k wr => ∃ K : Nat, K ≤ l.length ∧ k = .int .i64 K ∧ Below W10.heap.size W10 wr) (fun k _ => l.length - (intOf k).toNat)
  case atStart => exact ⟨0, by omega, rfl, Below.refl _ _⟩
  case round =>
    obtain ⟨K, hK, rfl, hbel⟩ := hrel
    have hbs := hbel.size
    by_cases hlt : K < l.length
    · have hlx : K < x.length := by have := Lx.out; omega
      have hly : K < y.length := by have := Ly.out; omega
      obtain ⟨bl, ol, rfl, hbl, hcl⟩ := Rl.out.at (by omega)
      obtain ⟨bx, ox, rfl, hbx, hcx⟩ := Rx.out.at (by omega)
      obtain ⟨by_, oy, rfl, hby, hcy⟩ := Ry.out.at (by omega)
      have zl : bl < wr.heap.size := by omega
      have zx : bx < wr.heap.size := by omega
      have zy : by_ < wr.heap.size := by omega
      obtain ⟨p0, p1, p2, p3⟩ := ch_cells hcl hbl hbel hlt
      obtain ⟨q0, q1, q2, q3⟩ := ch_cells hcx hbx hbel hlx
      obtain ⟨r0, r1, r2, r3⟩ := ch_cells hcy hby hbel hly
      obtain ⟨i, hi⟩ := Mx.out.same.2 K l[K] (List.getElem?_eq_getElem hlt)
      obtain ⟨j, hj⟩ := My.out.same.2 K l[K] (List.getElem?_eq_getElem hlt)
      rw [List.getElem?_eq_getElem hlx, Option.some.injEq] at hi
      rw [List.getElem?_eq_getElem hly, Option.some.injEq] at hj
      rw [hi] at q0 q1 q2 q3
      rw [hj] at r0 r1 r2 r3
      clear hi hj hcl hcx hcy
      generalize l[K] = C at *
      obtain ⟨O, OL, N, NL⟩ := C
      simp only [Chg.up] at p0 p1 p2 p3 q0 q1 q2 q3 r0 r1 r2 r3
      have t0 : decide (O + 1 * (i : Int) < O) = false := by simp; omega
      have t1 : decide (O < O + -1 * (j : Int)) = false := by simp; omega
      generalize O + 1 * (i : Int) = XO at *
      generalize O + -1 * (j : Int) = YO at *
      have t2 : ((OL != OL) : Bool) = false := by simp
      have t3 : ((NL != NL) : Bool) = false := by simp
      have i0 : (0 : Int) ≤ (K : Int) := by omega
      have i1 : (K : Int) < (l.length : Int) := by omega
      have i2 : (K : Int) < (x.length : Int) := by omega
      have i3 : (K : Int) < (y.length : Int) := by omega
      go_wp2_with fail
      go_quiet (fail)
      go_wp2_with fail
      go_roundw
      case rel => exact ⟨K + 1, by omega, by go_num, below_drewN hbel _⟩
      case measure => simp [intOf]; omega
    · have cr : Below w.heap.size w wr := c10.trans (hbel.mono s10)
      have sr := cr.size
      replace Rx := hide (Rx.out.below hbel (Nat.le_refl _))
      replace Rv := hide (Rv.out.below hbel (Nat.le_refl _))
      replace Ry := hide (Ry.out.below hbel (Nat.le_refl _))
      replace Ru := hide (Ru.out.below hbel (Nat.le_refl _))
      clear hbel
      go_wp2_with fail
      refine (same44 _ _ x _ Rv.out Rx.out (by omega)).mono ?_
      rintro e Wa ⟨rfl, hba⟩
      have ca := cr.trans (hba.mono sr)
      have sa := ca.size
      replace Ry := hide (Ry.out.below hba (Nat.le_refl _))
      replace Ru := hide (Ru.out.below hba (Nat.le_refl _))
      go_wp2_with fail
      refine (same44 _ _ y _ Ru.out Ry.out (by omega)).mono ?_
      rintro e Wb ⟨rfl, hbb⟩
      have cb := ca.trans (hbb.mono sa)
      go_wp2_with fail
      refine (awake67 _).mono ?_
      rintro e w' ⟨rfl, hb⟩
      go_wp2_with fail
      go_ret
      exact ⟨rfl, cb.trans (hb.mono cb.size)⟩
end Go.Proofs.Ytagembkjmnfidaa
