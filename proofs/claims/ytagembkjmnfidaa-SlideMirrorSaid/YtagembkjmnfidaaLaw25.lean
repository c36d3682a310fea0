import Derived.Test.YtagembkjmnfidaaSldQ
import Derived.Test.YtagembkjmnfidaaSldL
import Derived.Test.YtagembkjmnfidaaSame
import Derived.Test.YtagembkjmnfidaaSldN
namespace Go.Proofs.Ytagembkjmnfidaa
open Go.RowKit
open Go.Proofs.Ml
set_option linter.unusedVariables false

set_option maxRecDepth 100000 in
set_option maxHeartbeats 3200000 in
theorem walk25 (w : World) (v0 : Value) (z0 : List Int) (r0 : Rd w v0 1 z0.length (inVals z0)) (b0 : z0.length ≤ 9223372036854775807) (a1 : Bool) :
    Calls Try.prog 25 #[v0, .bool a1] w fun e w' => e = .returned (.bool true) ∧ Below w.heap.size w w' := by
  have H0 := hide r0
  clear r0
  go_enter Try.func25, Try.ntmps25
  go_wp2_with fail
  refine (pk64 _ z0 a1 _ H0.out b0).mono ?_
  rintro e W1 ⟨l, a, b, Al, cl, Aa, ca, Ab, cb, rfl, hf, hRl, hRa, hRb, hb1⟩
  have c1 := hb1
  have s1 := c1.size
  have t1 := hb1.size
  replace H0 := hide (H0.out.below hb1 (Nat.le_refl _))
  clear hb1
  obtain ⟨hl9, ha9, hb9⟩ := fits_len hf
  have F := hide hf
  have Rl := hide (hRl)
  have Ra := hide (hRa)
  have Rb := hide (hRb)
  clear hf hRl hRa hRb
  clear H0
  go_wp2_with fail
  refine (SlRet.calls (up70 _ _ _ l a b _ Rl.out Ra.out Rb.out (by omega)) F.out).mono ?_
  rintro e W2 ⟨x, Ax, cx_, rfl, hmx, hfx, hRx, hlx, hb2⟩
  have c2 := c1.trans (hb2.mono s1)
  have s2 := c2.size
  have t2 := hb2.size
  replace Rl := hide (Rl.out.below hb2 (Nat.le_refl _))
  replace Ra := hide (Ra.out.below hb2 (Nat.le_refl _))
  replace Rb := hide (Rb.out.below hb2 (Nat.le_refl _))
  clear hb2
  obtain ⟨hl9x, _, _⟩ := fits_len hfx
  have Mx := hide hmx
  have Fx := hide hfx
  have Lx := hide hlx
  have Rx := hide (hRx)
  clear hmx hfx hRx hlx
  go_wp2_with fail
  refine (turned72 _ l a.length b.length _ Rl.out (fits_iff.1 F.out).1).mono ?_
  rintro e W3 ⟨vt, rfl, hot, hb3⟩
  have c3 := c2.trans (hb3.mono s2)
  have s3 := c3.size
  have t3 := hb3.size
  replace Rl := hide (Rl.out.below hb3 (Nat.le_refl _))
  replace Ra := hide (Ra.out.below hb3 (Nat.le_refl _))
  replace Rb := hide (Rb.out.below hb3 (Nat.le_refl _))
  replace Rx := hide (Rx.out.below hb3 (Nat.le_refl _))
  clear hb3
  have Rt := hide (Rd.of_own hot)
  clear hot
  go_wp2_with fail
  refine (back73 _ a _ Ra.out (by omega)).mono ?_
  rintro e W4 ⟨vp, rfl, hop, hb4⟩
  have c4 := c3.trans (hb4.mono s3)
  have s4 := c4.size
  have t4 := hb4.size
  replace Rl := hide (Rl.out.below hb4 (Nat.le_refl _))
  replace Ra := hide (Ra.out.below hb4 (Nat.le_refl _))
  replace Rb := hide (Rb.out.below hb4 (Nat.le_refl _))
  replace Rx := hide (Rx.out.below hb4 (Nat.le_refl _))
  replace Rt := hide (Rt.out.below hb4 (Nat.le_refl _))
  clear hb4
  have Rp := hide (show Rd W4 vp 1 a.reverse.length (inVals a.reverse) by rw [List.length_reverse]; exact Rd.of_own hop)
  clear hop
  go_wp2_with fail
  refine (back73 _ b _ Rb.out (by omega)).mono ?_
  rintro e W5 ⟨vq, rfl, hoq, hb5⟩
  have c5 := c4.trans (hb5.mono s4)
  have s5 := c5.size
  have t5 := hb5.size
  replace Rl := hide (Rl.out.below hb5 (Nat.le_refl _))
  replace Ra := hide (Ra.out.below hb5 (Nat.le_refl _))
  replace Rb := hide (Rb.out.below hb5 (Nat.le_refl _))
  replace Rx := hide (Rx.out.below hb5 (Nat.le_refl _))
  replace Rt := hide (Rt.out.below hb5 (Nat.le_refl _))
  replace Rp := hide (Rp.out.below hb5 (Nat.le_refl _))
  clear hb5
  have Rq := hide (show Rd W5 vq 1 b.reverse.length (inVals b.reverse) by rw [List.length_reverse]; exact Rd.of_own hoq)
  clear hoq
  have FT := hide (fits_turn F.out)
  have hl9t := (fits_len FT.out).1
  go_wp2_with fail
  refine (SlRet.calls (down68 _ _ _ (turn a.length b.length l) a.reverse b.reverse _ Rt.out Rp.out Rq.out (by omega)) FT.out).mono ?_
  rintro e W6 ⟨y, Ay, cy_, rfl, hmy, hfy, hRy, hly, hb6⟩
  have c6 := c5.trans (hb6.mono s5)
  have s6 := c6.size
  have t6 := hb6.size
  replace Rl := hide (Rl.out.below hb6 (Nat.le_refl _))
  replace Ra := hide (Ra.out.below hb6 (Nat.le_refl _))
  replace Rb := hide (Rb.out.below hb6 (Nat.le_refl _))
  replace Rx := hide (Rx.out.below hb6 (Nat.le_refl _))
  replace Rt := hide (Rt.out.below hb6 (Nat.le_refl _))
  replace Rp := hide (Rp.out.below hb6 (Nat.le_refl _))
  replace Rq := hide (Rq.out.below hb6 (Nat.le_refl _))
  clear hb6
  obtain ⟨hl9y, _, _⟩ := fits_len hfy
  have My := hide hmy
  have Fy := hide hfy
  have Ly := hide hly
  have Ry := hide (hRy)
  clear hmy hfy hRy hly
  have e_ := mi_det F.out Mx.out My.out
  subst e_
  have VY := hide (show valid (turn a.length b.length x) a.length b.length = true by have h := (fits_iff.1 Fy.out).1; rwa [List.length_reverse, List.length_reverse] at h)
  go_wp2_with fail
  refine (turned72 _ (turn a.length b.length x) a.length b.length _ Ry.out VY.out).mono ?_
  rintro e W7 ⟨vz, rfl, hoz, hb7⟩
  have c7 := c6.trans (hb7.mono s6)
  have s7 := c7.size
  have t7 := hb7.size
  replace Rl := hide (Rl.out.below hb7 (Nat.le_refl _))
  replace Ra := hide (Ra.out.below hb7 (Nat.le_refl _))
  replace Rb := hide (Rb.out.below hb7 (Nat.le_refl _))
  replace Rx := hide (Rx.out.below hb7 (Nat.le_refl _))
  replace Rt := hide (Rt.out.below hb7 (Nat.le_refl _))
  replace Rp := hide (Rp.out.below hb7 (Nat.le_refl _))
  replace Rq := hide (Rq.out.below hb7 (Nat.le_refl _))
  replace Ry := hide (Ry.out.below hb7 (Nat.le_refl _))
  clear hb7
  have Rz := hide (Rd.of_own hoz)
  clear hoz
  rw [turn_turn] at Rz
  go_wp2_with fail
  refine (same44 _ _ x _ Rx.out Rz.out (by omega)).mono ?_
  rintro e W8 ⟨rfl, hb8⟩
  have c8 := c7.trans (hb8.mono s7)
  have s8 := c8.size
  have t8 := hb8.size
  replace Rl := hide (Rl.out.below hb8 (Nat.le_refl _))
  replace Ra := hide (Ra.out.below hb8 (Nat.le_refl _))
  replace Rb := hide (Rb.out.below hb8 (Nat.le_refl _))
  replace Rx := hide (Rx.out.below hb8 (Nat.le_refl _))
  replace Rt := hide (Rt.out.below hb8 (Nat.le_refl _))
  replace Rp := hide (Rp.out.below hb8 (Nat.le_refl _))
  replace Rq := hide (Rq.out.below hb8 (Nat.le_refl _))
  replace Ry := hide (Ry.out.below hb8 (Nat.le_refl _))
  replace Rz := hide (Rz.out.below hb8 (Nat.le_refl _))
  clear hb8
  go_wp2_with fail
  refine (awake67 _).mono ?_
  rintro e W9 ⟨rfl, hb9⟩
  have c9 := c8.trans (hb9.mono s8)
  have s9 := c9.size
  have t9 := hb9.size
  clear hb9
  go_wp2_with fail
  go_ret
  exact ⟨rfl, c9⟩
end Go.Proofs.Ytagembkjmnfidaa
