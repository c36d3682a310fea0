import Derived.Test.YtagembkjmnfidaaAwkS
import Derived.Test.YtagembkjmnfidaaPrs
import Derived.Test.YtagembkjmnfidaaFrmC
import Derived.Test.YtagembkjmnfidaaFrmD
import Derived.Test.YtagembkjmnfidaaGen2
import Derived.Test.YtagembkjmnfidaaBaseK
import Derived.RegionTactic
import Derived.ChangeAlike
import Derived.BigRegion
import Derived.Deep.RegionWith
import Derived.IntWalk
namespace Go.Proofs.Ytagembkjmnfidaa
open Go.RowKit
open Go.Proofs.Ml
set_option linter.unusedVariables false

set_option maxRecDepth 100000 in
set_option maxHeartbeats 3200000 in
theorem walk9f (w : World) (v0 : Value) (z0 : List Int) (r0 : Rd w v0 1 z0.length (inVals z0)) (b0 : z0.length ≤ 9223372036854775807) (v1 : Value) (p : List Spn) (r1 : Rd w v1 2 p.length (spVals p)) (b1 : p.length ≤ 9223372036854775807) (m : Int) (b2 : -9223372036854775808 ≤ m ∧ m ≤ 9223372036854775807) (n : Int) (b3 : -9223372036854775808 ≤ n ∧ n ≤ 9223372036854775807) :
    Calls Try.prog 9 #[v0, v1, .int .i64 m, .int .i64 n, .bool false] w fun e w' => e = .returned (.bool true) ∧ Below w.heap.size w w' := by
  have H0 := hide r0
  have H1 := hide r1
  have J1 := hide r1
  clear r0
  obtain ⟨A1, cap1, rfl, _, _, _, _⟩ := r1
  by_cases hx : 10 < p.length
  · go_enter Try.func9, Try.ntmps9
    go_wp2_with fail
    refine (awake35 _).mono ?_
    rintro e w' ⟨rfl, hb⟩
    go_wp2_with fail
    go_ret
    exact ⟨rfl, hb⟩
  have hp10 : p.length ≤ 10 := by omega
  clear hx b1
  go_enter Try.func9, Try.ntmps9
  go_wp2_with fail
  refine (script27 _ z0 0 _ H0.out b0 (by omega) (by omega)).mono ?_
  rintro e W1 ⟨vx, x, mx, nx, rfl, hvalx, hmx, hnx, hlx, hox, hb1⟩
  have c1 := hb1
  have s1 := c1.size
  have t1 := hb1.size
  replace H0 := hide (H0.out.below hb1 (Nat.le_refl _))
  replace H1 := hide (H1.out.below hb1 (Nat.le_refl _))
  clear hb1
  obtain ⟨Ax, cpx, rfl, hgx⟩ := own_open hox
  have Gx := hide (show 0 < x.length → ∃ g, Ax = some ⟨g, 0, none⟩ ∧ g < W1.heap.size from fun h => by obtain ⟨g, e, _, h2⟩ := hgx h; exact ⟨g, e, h2⟩)
  clear hgx
  have Rx := hide (Rd.of_own hox)
  have Vx := hide hvalx
  have hv_ := valid_iff.1 hvalx
  obtain ⟨m0x, m1x⟩ := hv_.1
  obtain ⟨n0x, n1x⟩ := hv_.2.1
  clear hvalx hox hv_
  go_wp2_with fail
  refine (prs39 _ x mx nx _ Rx.out (by omega)).mono ?_
  rintro e W2 ⟨vu, rfl, hou, hb2⟩
  have c2 := c1.trans (hb2.mono s1)
  have s2 := c2.size
  have t2 := hb2.size
  replace H1 := hide (H1.out.below hb2 (Nat.le_refl _))
  replace Rx := hide (Rx.out.below hb2 (Nat.le_refl _))
  clear hb2
  have hul := prRes_len x mx nx
  obtain ⟨P1, hP1⟩ : ∃ P1, P1 = prRes x mx nx := ⟨_, rfl⟩
  rw [← hP1] at hou hul
  have HP1 := hide hP1
  clear hP1
  obtain ⟨Au, cpu, rfl, hgu⟩ := own_open hou
  have Gu := hide (show 0 < P1.length → ∃ g, Au = some ⟨g, 0, none⟩ ∧ g < W2.heap.size from fun h => by obtain ⟨g, e, _, h2⟩ := hgu h; exact ⟨g, e, h2⟩)
  clear hgu
  have Ru := hide (Rd.of_own hou)
  clear hou
  go_wp2_with fail
  refine (prs40 _ x mx nx _ Rx.out (by omega)).mono ?_
  rintro e W3 ⟨vy, rfl, hoy, hb3⟩
  have c3 := c2.trans (hb3.mono s2)
  have s3 := c3.size
  have t3 := hb3.size
  replace H1 := hide (H1.out.below hb3 (Nat.le_refl _))
  replace Rx := hide (Rx.out.below hb3 (Nat.le_refl _))
  replace Ru := hide (Ru.out.below hb3 (Nat.le_refl _))
  clear hb3
  rw [← HP1.out] at hoy
  obtain ⟨Ay, cpy, rfl, hgy⟩ := own_open hoy
  have Gy := hide (show 0 < P1.length → ∃ g, Ay = some ⟨g, 0, none⟩ ∧ g < W3.heap.size from fun h => by obtain ⟨g, e, _, h2⟩ := hgy h; exact ⟨g, e, h2⟩)
  clear hgy
  have Ry := hide (Rd.of_own hoy)
  clear hoy
  generalize errOf (valid x mx nx) = E1 at *
  go_wp2_with (at_builtin; go_must (refine wp_appR rfl (.tmp 50) (.tmp 51) 50 35 2 16 _ rfl Try.underlying50 info35 rfl (by omega) (by omega) _ W3.heap.size 0 _ [] rfl (World.ownsRow_made W3 #[] 0 (Nat.le_refl _) (by simp) rfl) A1 p.length cap1 (spVals p) rfl (H1.out.below ((Below.refl _ _).alloc (Nat.le_refl _) _) (Nat.le_refl _)) (spVals_one p) (by omega) (by simp) ?_); intro vq W4 hoq hb4' hs4'; rw [Nat.zero_add, List.nil_append] at hoq; obtain ⟨Aq, cq, rfl, hgq⟩ := own_open hoq)
  have hb4 : Below W3.heap.size W3 W4 := ((Below.refl _ _).alloc (Nat.le_refl _) _).trans hb4'
  clear hb4' hs4'
  have c4 := c3.trans (hb4.mono s3)
  have s4 := c4.size
  have t4 := hb4.size
  replace H1 := hide (H1.out.below hb4 (Nat.le_refl _))
  replace Rx := hide (Rx.out.below hb4 (Nat.le_refl _))
  replace Ru := hide (Ru.out.below hb4 (Nat.le_refl _))
  replace Ry := hide (Ry.out.below hb4 (Nat.le_refl _))
  clear hb4
  have RQ := hide (Rd.of_own hoq)
  clear hoq hgq
  go_wp2_with fail
  go_loop [19] (fun k => k = .int .i64 0) (fun _ => 0)
  case atStart => rfl
  case round =>
    obtain rfl := hrel
    clear b2 b3
    rcases Nat.eq_zero_or_pos p.length with hp0 | hp0
    · have hp1 : ¬ (0 : Int) < (p.length : Int) := by omega
      clear hp0
      go_wp2_with fail
      refine (from41 _ p m n _ RQ.out (by omega)).mono ?_
      rintro e W5 ⟨va, rfl, hoa, hb5⟩
      have c5 := c4.trans (hb5.mono s4)
      have s5 := c5.size
      have t5 := hb5.size
      replace Rx := hide (Rx.out.below hb5 (Nat.le_refl _))
      replace Ru := hide (Ru.out.below hb5 (Nat.le_refl _))
      replace Ry := hide (Ry.out.below hb5 (Nat.le_refl _))
      replace RQ := hide (RQ.out.below hb5 (Nat.le_refl _))
      clear hb5
      have Ra := hide (Rd.of_own hoa)
      clear hoa
      go_wp2_with fail
      refine (from42 _ p m n _ RQ.out (by omega)).mono ?_
      rintro e W6 ⟨vb, rfl, hob, hb6⟩
      have c6 := c5.trans (hb6.mono s5)
      have s6 := c6.size
      have t6 := hb6.size
      replace Rx := hide (Rx.out.below hb6 (Nat.le_refl _))
      replace Ru := hide (Ru.out.below hb6 (Nat.le_refl _))
      replace Ry := hide (Ry.out.below hb6 (Nat.le_refl _))
      replace RQ := hide (RQ.out.below hb6 (Nat.le_refl _))
      replace Ra := hide (Ra.out.below hb6 (Nat.le_refl _))
      clear hb6
      have Rb := hide (Rd.of_own hob)
      clear hob
      have hfl := fpRes_len p m n
      generalize fpErr p m n = E2 at *
      generalize fpRes p m n = F1 at *
      go_wp2_with fail
      refine (prs39 _ x mx (nx + 1) _ Rx.out (by omega)).mono ?_
      rintro e W7 ⟨vh, rfl, hoh, hb7⟩
      have c7 := c6.trans (hb7.mono s6)
      have s7 := c7.size
      have t7 := hb7.size
      replace Rx := hide (Rx.out.below hb7 (Nat.le_refl _))
      replace Ru := hide (Ru.out.below hb7 (Nat.le_refl _))
      replace Ry := hide (Ry.out.below hb7 (Nat.le_refl _))
      replace Ra := hide (Ra.out.below hb7 (Nat.le_refl _))
      replace Rb := hide (Rb.out.below hb7 (Nat.le_refl _))
      clear hb7
      rw [valid_more Vx.out]
      simp only [errOf, Bool.false_eq_true, if_false]
      clear hoh
      go_wp2_with fail
      refine (same43 _ _ P1 _ Ru.out Ry.out (by omega)).mono ?_
      rintro e W8 ⟨rfl, hb8⟩
      have c8 := c7.trans (hb8.mono s7)
      have s8 := c8.size
      have t8 := hb8.size
      replace Rx := hide (Rx.out.below hb8 (Nat.le_refl _))
      replace Ru := hide (Ru.out.below hb8 (Nat.le_refl _))
      replace Ry := hide (Ry.out.below hb8 (Nat.le_refl _))
      replace Ra := hide (Ra.out.below hb8 (Nat.le_refl _))
      replace Rb := hide (Rb.out.below hb8 (Nat.le_refl _))
      clear hb8
      go_wp2_with fail
      refine (same44 _ _ F1 _ Ra.out Rb.out (by omega)).mono ?_
      rintro e W9 ⟨rfl, hb9⟩
      have c9 := c8.trans (hb9.mono s8)
      have s9 := c9.size
      have t9 := hb9.size
      replace Rx := hide (Rx.out.below hb9 (Nat.le_refl _))
      replace Ru := hide (Ru.out.below hb9 (Nat.le_refl _))
      replace Ry := hide (Ry.out.below hb9 (Nat.le_refl _))
      replace Ra := hide (Ra.out.below hb9 (Nat.le_refl _))
      replace Rb := hide (Rb.out.below hb9 (Nat.le_refl _))
      clear hb9
      go_wp2_with fail
      refine (awake35 _).mono ?_
      rintro e W10 ⟨rfl, hb10⟩
      have c10 := c9.trans (hb10.mono s9)
      have s10 := c10.size
      have t10 := hb10.size
      clear hb10
      go_wp2_with fail
      go_ret
      exact ⟨rfl, c10⟩
    · have hp1 : (0 : Int) < (p.length : Int) := by omega
      clear hp0
      go_wp2_with fail
      refine (from41 _ p m n _ RQ.out (by omega)).mono ?_
      rintro e W5 ⟨va, rfl, hoa, hb5⟩
      have c5 := c4.trans (hb5.mono s4)
      have s5 := c5.size
      have t5 := hb5.size
      replace Rx := hide (Rx.out.below hb5 (Nat.le_refl _))
      replace Ru := hide (Ru.out.below hb5 (Nat.le_refl _))
      replace Ry := hide (Ry.out.below hb5 (Nat.le_refl _))
      replace RQ := hide (RQ.out.below hb5 (Nat.le_refl _))
      clear hb5
      have Ra := hide (Rd.of_own hoa)
      clear hoa
      go_wp2_with fail
      refine (from42 _ p m n _ RQ.out (by omega)).mono ?_
      rintro e W6 ⟨vb, rfl, hob, hb6⟩
      have c6 := c5.trans (hb6.mono s5)
      have s6 := c6.size
      have t6 := hb6.size
      replace Rx := hide (Rx.out.below hb6 (Nat.le_refl _))
      replace Ru := hide (Ru.out.below hb6 (Nat.le_refl _))
      replace Ry := hide (Ry.out.below hb6 (Nat.le_refl _))
      replace RQ := hide (RQ.out.below hb6 (Nat.le_refl _))
      replace Ra := hide (Ra.out.below hb6 (Nat.le_refl _))
      clear hb6
      have Rb := hide (Rd.of_own hob)
      clear hob
      have hfl := fpRes_len p m n
      generalize fpErr p m n = E2 at *
      generalize fpRes p m n = F1 at *
      go_wp2_with fail
      refine (prs39 _ x mx (nx + 1) _ Rx.out (by omega)).mono ?_
      rintro e W7 ⟨vh, rfl, hoh, hb7⟩
      have c7 := c6.trans (hb7.mono s6)
      have s7 := c7.size
      have t7 := hb7.size
      replace Rx := hide (Rx.out.below hb7 (Nat.le_refl _))
      replace Ru := hide (Ru.out.below hb7 (Nat.le_refl _))
      replace Ry := hide (Ry.out.below hb7 (Nat.le_refl _))
      replace Ra := hide (Ra.out.below hb7 (Nat.le_refl _))
      replace Rb := hide (Rb.out.below hb7 (Nat.le_refl _))
      clear hb7
      rw [valid_more Vx.out]
      simp only [errOf, Bool.false_eq_true, if_false]
      clear hoh
      go_wp2_with fail
      refine (same43 _ _ P1 _ Ru.out Ry.out (by omega)).mono ?_
      rintro e W8 ⟨rfl, hb8⟩
      have c8 := c7.trans (hb8.mono s7)
      have s8 := c8.size
      have t8 := hb8.size
      replace Rx := hide (Rx.out.below hb8 (Nat.le_refl _))
      replace Ru := hide (Ru.out.below hb8 (Nat.le_refl _))
      replace Ry := hide (Ry.out.below hb8 (Nat.le_refl _))
      replace Ra := hide (Ra.out.below hb8 (Nat.le_refl _))
      replace Rb := hide (Rb.out.below hb8 (Nat.le_refl _))
      clear hb8
      go_wp2_with fail
      refine (same44 _ _ F1 _ Ra.out Rb.out (by omega)).mono ?_
      rintro e W9 ⟨rfl, hb9⟩
      have c9 := c8.trans (hb9.mono s8)
      have s9 := c9.size
      have t9 := hb9.size
      replace Rx := hide (Rx.out.below hb9 (Nat.le_refl _))
      replace Ru := hide (Ru.out.below hb9 (Nat.le_refl _))
      replace Ry := hide (Ry.out.below hb9 (Nat.le_refl _))
      replace Ra := hide (Ra.out.below hb9 (Nat.le_refl _))
      replace Rb := hide (Rb.out.below hb9 (Nat.le_refl _))
      clear hb9
      go_wp2_with fail
      refine (awake35 _).mono ?_
      rintro e W10 ⟨rfl, hb10⟩
      have c10 := c9.trans (hb10.mono s9)
      have s10 := c10.size
      have t10 := hb10.size
      clear hb10
      go_wp2_with fail
      go_ret
      exact ⟨rfl, c10⟩
set_option maxRecDepth 100000 in
set_option maxHeartbeats 3200000 in
theorem walk9t (w : World) (v0 : Value) (z0 : List Int) (r0 : Rd w v0 1 z0.length (inVals z0)) (b0 : z0.length ≤ 9223372036854775807) (v1 : Value) (p : List Spn) (r1 : Rd w v1 2 p.length (spVals p)) (b1 : p.length ≤ 9223372036854775807) (m : Int) (b2 : -9223372036854775808 ≤ m ∧ m ≤ 9223372036854775807) (n : Int) (b3 : -9223372036854775808 ≤ n ∧ n ≤ 9223372036854775807) :
    Calls Try.prog 9 #[v0, v1, .int .i64 m, .int .i64 n, .bool true] w fun e w' => e = .returned (.bool true) ∧ Below w.heap.size w w' := by
  have H0 := hide r0
  have H1 := hide r1
  have J1 := hide r1
  clear r0
  obtain ⟨A1, cap1, rfl, _, _, _, _⟩ := r1
  by_cases hx : 10 < p.length
  · go_enter Try.func9, Try.ntmps9
    go_wp2_with fail
    refine (awake35 _).mono ?_
    rintro e w' ⟨rfl, hb⟩
    go_wp2_with fail
    go_ret
    exact ⟨rfl, hb⟩
  have hp10 : p.length ≤ 10 := by omega
  clear hx b1
  go_enter Try.func9, Try.ntmps9
  go_wp2_with fail
  refine (script27 _ z0 0 _ H0.out b0 (by omega) (by omega)).mono ?_
  rintro e W1 ⟨vx, x, mx, nx, rfl, hvalx, hmx, hnx, hlx, hox, hb1⟩
  have c1 := hb1
  have s1 := c1.size
  have t1 := hb1.size
  replace H0 := hide (H0.out.below hb1 (Nat.le_refl _))
  replace H1 := hide (H1.out.below hb1 (Nat.le_refl _))
  clear hb1
  obtain ⟨Ax, cpx, rfl, hgx⟩ := own_open hox
  have Gx := hide (show 0 < x.length → ∃ g, Ax = some ⟨g, 0, none⟩ ∧ g < W1.heap.size from fun h => by obtain ⟨g, e, _, h2⟩ := hgx h; exact ⟨g, e, h2⟩)
  clear hgx
  have Rx := hide (Rd.of_own hox)
  have Vx := hide hvalx
  have hv_ := valid_iff.1 hvalx
  obtain ⟨m0x, m1x⟩ := hv_.1
  obtain ⟨n0x, n1x⟩ := hv_.2.1
  clear hvalx hox hv_
  go_wp2_with fail
  refine (prs39 _ x mx nx _ Rx.out (by omega)).mono ?_
  rintro e W2 ⟨vu, rfl, hou, hb2⟩
  have c2 := c1.trans (hb2.mono s1)
  have s2 := c2.size
  have t2 := hb2.size
  replace H1 := hide (H1.out.below hb2 (Nat.le_refl _))
  replace Rx := hide (Rx.out.below hb2 (Nat.le_refl _))
  clear hb2
  have hul := prRes_len x mx nx
  obtain ⟨P1, hP1⟩ : ∃ P1, P1 = prRes x mx nx := ⟨_, rfl⟩
  rw [← hP1] at hou hul
  have HP1 := hide hP1
  clear hP1
  obtain ⟨Au, cpu, rfl, hgu⟩ := own_open hou
  have Gu := hide (show 0 < P1.length → ∃ g, Au = some ⟨g, 0, none⟩ ∧ g < W2.heap.size from fun h => by obtain ⟨g, e, _, h2⟩ := hgu h; exact ⟨g, e, h2⟩)
  clear hgu
  have Ru := hide (Rd.of_own hou)
  clear hou
  go_wp2_with fail
  refine (prs40 _ x mx nx _ Rx.out (by omega)).mono ?_
  rintro e W3 ⟨vy, rfl, hoy, hb3⟩
  have c3 := c2.trans (hb3.mono s2)
  have s3 := c3.size
  have t3 := hb3.size
  replace H1 := hide (H1.out.below hb3 (Nat.le_refl _))
  replace Rx := hide (Rx.out.below hb3 (Nat.le_refl _))
  replace Ru := hide (Ru.out.below hb3 (Nat.le_refl _))
  clear hb3
  rw [← HP1.out] at hoy
  obtain ⟨Ay, cpy, rfl, hgy⟩ := own_open hoy
  have Gy := hide (show 0 < P1.length → ∃ g, Ay = some ⟨g, 0, none⟩ ∧ g < W3.heap.size from fun h => by obtain ⟨g, e, _, h2⟩ := hgy h; exact ⟨g, e, h2⟩)
  clear hgy
  have Ry := hide (Rd.of_own hoy)
  clear hoy
  generalize errOf (valid x mx nx) = E1 at *
  go_wp2_with (at_builtin; go_must (refine wp_appR rfl (.tmp 50) (.tmp 51) 50 35 2 16 _ rfl Try.underlying50 info35 rfl (by omega) (by omega) _ W3.heap.size 0 _ [] rfl (World.ownsRow_made W3 #[] 0 (Nat.le_refl _) (by simp) rfl) A1 p.length cap1 (spVals p) rfl (H1.out.below ((Below.refl _ _).alloc (Nat.le_refl _) _) (Nat.le_refl _)) (spVals_one p) (by omega) (by simp) ?_); intro vq W4 hoq hb4' hs4'; rw [Nat.zero_add, List.nil_append] at hoq; obtain ⟨Aq, cq, rfl, hgq⟩ := own_open hoq)
  have hb4 : Below W3.heap.size W3 W4 := ((Below.refl _ _).alloc (Nat.le_refl _) _).trans hb4'
  clear hb4' hs4'
  have c4 := c3.trans (hb4.mono s3)
  have s4 := c4.size
  have t4 := hb4.size
  replace H1 := hide (H1.out.below hb4 (Nat.le_refl _))
  replace Rx := hide (Rx.out.below hb4 (Nat.le_refl _))
  replace Ru := hide (Ru.out.below hb4 (Nat.le_refl _))
  replace Ry := hide (Ry.out.below hb4 (Nat.le_refl _))
  clear hb4
  have hl4 := hoq.lt
  have HB1 := hide (fun k hk => (hl4 k hk).1)
  clear hl4
  go_wp2_with fail
  go_loopw [19] (fun k wr => ∃ (K : Nat) (Q : List Spn), K ≤ p.length ∧ k = .int .i64 K ∧ Q.length = p.length ∧ wr.ownsRow W3.heap.size 35 2 (.slice Aq p.length cq) p.length (spVals Q) ∧ W4.grownBy wr (Value.slice Aq p.length cq).ownBlock)
    (fun k _ => p.length - (intOf k).toNat)
  case atStart => exact ⟨0, p, by omega, rfl, rfl, hoq, only_refl _ _⟩
  case round =>
    obtain ⟨K, Q, hK, rfl, hQl, hown, hon⟩ := hrel
    have hos := hon.size
    have cr : Below w.heap.size w wr := c4.grown hon s4 (fun k hk => Nat.le_trans s3 (HB1.out k hk))
    have sr := cr.size
    by_cases hlt : K < p.length
    · obtain ⟨g, rfl, hg0, hg1⟩ := hgq (by omega)
      obtain ⟨b, off, rfl, hb, hc⟩ := J1.out.at (by omega)
      have hbw : b < wr.heap.size := by omega
      obtain ⟨a0, a1⟩ := sp_cells hc hb cr hlt
      have hQK : K < Q.length := by omega
      obtain ⟨q0, q1⟩ : wr.cell? ⟨g, K * 2, none⟩ = some (.int .i64 Q[K].f) ∧ wr.cell? ⟨g, K * 2 + 1, none⟩ = some (.int .i64 Q[K].t) := by
        have hh := sp_cells (off := 0) (fun j u hu => by have := hown.cells (g := g) rfl j u hu; rwa [add_head, ← Nat.zero_add j] at this) (show g < wr.heap.size by omega) (Below.refl _ _) hQK
        rwa [Nat.zero_add] at hh
      have f0 := hown.frozenAt (K * 2)
      have f1 := hown.frozenAt (K * 2 + 1)
      have HO := hide (fun c => own_sp_set hown K c hQK)
      have HON := hide (show W4.grownBy wr (some g) from hon)
      have HQL := hide hQl
      clear hc hown hon hQl
      generalize p[K] = C at *
      obtain ⟨F, T⟩ := C
      simp only at a0 a1
      generalize Q[K] = D at *
      have i0 : (0 : Int) ≤ (K : Int) := by omega
      have i1 : (K : Int) < (p.length : Int) := by omega
      go_wp2_with fail
      go_region_with ((go_at_call 29; refine (mod29 _ 3 _ (by omega) (by omega)).mono ?_; rintro e w' ⟨rfl, rfl⟩))
      all_goals
        go_wp2_with fail
        go_roundw
        case rel => exact ⟨K + 1, Q.set K ⟨_, _⟩, by omega, by go_num, by rw [List.length_set]; exact HQL.out, HO.out ⟨_, _⟩, only_drew (only_setCell (p := ⟨g, K * 2 + 1, none⟩) (only_setCell (p := ⟨g, K * 2, none⟩) HON.out rfl _) rfl _)⟩
        case measure => simp [intOf]; omega
    · have RQ := hide (show Rd wr (.slice Aq p.length cq) 2 Q.length (spVals Q) by rw [hQl]; exact Rd.of_own hown)
      have hQ10 : Q.length ≤ 10 := by omega
      replace Rx := hide (Rx.out.keep hon (ne_before (fun h => by obtain ⟨g, e, h2⟩ := Gx.out h; exact ⟨g, e, by omega⟩) HB1.out))
      replace Ru := hide (Ru.out.keep hon (ne_before (fun h => by obtain ⟨g, e, h2⟩ := Gu.out h; exact ⟨g, e, by omega⟩) HB1.out))
      replace Ry := hide (Ry.out.keep hon (ne_before (fun h => by obtain ⟨g, e, h2⟩ := Gy.out h; exact ⟨g, e, by omega⟩) HB1.out))
      have c5 := cr
      have s5 := sr
      clear hown hon hgq hoq hQl H1
      go_wp2_with fail
      refine (mod29 m 30 _ (by omega) (by omega)).mono ?_
      rintro e w' ⟨rfl, rfl⟩
      go_wp2_with fail
      refine (mod29 n 30 _ (by omega) (by omega)).mono ?_
      rintro e w' ⟨rfl, rfl⟩
      clear b2 b3
      generalize gmod m 30 = m2 at *
      generalize gmod n 30 = n2 at *
      go_wp2_with fail
      refine (from41 _ Q m2 n2 _ RQ.out (by omega)).mono ?_
      rintro e W6 ⟨va, rfl, hoa, hb6⟩
      have c6 := c5.trans (hb6.mono s5)
      have s6 := c6.size
      have t6 := hb6.size
      replace Rx := hide (Rx.out.below hb6 (Nat.le_refl _))
      replace Ru := hide (Ru.out.below hb6 (Nat.le_refl _))
      replace Ry := hide (Ry.out.below hb6 (Nat.le_refl _))
      replace RQ := hide (RQ.out.below hb6 (Nat.le_refl _))
      clear hb6
      have Ra := hide (Rd.of_own hoa)
      clear hoa
      go_wp2_with fail
      refine (from42 _ Q m2 n2 _ RQ.out (by omega)).mono ?_
      rintro e W7 ⟨vb, rfl, hob, hb7⟩
      have c7 := c6.trans (hb7.mono s6)
      have s7 := c7.size
      have t7 := hb7.size
      replace Rx := hide (Rx.out.below hb7 (Nat.le_refl _))
      replace Ru := hide (Ru.out.below hb7 (Nat.le_refl _))
      replace Ry := hide (Ry.out.below hb7 (Nat.le_refl _))
      replace RQ := hide (RQ.out.below hb7 (Nat.le_refl _))
      replace Ra := hide (Ra.out.below hb7 (Nat.le_refl _))
      clear hb7
      have Rb := hide (Rd.of_own hob)
      clear hob
      have hfl := fpRes_len Q m2 n2
      generalize fpErr Q m2 n2 = E2 at *
      generalize fpRes Q m2 n2 = F1 at *
      go_wp2_with fail
      refine (prs39 _ x mx (nx + 1) _ Rx.out (by omega)).mono ?_
      rintro e W8 ⟨vh, rfl, hoh, hb8⟩
      have c8 := c7.trans (hb8.mono s7)
      have s8 := c8.size
      have t8 := hb8.size
      replace Rx := hide (Rx.out.below hb8 (Nat.le_refl _))
      replace Ru := hide (Ru.out.below hb8 (Nat.le_refl _))
      replace Ry := hide (Ry.out.below hb8 (Nat.le_refl _))
      replace Ra := hide (Ra.out.below hb8 (Nat.le_refl _))
      replace Rb := hide (Rb.out.below hb8 (Nat.le_refl _))
      clear hb8
      rw [valid_more Vx.out]
      simp only [errOf, Bool.false_eq_true, if_false]
      clear hoh
      go_wp2_with fail
      refine (same43 _ _ P1 _ Ru.out Ry.out (by omega)).mono ?_
      rintro e W9 ⟨rfl, hb9⟩
      have c9 := c8.trans (hb9.mono s8)
      have s9 := c9.size
      have t9 := hb9.size
      replace Rx := hide (Rx.out.below hb9 (Nat.le_refl _))
      replace Ru := hide (Ru.out.below hb9 (Nat.le_refl _))
      replace Ry := hide (Ry.out.below hb9 (Nat.le_refl _))
      replace Ra := hide (Ra.out.below hb9 (Nat.le_refl _))
      replace Rb := hide (Rb.out.below hb9 (Nat.le_refl _))
      clear hb9
      go_wp2_with fail
      refine (same44 _ _ F1 _ Ra.out Rb.out (by omega)).mono ?_
      rintro e W10 ⟨rfl, hb10⟩
      have c10 := c9.trans (hb10.mono s9)
      have s10 := c10.size
      have t10 := hb10.size
      replace Rx := hide (Rx.out.below hb10 (Nat.le_refl _))
      replace Ru := hide (Ru.out.below hb10 (Nat.le_refl _))
      replace Ry := hide (Ry.out.below hb10 (Nat.le_refl _))
      replace Ra := hide (Ra.out.below hb10 (Nat.le_refl _))
      replace Rb := hide (Rb.out.below hb10 (Nat.le_refl _))
      clear hb10
      go_wp2_with fail
      refine (awake35 _).mono ?_
      rintro e W11 ⟨rfl, hb11⟩
      have c11 := c10.trans (hb11.mono s10)
      have s11 := c11.size
      have t11 := hb11.size
      clear hb11
      go_wp2_with fail
      go_ret
      exact ⟨rfl, c11⟩
theorem walk9 (w : World) (v0 : Value) (z0 : List Int) (r0 : Rd w v0 1 z0.length (inVals z0)) (b0 : z0.length ≤ 9223372036854775807) (v1 : Value) (p : List Spn) (r1 : Rd w v1 2 p.length (spVals p)) (b1 : p.length ≤ 9223372036854775807) (m : Int) (b2 : -9223372036854775808 ≤ m ∧ m ≤ 9223372036854775807) (n : Int) (b3 : -9223372036854775808 ≤ n ∧ n ≤ 9223372036854775807) (fit : Bool) :
    Calls Try.prog 9 #[v0, v1, .int .i64 m, .int .i64 n, .bool fit] w fun e w' => e = .returned (.bool true) ∧ Below w.heap.size w w' := by
  cases fit
  · exact walk9f w v0 z0 r0 b0 v1 p r1 b1 m b2 n b3
  · exact walk9t w v0 z0 r0 b0 v1 p r1 b1 m b2 n b3
end Go.Proofs.Ytagembkjmnfidaa
