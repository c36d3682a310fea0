import Derived.Test.YtagembkjmnfidaaAwkS
import Derived.Test.YtagembkjmnfidaaPrs
import Derived.Test.YtagembkjmnfidaaSizA
import Derived.Test.YtagembkjmnfidaaFrmC
import Derived.Test.YtagembkjmnfidaaGen2
import Derived.Test.YtagembkjmnfidaaInv
import Derived.Test.YtagembkjmnfidaaBaseJ
namespace Go.Proofs.Ytagembkjmnfidaa
open Go.RowKit
open Go.Proofs.Ml
set_option linter.unusedVariables false

set_option maxRecDepth 100000 in
set_option maxHeartbeats 3200000 in
theorem walk13 (w : World) (v0 : Value) (z0 : List Int) (r0 : Rd w v0 1 z0.length (inVals z0)) (b0 : z0.length ≤ 9223372036854775807) :
    Calls Try.prog 13 #[v0] w fun e w' => e = .returned (.bool true) ∧ Below w.heap.size w w' := by
  have H0 := hide r0
  clear r0
  go_enter Try.func13, Try.ntmps13
  go_wp2_with fail
  refine (script27 _ z0 0 _ H0.out b0 (by omega) (by omega)).mono ?_
  rintro e W1 ⟨vx, x, mx, nx, rfl, hvalx, hmx, hnx, hlx, hox, hb1⟩
  have c1 := hb1
  have s1 := c1.size
  have t1 := hb1.size
  replace H0 := hide (H0.out.below hb1 (Nat.le_refl _))
  clear hb1 t1
  have Rx := hide (Rd.of_own hox)
  have Vx := hide hvalx
  have hv_ := valid_iff.1 hvalx
  obtain ⟨m0x, m1x⟩ := hv_.1
  obtain ⟨n0x, n1x⟩ := hv_.2.1
  clear hvalx hox hv_
  go_wp2_with fail
  refine (prs39 _ x mx nx _ Rx.out (by omega)).mono ?_
  rintro e W2 ⟨vp, rfl, hop, hb2⟩
  have c2 := c1.trans (hb2.mono s1)
  have s2 := c2.size
  have t2 := hb2.size
  replace Rx := hide (Rx.out.below hb2 (Nat.le_refl _))
  clear hb2 t2
  rw [Vx.out]
  simp only [errOf, if_true]
  rw [prRes_ok Vx.out] at hop
  have hpl := mat_len Vx.out
  have hpa := mat_asc Vx.out
  have hsz := dt_sizes Vx.out
  obtain ⟨p, hp⟩ : ∃ p, p = mat 0 0 x mx := ⟨_, rfl⟩
  rw [← hp] at hop hpl hpa hsz
  have HP := hide hp
  have HPA := hide hpa
  clear hp hpa
  obtain ⟨Ap, cp, rfl, hgp⟩ := own_open hop
  have Rp := hide (Rd.of_own hop)
  clear hgp hop
  have EF := hide (fp_ok (inL_tt m0x m1x) (inL_tt n0x n1x) HPA.out)
  go_wp2_with fail
  refine (from41 _ p mx nx _ Rp.out (by omega)).mono ?_
  rintro e W3 ⟨vf, rfl, hof, hb3⟩
  have c3 := c2.trans (hb3.mono s2)
  have s3 := c3.size
  have t3 := hb3.size
  replace Rx := hide (Rx.out.below hb3 (Nat.le_refl _))
  replace Rp := hide (Rp.out.below hb3 (Nat.le_refl _))
  clear hb3 t3
  rw [EF.out.1]
  rw [EF.out.2, show made 0 0 p mx nx = x from by rw [HP.out, made_mat (valid_val Vx.out)]] at hof
  have Rf := hide (Rd.of_own hof)
  clear hof EF
  go_wp2_with fail
  refine (inv52 _ x _ Rx.out (by omega)).mono ?_
  rintro e W4 ⟨vi, rfl, hoi, hb4⟩
  have c4 := c3.trans (hb4.mono s3)
  have s4 := c4.size
  have t4 := hb4.size
  replace Rx := hide (Rx.out.below hb4 (Nat.le_refl _))
  replace Rp := hide (Rp.out.below hb4 (Nat.le_refl _))
  replace Rf := hide (Rf.out.below hb4 (Nat.le_refl _))
  clear hb4 t4
  have hli := inv_len x
  have Ri := hide (Rd.of_own hoi)
  have hli' : (inv x).length ≤ 900000 := by omega
  clear hoi hli
  have Vi := hide (valid_inv Vx.out)
  go_wp2_with fail
  refine (prs39 _ (inv x) nx mx _ Ri.out (by omega)).mono ?_
  rintro e W5 ⟨vq, rfl, hoq, hb5⟩
  have c5 := c4.trans (hb5.mono s4)
  have s5 := c5.size
  have t5 := hb5.size
  replace Rx := hide (Rx.out.below hb5 (Nat.le_refl _))
  replace Rp := hide (Rp.out.below hb5 (Nat.le_refl _))
  replace Rf := hide (Rf.out.below hb5 (Nat.le_refl _))
  replace Ri := hide (Ri.out.below hb5 (Nat.le_refl _))
  clear hb5 t5
  rw [Vi.out]
  simp only [errOf, if_true]
  rw [prRes_ok Vi.out, show mat 0 0 (inv x) nx = swp p from by rw [HP.out]; exact mat_inv (valid_val Vx.out)] at hoq
  obtain ⟨q, hq⟩ : ∃ q, q = swp p := ⟨_, rfl⟩
  have hql : q.length = p.length := by rw [hq, swp_len]
  have hqg := fun K (h1 : K < q.length) (h2 : K < p.length) => show q[K] = p[K].swap by subst hq; exact swp_get p K h1 h2
  rw [← hq] at hoq
  obtain ⟨Aq, cq, rfl, hgq⟩ := own_open hoq
  have Rq := hide (Rd.of_own hoq)
  have HQ := hide hqg
  have HQL := hide hql
  clear hgq hoq hq hqg
  go_wp2_with fail
  refine (size36 _ x _ Rx.out (by omega)).mono ?_
  rintro e W6 ⟨rfl, hb6⟩
  have c6 := c5.trans (hb6.mono s5)
  have s6 := c6.size
  have t6 := hb6.size
  replace Rx := hide (Rx.out.below hb6 (Nat.le_refl _))
  replace Rp := hide (Rp.out.below hb6 (Nat.le_refl _))
  replace Rf := hide (Rf.out.below hb6 (Nat.le_refl _))
  replace Ri := hide (Ri.out.below hb6 (Nat.le_refl _))
  replace Rq := hide (Rq.out.below hb6 (Nat.le_refl _))
  clear hb6 t6
  obtain ⟨d1, d2, d3, d4, d5, d6⟩ := hsz
  generalize szO x = O1 at *
  generalize szN x = N1 at *
  have e1 : ((p.length : Int) != (q.length : Int)) = false := by rw [hql]; simp
  have e2 : ((p.length : Int) != mx - O1) = false := by rw [d1]; simp
  have e3 : ((p.length : Int) != nx - N1) = false := by rw [d2]; simp
  have hq4 : q.length ≤ 4096 := by omega
  have HD := hide (And.intro d1 d2)
  clear d1 d2 hql
  go_wp2_with fail
  refine (same44 _ _ x _ Rf.out Rx.out (by omega)).mono ?_
  rintro e W7 ⟨rfl, hb7⟩
  have c7 := c6.trans (hb7.mono s6)
  have s7 := c7.size
  have t7 := hb7.size
  replace Rx := hide (Rx.out.below hb7 (Nat.le_refl _))
  replace Rp := hide (Rp.out.below hb7 (Nat.le_refl _))
  replace Rf := hide (Rf.out.below hb7 (Nat.le_refl _))
  replace Ri := hide (Ri.out.below hb7 (Nat.le_refl _))
  replace Rq := hide (Rq.out.below hb7 (Nat.le_refl _))
  clear hb7 t7
  go_wp2_with fail
  refine (inv52 _ (inv x) _ Ri.out (by omega)).mono ?_
  rintro e W8 ⟨vii, rfl, hoii, hb8⟩
  have c8 := c7.trans (hb8.mono s7)
  have s8 := c8.size
  have t8 := hb8.size
  replace Rx := hide (Rx.out.below hb8 (Nat.le_refl _))
  replace Rp := hide (Rp.out.below hb8 (Nat.le_refl _))
  replace Rf := hide (Rf.out.below hb8 (Nat.le_refl _))
  replace Ri := hide (Ri.out.below hb8 (Nat.le_refl _))
  replace Rq := hide (Rq.out.below hb8 (Nat.le_refl _))
  clear hb8 t8
  rw [inv_inv] at hoii
  have Rii := hide (Rd.of_own hoii)
  clear hoii
  go_wp2_with fail
  refine (same44 _ _ x _ Rii.out Rx.out (by omega)).mono ?_
  rintro e W9 ⟨rfl, hb9⟩
  have c9 := c8.trans (hb9.mono s8)
  have s9 := c9.size
  have t9 := hb9.size
  replace Rx := hide (Rx.out.below hb9 (Nat.le_refl _))
  replace Rp := hide (Rp.out.below hb9 (Nat.le_refl _))
  replace Rf := hide (Rf.out.below hb9 (Nat.le_refl _))
  replace Ri := hide (Ri.out.below hb9 (Nat.le_refl _))
  replace Rq := hide (Rq.out.below hb9 (Nat.le_refl _))
  replace Rii := hide (Rii.out.below hb9 (Nat.le_refl _))
  clear hb9 t9
  go_wp2_with fail
  go_loopw [15] (fun k wr => ∃ (K : Nat), K ≤ p.length ∧ k = .int .i64 K ∧ Below W9.heap.size W9 wr)
    (fun k _ => p.length - (intOf k).toNat)
  case atStart => exact ⟨0, by omega, rfl, Below.refl _ _⟩
  case round =>
    obtain ⟨K, hK, rfl, hbel⟩ := hrel
    have hbs := hbel.size
    by_cases hlt : K < p.length
    · have hltq : K < q.length := by have := HQL.out; omega
      obtain ⟨b, off, rfl, hb, hc⟩ := Rp.out.at (by omega)
      obtain ⟨b2, off2, rfl, hb2, hc2⟩ := Rq.out.at (by omega)
      have hbw : b < wr.heap.size := by omega
      have hbw2 : b2 < wr.heap.size := by omega
      obtain ⟨a0, a1⟩ := sp_cells hc hb hbel hlt
      obtain ⟨d0, d1⟩ := sp_cells hc2 hb2 hbel hltq
      rw [HQ.out K hltq hlt] at d0 d1
      clear hc hc2
      generalize p[K] = C at *
      obtain ⟨F, T⟩ := C
      simp only [Spn.swap] at a0 a1 d0 d1
      have i0 : (0 : Int) ≤ (K : Int) := by omega
      have i1 : (K : Int) < (p.length : Int) := by omega
      have i2 : (K : Int) < (q.length : Int) := by omega
      go_wp2_with fail
      go_quiet (fail)
      go_wp2_with fail
      go_roundw
      case rel => exact ⟨K + 1, by omega, by go_num, below_drewN hbel _⟩
      case measure => simp [intOf]; omega
    · go_wp2_with fail
      refine (awake35 _).mono ?_
      rintro e w' ⟨rfl, hb⟩
      go_wp2_with fail
      go_ret
      exact ⟨rfl, c9.trans ((hbel.trans (hb.mono hbs)).mono s9)⟩
end Go.Proofs.Ytagembkjmnfidaa
