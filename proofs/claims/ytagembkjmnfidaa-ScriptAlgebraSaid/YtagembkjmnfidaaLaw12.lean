import Derived.Test.YtagembkjmnfidaaAwkS
import Derived.Test.YtagembkjmnfidaaCmpA
import Derived.Test.YtagembkjmnfidaaSec
import Derived.Test.YtagembkjmnfidaaInv
import Derived.Test.YtagembkjmnfidaaBaseI
namespace Go.Proofs.Ytagembkjmnfidaa
open Go.RowKit
open Go.Proofs.Ml
set_option linter.unusedVariables false

set_option maxRecDepth 100000 in
set_option maxHeartbeats 3200000 in
theorem walk12 (w : World) (v0 : Value) (z0 : List Int) (r0 : Rd w v0 1 z0.length (inVals z0)) (b0 : z0.length ≤ 9223372036854775807) :
    Calls Try.prog 12 #[v0] w fun e w' => e = .returned (.bool true) ∧ Below w.heap.size w w' := by
  have H0 := hide r0
  clear r0
  go_enter Try.func12, Try.ntmps12
  go_wp2_with fail
  refine (script27 _ z0 0 _ H0.out b0 (by omega) (by omega)).mono ?_
  rintro e W1 ⟨vx, x, mx, nx, rfl, hvalx, hmx, hnx, hlx, hox, hb1⟩
  have c1 := hb1
  have s1 := c1.size
  have t1 := hb1.size
  replace H0 := hide (H0.out.below hb1 (Nat.le_refl _))
  clear hb1 t1
  have Rx := hide (Rd.of_own hox)
  have Vx := hide hvalx
  have hv_ := valid_iff.1 hvalx
  obtain ⟨m0x, m1x⟩ := hv_.1
  obtain ⟨n0x, n1x⟩ := hv_.2.1
  clear hvalx hox hv_
  go_wp2_with fail
  refine (second49 _ z0 200 nx _ H0.out b0 (by omega) (by omega) (by omega) (by omega)).mono ?_
  rintro e W2 ⟨vy, y, ny, rfl, hvaly, hny, hly, hoy, hb2⟩
  have c2 := c1.trans (hb2.mono s1)
  have s2 := c2.size
  have t2 := hb2.size
  replace H0 := hide (H0.out.below hb2 (Nat.le_refl _))
  replace Rx := hide (Rx.out.below hb2 (Nat.le_refl _))
  clear hb2 t2
  have Ry := hide (Rd.of_own hoy)
  have Vy := hide hvaly
  have hv_ := valid_iff.1 hvaly
  obtain ⟨n0y, n1y⟩ := hv_.2.1
  clear hvaly hoy hv_
  go_wp2_with fail
  refine (second49 _ z0 400 ny _ H0.out b0 (by omega) (by omega) (by omega) (by omega)).mono ?_
  rintro e W3 ⟨vz, z, nz, rfl, hvalz, hnz, hlz, hoz, hb3⟩
  have c3 := c2.trans (hb3.mono s2)
  have s3 := c3.size
  have t3 := hb3.size
  replace H0 := hide (H0.out.below hb3 (Nat.le_refl _))
  replace Rx := hide (Rx.out.below hb3 (Nat.le_refl _))
  replace Ry := hide (Ry.out.below hb3 (Nat.le_refl _))
  clear hb3 t3
  have Rz := hide (Rd.of_own hoz)
  have Vz := hide hvalz
  have hv_ := valid_iff.1 hvalz
  obtain ⟨n0z, n1z⟩ := hv_.2.1
  clear hvalz hoz hv_
  have Exy := hide (cp_ok Vx.out Vy.out)
  go_wp2_with fail
  refine (cmp50 _ _ x y mx nx ny _ Rx.out Ry.out (by first | omega | simp) (by first | omega | simp)).mono ?_
  rintro e W4 ⟨vxy, rfl, hoxy, hb4⟩
  have c4 := c3.trans (hb4.mono s3)
  have s4 := c4.size
  have t4 := hb4.size
  replace H0 := hide (H0.out.below hb4 (Nat.le_refl _))
  replace Rx := hide (Rx.out.below hb4 (Nat.le_refl _))
  replace Ry := hide (Ry.out.below hb4 (Nat.le_refl _))
  replace Rz := hide (Rz.out.below hb4 (Nat.le_refl _))
  clear hb4 t4
  rw [Exy.out.1]
  simp only [errOf, if_true]
  rw [Exy.out.2] at hoxy
  clear Exy
  obtain ⟨xy, hxy⟩ : ∃ xy, xy = comp x y mx nx ny := ⟨_, rfl⟩
  rw [← hxy] at hoxy
  have hlxy : xy.length ≤ 8192 := by rw [hxy]; exact comp_len Vx.out Vy.out
  have Vxy := hide (show valid xy mx ny = true by rw [hxy]; exact comp_valid Vx.out Vy.out)
  have Qxy := hide hxy
  clear hxy
  have Rxy := hide (Rd.of_own hoxy)
  clear hoxy
  have Eyz := hide (cp_ok Vy.out Vz.out)
  go_wp2_with fail
  refine (cmp50 _ _ y z nx ny nz _ Ry.out Rz.out (by first | omega | simp) (by first | omega | simp)).mono ?_
  rintro e W5 ⟨vyz, rfl, hoyz, hb5⟩
  have c5 := c4.trans (hb5.mono s4)
  have s5 := c5.size
  have t5 := hb5.size
  replace H0 := hide (H0.out.below hb5 (Nat.le_refl _))
  replace Rx := hide (Rx.out.below hb5 (Nat.le_refl _))
  replace Ry := hide (Ry.out.below hb5 (Nat.le_refl _))
  replace Rz := hide (Rz.out.below hb5 (Nat.le_refl _))
  replace Rxy := hide (Rxy.out.below hb5 (Nat.le_refl _))
  clear hb5 t5
  rw [Eyz.out.1]
  simp only [errOf, if_true]
  rw [Eyz.out.2] at hoyz
  clear Eyz
  obtain ⟨yz, hyz⟩ : ∃ yz, yz = comp y z nx ny nz := ⟨_, rfl⟩
  rw [← hyz] at hoyz
  have hlyz : yz.length ≤ 8192 := by rw [hyz]; exact comp_len Vy.out Vz.out
  have Vyz := hide (show valid yz nx nz = true by rw [hyz]; exact comp_valid Vy.out Vz.out)
  have Qyz := hide hyz
  clear hyz
  have Ryz := hide (Rd.of_own hoyz)
  clear hoyz
  have Ep := hide (cp_ok Vxy.out Vz.out)
  go_wp2_with fail
  refine (cmp50 _ _ xy z mx ny nz _ Rxy.out Rz.out (by first | omega | simp) (by first | omega | simp)).mono ?_
  rintro e W6 ⟨vp, rfl, hop, hb6⟩
  have c6 := c5.trans (hb6.mono s5)
  have s6 := c6.size
  have t6 := hb6.size
  replace H0 := hide (H0.out.below hb6 (Nat.le_refl _))
  replace Rx := hide (Rx.out.below hb6 (Nat.le_refl _))
  replace Ry := hide (Ry.out.below hb6 (Nat.le_refl _))
  replace Rz := hide (Rz.out.below hb6 (Nat.le_refl _))
  replace Rxy := hide (Rxy.out.below hb6 (Nat.le_refl _))
  replace Ryz := hide (Ryz.out.below hb6 (Nat.le_refl _))
  clear hb6 t6
  rw [Ep.out.1]
  simp only [errOf, if_true]
  rw [Ep.out.2] at hop
  clear Ep
  obtain ⟨p, hp⟩ : ∃ p, p = comp xy z mx ny nz := ⟨_, rfl⟩
  rw [← hp] at hop
  have hlp : p.length ≤ 8192 := by rw [hp]; exact comp_len Vxy.out Vz.out
  have Vp := hide (show valid p mx nz = true by rw [hp]; exact comp_valid Vxy.out Vz.out)
  have Qp := hide hp
  clear hp
  have Rp := hide (Rd.of_own hop)
  clear hop
  have Eq := hide (cp_ok Vx.out Vyz.out)
  go_wp2_with fail
  refine (cmp50 _ _ x yz mx nx nz _ Rx.out Ryz.out (by first | omega | simp) (by first | omega | simp)).mono ?_
  rintro e W7 ⟨vq, rfl, hoq, hb7⟩
  have c7 := c6.trans (hb7.mono s6)
  have s7 := c7.size
  have t7 := hb7.size
  replace H0 := hide (H0.out.below hb7 (Nat.le_refl _))
  replace Rx := hide (Rx.out.below hb7 (Nat.le_refl _))
  replace Ry := hide (Ry.out.below hb7 (Nat.le_refl _))
  replace Rz := hide (Rz.out.below hb7 (Nat.le_refl _))
  replace Rxy := hide (Rxy.out.below hb7 (Nat.le_refl _))
  replace Ryz := hide (Ryz.out.below hb7 (Nat.le_refl _))
  replace Rp := hide (Rp.out.below hb7 (Nat.le_refl _))
  clear hb7 t7
  rw [Eq.out.1]
  simp only [errOf, if_true]
  rw [Eq.out.2] at hoq
  clear Eq
  rw [show comp x yz mx nx nz = p from (by rw [Qp.out, Qxy.out, Qyz.out, comp_assoc Vx.out Vy.out Vz.out])] at hoq
  have Rq := hide (Rd.of_own hoq)
  clear hoq
  have Vn := hide (nil_valid m0x m1x)
  have Rn := hide (Rd.nil_ch W7)
  have El := hide (cp_ok Vn.out Vx.out)
  go_wp2_with fail
  refine (cmp50 _ _ [] x mx mx nx _ Rn.out Rx.out (by first | omega | simp) (by first | omega | simp)).mono ?_
  rintro e W8 ⟨vl, rfl, hol, hb8⟩
  have c8 := c7.trans (hb8.mono s7)
  have s8 := c8.size
  have t8 := hb8.size
  replace H0 := hide (H0.out.below hb8 (Nat.le_refl _))
  replace Rx := hide (Rx.out.below hb8 (Nat.le_refl _))
  replace Ry := hide (Ry.out.below hb8 (Nat.le_refl _))
  replace Rz := hide (Rz.out.below hb8 (Nat.le_refl _))
  replace Rxy := hide (Rxy.out.below hb8 (Nat.le_refl _))
  replace Ryz := hide (Ryz.out.below hb8 (Nat.le_refl _))
  replace Rp := hide (Rp.out.below hb8 (Nat.le_refl _))
  replace Rq := hide (Rq.out.below hb8 (Nat.le_refl _))
  replace Rn := hide (Rn.out.below hb8 (Nat.le_refl _))
  clear hb8 t8
  rw [El.out.1]
  simp only [errOf, if_true]
  rw [El.out.2] at hol
  clear El
  rw [show comp [] x mx mx nx = x from (comp_nil_left Vx.out)] at hol
  have Rl := hide (Rd.of_own hol)
  clear hol
  have Vk := hide (nil_valid n0x n1x)
  have Er := hide (cp_ok Vx.out Vk.out)
  go_wp2_with fail
  refine (cmp50 _ _ x [] mx nx nx _ Rx.out Rn.out (by first | omega | simp) (by first | omega | simp)).mono ?_
  rintro e W9 ⟨vr, rfl, hor, hb9⟩
  have c9 := c8.trans (hb9.mono s8)
  have s9 := c9.size
  have t9 := hb9.size
  replace H0 := hide (H0.out.below hb9 (Nat.le_refl _))
  replace Rx := hide (Rx.out.below hb9 (Nat.le_refl _))
  replace Ry := hide (Ry.out.below hb9 (Nat.le_refl _))
  replace Rz := hide (Rz.out.below hb9 (Nat.le_refl _))
  replace Rxy := hide (Rxy.out.below hb9 (Nat.le_refl _))
  replace Ryz := hide (Ryz.out.below hb9 (Nat.le_refl _))
  replace Rp := hide (Rp.out.below hb9 (Nat.le_refl _))
  replace Rq := hide (Rq.out.below hb9 (Nat.le_refl _))
  replace Rn := hide (Rn.out.below hb9 (Nat.le_refl _))
  replace Rl := hide (Rl.out.below hb9 (Nat.le_refl _))
  clear hb9 t9
  rw [Er.out.1]
  simp only [errOf, if_true]
  rw [Er.out.2] at hor
  clear Er
  rw [show comp x [] mx nx nx = x from (comp_nil_right Vx.out)] at hor
  have Rr := hide (Rd.of_own hor)
  clear hor
  go_wp2_with fail
  refine (inv52 _ y _ Ry.out (by omega)).mono ?_
  rintro e W10 ⟨viy, rfl, hoiy, hb10⟩
  have c10 := c9.trans (hb10.mono s9)
  have s10 := c10.size
  have t10 := hb10.size
  replace H0 := hide (H0.out.below hb10 (Nat.le_refl _))
  replace Rx := hide (Rx.out.below hb10 (Nat.le_refl _))
  replace Ry := hide (Ry.out.below hb10 (Nat.le_refl _))
  replace Rz := hide (Rz.out.below hb10 (Nat.le_refl _))
  replace Rxy := hide (Rxy.out.below hb10 (Nat.le_refl _))
  replace Ryz := hide (Ryz.out.below hb10 (Nat.le_refl _))
  replace Rp := hide (Rp.out.below hb10 (Nat.le_refl _))
  replace Rq := hide (Rq.out.below hb10 (Nat.le_refl _))
  replace Rl := hide (Rl.out.below hb10 (Nat.le_refl _))
  replace Rr := hide (Rr.out.below hb10 (Nat.le_refl _))
  clear hb10 t10
  have hliy := inv_len y
  have Riy := hide (Rd.of_own hoiy)
  have hliy' : (inv y).length ≤ 900000 := by omega
  clear hoiy hliy
  go_wp2_with fail
  refine (inv52 _ x _ Rx.out (by omega)).mono ?_
  rintro e W11 ⟨vix, rfl, hoix, hb11⟩
  have c11 := c10.trans (hb11.mono s10)
  have s11 := c11.size
  have t11 := hb11.size
  replace H0 := hide (H0.out.below hb11 (Nat.le_refl _))
  replace Rx := hide (Rx.out.below hb11 (Nat.le_refl _))
  replace Ry := hide (Ry.out.below hb11 (Nat.le_refl _))
  replace Rz := hide (Rz.out.below hb11 (Nat.le_refl _))
  replace Rxy := hide (Rxy.out.below hb11 (Nat.le_refl _))
  replace Ryz := hide (Ryz.out.below hb11 (Nat.le_refl _))
  replace Rp := hide (Rp.out.below hb11 (Nat.le_refl _))
  replace Rq := hide (Rq.out.below hb11 (Nat.le_refl _))
  replace Rl := hide (Rl.out.below hb11 (Nat.le_refl _))
  replace Rr := hide (Rr.out.below hb11 (Nat.le_refl _))
  replace Riy := hide (Riy.out.below hb11 (Nat.le_refl _))
  clear hb11 t11
  have hlix := inv_len x
  have Rix := hide (Rd.of_own hoix)
  have hlix' : (inv x).length ≤ 900000 := by omega
  clear hoix hlix
  have Viy := hide (valid_inv Vy.out)
  have Vix := hide (valid_inv Vx.out)
  have Es := hide (cp_ok Viy.out Vix.out)
  go_wp2_with fail
  refine (cmp50 _ _ (inv y) (inv x) ny nx mx _ Riy.out Rix.out (by first | omega | simp) (by first | omega | simp)).mono ?_
  rintro e W12 ⟨vs, rfl, hos, hb12⟩
  have c12 := c11.trans (hb12.mono s11)
  have s12 := c12.size
  have t12 := hb12.size
  replace H0 := hide (H0.out.below hb12 (Nat.le_refl _))
  replace Rx := hide (Rx.out.below hb12 (Nat.le_refl _))
  replace Ry := hide (Ry.out.below hb12 (Nat.le_refl _))
  replace Rz := hide (Rz.out.below hb12 (Nat.le_refl _))
  replace Rxy := hide (Rxy.out.below hb12 (Nat.le_refl _))
  replace Ryz := hide (Ryz.out.below hb12 (Nat.le_refl _))
  replace Rp := hide (Rp.out.below hb12 (Nat.le_refl _))
  replace Rq := hide (Rq.out.below hb12 (Nat.le_refl _))
  replace Rl := hide (Rl.out.below hb12 (Nat.le_refl _))
  replace Rr := hide (Rr.out.below hb12 (Nat.le_refl _))
  replace Riy := hide (Riy.out.below hb12 (Nat.le_refl _))
  replace Rix := hide (Rix.out.below hb12 (Nat.le_refl _))
  clear hb12 t12
  rw [Es.out.1]
  simp only [errOf, if_true]
  rw [Es.out.2] at hos
  clear Es
  rw [show comp (inv y) (inv x) ny nx mx = (inv xy) from (by rw [Qxy.out, comp_inv Vx.out Vy.out])] at hos
  have Rs := hide (Rd.of_own hos)
  clear hos
  go_wp2_with fail
  refine (same44 _ _ p _ Rp.out Rq.out (by omega)).mono ?_
  rintro e W13 ⟨rfl, hb13⟩
  have c13 := c12.trans (hb13.mono s12)
  have s13 := c13.size
  have t13 := hb13.size
  replace H0 := hide (H0.out.below hb13 (Nat.le_refl _))
  replace Rx := hide (Rx.out.below hb13 (Nat.le_refl _))
  replace Ry := hide (Ry.out.below hb13 (Nat.le_refl _))
  replace Rz := hide (Rz.out.below hb13 (Nat.le_refl _))
  replace Rxy := hide (Rxy.out.below hb13 (Nat.le_refl _))
  replace Ryz := hide (Ryz.out.below hb13 (Nat.le_refl _))
  replace Rp := hide (Rp.out.below hb13 (Nat.le_refl _))
  replace Rq := hide (Rq.out.below hb13 (Nat.le_refl _))
  replace Rl := hide (Rl.out.below hb13 (Nat.le_refl _))
  replace Rr := hide (Rr.out.below hb13 (Nat.le_refl _))
  replace Riy := hide (Riy.out.below hb13 (Nat.le_refl _))
  replace Rix := hide (Rix.out.below hb13 (Nat.le_refl _))
  replace Rs := hide (Rs.out.below hb13 (Nat.le_refl _))
  clear hb13 t13
  go_wp2_with fail
  refine (same44 _ _ x _ Rl.out Rx.out (by omega)).mono ?_
  rintro e W14 ⟨rfl, hb14⟩
  have c14 := c13.trans (hb14.mono s13)
  have s14 := c14.size
  have t14 := hb14.size
  replace H0 := hide (H0.out.below hb14 (Nat.le_refl _))
  replace Rx := hide (Rx.out.below hb14 (Nat.le_refl _))
  replace Ry := hide (Ry.out.below hb14 (Nat.le_refl _))
  replace Rz := hide (Rz.out.below hb14 (Nat.le_refl _))
  replace Rxy := hide (Rxy.out.below hb14 (Nat.le_refl _))
  replace Ryz := hide (Ryz.out.below hb14 (Nat.le_refl _))
  replace Rp := hide (Rp.out.below hb14 (Nat.le_refl _))
  replace Rq := hide (Rq.out.below hb14 (Nat.le_refl _))
  replace Rl := hide (Rl.out.below hb14 (Nat.le_refl _))
  replace Rr := hide (Rr.out.below hb14 (Nat.le_refl _))
  replace Riy := hide (Riy.out.below hb14 (Nat.le_refl _))
  replace Rix := hide (Rix.out.below hb14 (Nat.le_refl _))
  replace Rs := hide (Rs.out.below hb14 (Nat.le_refl _))
  clear hb14 t14
  go_wp2_with fail
  refine (same44 _ _ x _ Rr.out Rx.out (by omega)).mono ?_
  rintro e W15 ⟨rfl, hb15⟩
  have c15 := c14.trans (hb15.mono s14)
  have s15 := c15.size
  have t15 := hb15.size
  replace H0 := hide (H0.out.below hb15 (Nat.le_refl _))
  replace Rx := hide (Rx.out.below hb15 (Nat.le_refl _))
  replace Ry := hide (Ry.out.below hb15 (Nat.le_refl _))
  replace Rz := hide (Rz.out.below hb15 (Nat.le_refl _))
  replace Rxy := hide (Rxy.out.below hb15 (Nat.le_refl _))
  replace Ryz := hide (Ryz.out.below hb15 (Nat.le_refl _))
  replace Rp := hide (Rp.out.below hb15 (Nat.le_refl _))
  replace Rq := hide (Rq.out.below hb15 (Nat.le_refl _))
  replace Rl := hide (Rl.out.below hb15 (Nat.le_refl _))
  replace Rr := hide (Rr.out.below hb15 (Nat.le_refl _))
  replace Riy := hide (Riy.out.below hb15 (Nat.le_refl _))
  replace Rix := hide (Rix.out.below hb15 (Nat.le_refl _))
  replace Rs := hide (Rs.out.below hb15 (Nat.le_refl _))
  clear hb15 t15
  go_wp2_with fail
  refine (inv52 _ xy _ Rxy.out (by omega)).mono ?_
  rintro e W16 ⟨vixy, rfl, hoixy, hb16⟩
  have c16 := c15.trans (hb16.mono s15)
  have s16 := c16.size
  have t16 := hb16.size
  replace H0 := hide (H0.out.below hb16 (Nat.le_refl _))
  replace Rx := hide (Rx.out.below hb16 (Nat.le_refl _))
  replace Ry := hide (Ry.out.below hb16 (Nat.le_refl _))
  replace Rz := hide (Rz.out.below hb16 (Nat.le_refl _))
  replace Rxy := hide (Rxy.out.below hb16 (Nat.le_refl _))
  replace Ryz := hide (Ryz.out.below hb16 (Nat.le_refl _))
  replace Rp := hide (Rp.out.below hb16 (Nat.le_refl _))
  replace Rq := hide (Rq.out.below hb16 (Nat.le_refl _))
  replace Rl := hide (Rl.out.below hb16 (Nat.le_refl _))
  replace Rr := hide (Rr.out.below hb16 (Nat.le_refl _))
  replace Riy := hide (Riy.out.below hb16 (Nat.le_refl _))
  replace Rix := hide (Rix.out.below hb16 (Nat.le_refl _))
  replace Rs := hide (Rs.out.below hb16 (Nat.le_refl _))
  clear hb16 t16
  have hlixy := inv_len xy
  have Rixy := hide (Rd.of_own hoixy)
  have hlixy' : (inv xy).length ≤ 900000 := by omega
  clear hoixy hlixy
  go_wp2_with fail
  refine (same44 _ _ (inv xy) _ Rs.out Rixy.out (by omega)).mono ?_
  rintro e W17 ⟨rfl, hb17⟩
  have c17 := c16.trans (hb17.mono s16)
  have s17 := c17.size
  have t17 := hb17.size
  replace H0 := hide (H0.out.below hb17 (Nat.le_refl _))
  replace Rx := hide (Rx.out.below hb17 (Nat.le_refl _))
  replace Ry := hide (Ry.out.below hb17 (Nat.le_refl _))
  replace Rz := hide (Rz.out.below hb17 (Nat.le_refl _))
  replace Rxy := hide (Rxy.out.below hb17 (Nat.le_refl _))
  replace Ryz := hide (Ryz.out.below hb17 (Nat.le_refl _))
  replace Rp := hide (Rp.out.below hb17 (Nat.le_refl _))
  replace Rq := hide (Rq.out.below hb17 (Nat.le_refl _))
  replace Rl := hide (Rl.out.below hb17 (Nat.le_refl _))
  replace Rr := hide (Rr.out.below hb17 (Nat.le_refl _))
  replace Riy := hide (Riy.out.below hb17 (Nat.le_refl _))
  replace Rix := hide (Rix.out.below hb17 (Nat.le_refl _))
  replace Rs := hide (Rs.out.below hb17 (Nat.le_refl _))
  replace Rixy := hide (Rixy.out.below hb17 (Nat.le_refl _))
  clear hb17 t17
  go_wp2_with fail
  refine (awake35 _).mono ?_
  rintro e W18 ⟨rfl, hb18⟩
  have c18 := c17.trans (hb18.mono s17)
  have s18 := c18.size
  have t18 := hb18.size
  clear hb18 t18
  go_wp2_with fail
  go_ret
  exact ⟨rfl, c18⟩
end Go.Proofs.Ytagembkjmnfidaa
