import Derived.Test.YtagembkjmnfidaaTrkE
import Derived.Test.YtagembkjmnfidaaSpecN
import Derived.Test.YtagembkjmnfidaaCmpA
import Derived.Test.YtagembkjmnfidaaBaseI
import Derived.Test.YtagembkjmnfidaaBaseL
namespace Go.Proofs.Ytagembkjmnfidaa
open Go.RowKit
open Go.Proofs.Ml
set_option linter.unusedVariables false

set_option maxRecDepth 100000 in
set_option maxHeartbeats 6400000 in
theorem walk19 (w : World) (v0 : Value) (z0 : List Int) (r0 : Rd w v0 1 z0.length (inVals z0)) (b0 : z0.length ≤ 9223372036854775807) (a1 : Int) (b1 : -9223372036854775808 ≤ a1 ∧ a1 ≤ 9223372036854775807) (a2 : Int) (b2 : -9223372036854775808 ≤ a2 ∧ a2 ≤ 9223372036854775807) :
    Calls Try.prog 19 #[v0, .int .i64 a1, .int .i64 a2] w fun e w' => e = .returned (.bool true) ∧ Below w.heap.size w w' := by
  have H0 := hide r0
  clear r0 b1 b2
  go_enter Try.func19, Try.ntmps19
  go_wp2_with fail
  refine (script27 _ z0 0 _ H0.out b0 (by omega) (by omega)).mono ?_
  rintro e W1 ⟨vx, x, mx, nx, rfl, hvalx, hmx, hnx, hlx, hox, hb1⟩
  have c1 : Below w.heap.size w W1 := hb1
  have s1 := c1.size
  replace H0 := hide (H0.out.below hb1 (Nat.le_refl _))
  clear hb1
  have Rx := hide (Rd.of_own hox)
  have Vx := hide hvalx
  have hv_ := valid_iff.1 hvalx
  obtain ⟨m0x, m1x⟩ := hv_.1
  obtain ⟨n0x, n1x⟩ := hv_.2.1
  clear hvalx hox hv_
  go_wp2_with fail
  refine (at62 _ z0 _ _ H0.out b0 (by omega) (by omega)).mono ?_
  rintro e w' ⟨zz, hz0, hz1, rfl, rfl⟩
  go_wp2_with fail
  refine (mod29 _ _ _ (by omega) (by omega)).mono ?_
  rintro e w' ⟨rfl, rfl⟩
  obtain ⟨n0, n1⟩ := gmod_range zz 9 (by omega) (by omega)
  generalize gmod zz 9 = n at *
  go_wp2_with fail
  go_loopw [10, 12, 13] (fun v i j wr => ∃ (P : List Spn) (I J : Int), i = .int .i64 I ∧ j = .int .i64 J ∧ 0 ≤ I ∧ I ≤ nx ∧ 0 ≤ J ∧ J ≤ n ∧ Asc 0 0 P I J ∧ wr.ownsRow W1.heap.size 35 2 v P.length (spVals P) ∧ Below W1.heap.size W1 wr)
    (fun _ i j _ => (nx - intOf i).toNat + (n - intOf j).toNat)
  case atStart => exact ⟨[], 0, 0, rfl, rfl, by omega, by omega, by omega, by omega, ⟨by omega, by omega⟩, World.ownsRow_nil _ _ _ _, Below.refl _ _⟩
  case round =>
    obtain ⟨P, I, J, rfl, rfl, hI0, hI1, hJ0, hJ1, hP, hown, hbel⟩ := hrel
    have hbs := hbel.size
    have hPl := hP.length
    have H1 := hide hP
    clear hP
    by_cases hlt : I < nx ∧ J < n
    · obtain ⟨hlt1, hlt2⟩ := hlt
      go_wp2_with fail
      refine (at62 _ z0 _ _ (H0.out.below hbel (Nat.le_refl _)) b0 (by omega) (by omega)).mono ?_
      rintro e w' ⟨z, hzz0, hzz1, rfl, rfl⟩
      go_wp2_with (at_builtin; go_must (refine wp_app1 rfl (.tmp 52) (.tmp 56) 50 35 2 16 _ rfl Try.underlying50 info35 rfl (by omega) (by omega) wr _ W1.heap.size P.length _ (spVals P) rfl _ _ rfl rfl hown hown (Nat.le_refl _) rfl rfl (by omega) hbs ?_); intro v1 w1 hown1 hb1 hold hsz1; clear hold)
      · go_roundw
        case rel => exact ⟨P, I + 1, J, rfl, rfl, by omega, by omega, by omega, by omega, H1.out.up (by omega) (by omega), hown, hbel⟩
        case measure => simp [intOf]; omega
      · go_roundw
        case rel => exact ⟨P, I, J + 1, rfl, rfl, by omega, by omega, by omega, by omega, H1.out.up (by omega) (by omega), hown, hbel⟩
        case measure => simp [intOf]; omega
      · go_roundw
        case rel => exact ⟨P ++ [⟨I, J⟩], I + 1, J + 1, rfl, rfl, by omega, by omega, by omega, by omega, H1.out.snoc, own_sp (c := ⟨I, J⟩) hown1, hbel.trans hb1⟩
        case measure => simp [intOf]; omega
    · have hcase : nx ≤ I ∨ (I < nx ∧ n ≤ J) := by omega
      have hA := H1.out.up hI1 hJ1
      have hmem := hA.mem
      have HA := hide hA
      have H3 := hide hmem
      have cr := c1.trans (hbel.mono s1)
      have sr := cr.size
      replace Rx := hide (Rx.out.below hbel (Nat.le_refl _))
      clear hA hmem hlt H0
      have hP5 : P.length ≤ 5000 := by omega
      clear hI0 hI1 hJ0 hJ1 hPl H1
      rcases hcase with hc | ⟨hc, hc'⟩
      all_goals
        go_wp2_with fail
        refine (made63 _ P nx n _ (Rd.of_own hown) (by omega) (fun s hs => by have := H3.out s hs; omega) (by omega) (by omega)).mono ?_
        rintro e W2 ⟨vy, rfl, hoy, hb2⟩
        have c2 : Below w.heap.size w W2 := cr.trans (hb2.mono sr)
        have s2 := c2.size
        have t2 : wr.heap.size ≤ W2.heap.size := hb2.size
        replace Rx := hide (Rx.out.below hb2 (Nat.le_refl _))
        clear hb2
        obtain ⟨y, hy⟩ : ∃ y_, y_ = made 0 0 P nx n := ⟨_, rfl⟩
        have hVy : valid y nx n = true := by rw [hy]; exact made_valid HA.out (by omega) (by omega)
        rw [← hy] at hoy
        have hyl : y.length ≤ 18 := by have := (valid_val hVy).length; omega
        have Vy := hide hVy
        clear hy hVy hown hbel hbs H3 HA
        have Ry := hide (Rd.of_own hoy)
        clear hoy hP5
        clear hc
        try clear hc'
        by_cases hn0 : n = 0
        · subst hn0
          go_wp2_with fail
          refine (awake54 _).mono ?_
          rintro e w' ⟨rfl, hb⟩
          go_wp2_with fail
          go_ret
          exact ⟨rfl, c2.trans (hb.mono s2)⟩
        have hE : ((n == 0) : Bool) = false := by simp [hn0]
        have hn2 : 1 ≤ n := by omega
        clear hn0
        go_wp2_with fail
        refine (mod29 a1 n _ (by omega) (by omega)).mono ?_
        rintro e w' ⟨rfl, rfl⟩
        obtain ⟨F0, F1⟩ := gmod_range a1 n (by omega) (by omega)
        generalize gmod a1 n = SF at *
        have HM := hide (fun W => mod29 a2 (n - SF) W (by omega) (by omega))
        obtain ⟨G0, G1⟩ := gmod_range a2 (n - SF) (by omega) (by omega)
        generalize gmod a2 (n - SF) = G at *
        obtain ⟨ST, hST⟩ : ∃ y_, y_ = SF + 1 + G := ⟨_, rfl⟩
        have q1 : SF < ST := by omega
        have q2 : ST ≤ n := by omega
        have e1 := IntWalk.i64_in (n - SF) (by omega)
        have e2 := IntWalk.i64_in (SF + 1) (by omega)
        have e3 : IntKind.i64.wrap (SF + 1 + G) = ST := by rw [IntWalk.i64_in _ (by omega)]; exact hST.symm
        clear hST
        go_wp2_with fail
        go_region_with ((go_at_call 29; refine (HM.out _).mono ?_; rintro e w' ⟨rfl, rfl⟩))
        all_goals
          clear HM e1 e2 e3
          replace Rx := hide (Rx.out.below ((Below.refl (W2).heap.size (W2)).alloc (Nat.le_refl _) (.cells #[.int .i64 SF, .int .i64 ST] 35)) (Nat.le_refl _))
          replace Ry := hide (Ry.out.below ((Below.refl (W2).heap.size (W2)).alloc (Nat.le_refl _) (.cells #[.int .i64 SF, .int .i64 ST] 35)) (Nat.le_refl _))
          have Ts := hide (Two.new (W2) 35 (.int .i64 SF) (.int .i64 ST))
          replace Rx := hide (Rx.out.below (Below.refl ((W2).alloc (.cells #[.int .i64 SF, .int .i64 ST] 35)).heap.size ((W2).alloc (.cells #[.int .i64 SF, .int .i64 ST] 35))).drew (Nat.le_refl _))
          replace Ry := hide (Ry.out.below (Below.refl ((W2).alloc (.cells #[.int .i64 SF, .int .i64 ST] 35)).heap.size ((W2).alloc (.cells #[.int .i64 SF, .int .i64 ST] 35))).drew (Nat.le_refl _))
          replace Ts := hide Ts.out.drew
          have Exy := hide (cp_ok Vx.out Vy.out)
          go_wp2_with fail
          refine (cmp50 _ _ x y mx nx n _ Rx.out Ry.out (by first | omega | simp) (by first | omega | simp)).mono ?_
          rintro e W3 ⟨vxy, rfl, hoxy, hb3⟩
          have c3 : Below w.heap.size w W3 := c2.trans (((((Below.refl (W2).heap.size (W2)).alloc (Nat.le_refl _) (.cells #[.int .i64 SF, .int .i64 ST] 35)).drew).trans (hb3.mono (by simp))).mono s2)
          have s3 := c3.size
          have t3 : W2.heap.size ≤ W3.heap.size := ((((Below.refl (W2).heap.size (W2)).alloc (Nat.le_refl _) (.cells #[.int .i64 SF, .int .i64 ST] 35)).drew).trans (hb3.mono (by simp))).size
          replace Rx := hide (Rx.out.below hb3 (Nat.le_refl _))
          replace Ry := hide (Ry.out.below hb3 (Nat.le_refl _))
          replace Ts := hide (Ts.out.below hb3 Ts.out.lt)
          clear hb3
          rw [Exy.out.1]
          simp only [errOf, if_true]
          rw [Exy.out.2] at hoxy
          clear Exy
          obtain ⟨xy, hxy⟩ : ∃ xy, xy = comp x y mx nx n := ⟨_, rfl⟩
          rw [← hxy] at hoxy
          have hlxy : xy.length ≤ 8192 := by rw [hxy]; exact comp_len Vx.out Vy.out
          have Vxy := hide (show valid xy mx n = true by rw [hxy]; exact comp_valid Vx.out Vy.out)
          have Qxy := hide hxy
          clear hxy
          have Rxy := hide (Rd.of_own hoxy)
          clear hoxy
          have hm_ := mat_comp Vx.out Vy.out
          rw [← Qxy.out] at hm_
          obtain ⟨hE1, hB1⟩ := bk_is (s := ⟨SF, ST⟩) Vxy.out F0 q1 q2
          rw [hm_] at hB1
          have HE1 := hide hE1
          obtain ⟨⟨⟨aF, aT⟩, ok⟩, hR1⟩ : ∃ y_ : Spn × Bool, y_ = bkRes xy mx n ⟨SF, ST⟩ := ⟨_, rfl⟩
          rw [← hR1] at hB1
          have HR1 := hide hR1.symm
          have HB1 := hide hB1
          obtain ⟨hE2, hB2⟩ := bk_is (s := ⟨SF, ST⟩) Vy.out F0 q1 q2
          have HE2 := hide hE2
          obtain ⟨⟨⟨dF, dT⟩, ok2⟩, hR2⟩ : ∃ y_ : Spn × Bool, y_ = bkRes y nx n ⟨SF, ST⟩ := ⟨_, rfl⟩
          rw [← hR2] at hB2
          have HR2 := hide hR2.symm
          obtain ⟨o0, o1, o2, o3⟩ := hB2.range (mat_asc Vy.out) n0x
          simp only at o0 o1 o2 o3
          have HB2 := hide hB2
          clear hm_ hE1 hB1 hR1 hE2 hB2 hR2
          have y0s := Ts.out.c0
          have y1s := Ts.out.c1
          have hls := Ts.out.lt
          go_wp2_with fail
          refine (back56 _ xy mx n ⟨SF, ST⟩ _ Rxy.out (by omega)).mono ?_
          rintro e W4 ⟨rfl, hb4⟩
          have c4 : Below w.heap.size w W4 := c3.trans (hb4.mono s3)
          have s4 := c4.size
          have t4 : W3.heap.size ≤ W4.heap.size := hb4.size
          replace Rx := hide (Rx.out.below hb4 (Nat.le_refl _))
          replace Ry := hide (Ry.out.below hb4 (Nat.le_refl _))
          replace Rxy := hide (Rxy.out.below hb4 (Nat.le_refl _))
          replace Ts := hide (Ts.out.below hb4 Ts.out.lt)
          clear hb4
          rw [HR1.out, HE1.out]
          unfold spAgg
          clear y0s y1s hls
          have y0s := Ts.out.c0
          have y1s := Ts.out.c1
          have hls := Ts.out.lt
          replace Rx := hide (Rx.out.below ((Below.refl (W4).heap.size (W4)).alloc (Nat.le_refl _) (.cells #[.int .i64 aF, .int .i64 aT] 35)) (Nat.le_refl _))
          replace Ry := hide (Ry.out.below ((Below.refl (W4).heap.size (W4)).alloc (Nat.le_refl _) (.cells #[.int .i64 aF, .int .i64 aT] 35)) (Nat.le_refl _))
          replace Rxy := hide (Rxy.out.below ((Below.refl (W4).heap.size (W4)).alloc (Nat.le_refl _) (.cells #[.int .i64 aF, .int .i64 aT] 35)) (Nat.le_refl _))
          replace Ts := hide (Ts.out.alloc (.cells #[.int .i64 aF, .int .i64 aT] 35))
          have Ta := hide (Two.new (W4) 35 (.int .i64 aF) (.int .i64 aT))
          go_wp2_with fail
          refine (back56 _ y nx n ⟨SF, ST⟩ _ Ry.out (by omega)).mono ?_
          rintro e W5 ⟨rfl, hb5⟩
          have c5 : Below w.heap.size w W5 := c4.trans ((((Below.refl (W4).heap.size (W4)).alloc (Nat.le_refl _) (.cells #[.int .i64 aF, .int .i64 aT] 35)).trans (hb5.mono (by simp))).mono s4)
          have s5 := c5.size
          have t5 : W4.heap.size ≤ W5.heap.size := (((Below.refl (W4).heap.size (W4)).alloc (Nat.le_refl _) (.cells #[.int .i64 aF, .int .i64 aT] 35)).trans (hb5.mono (by simp))).size
          replace Rx := hide (Rx.out.below hb5 (Nat.le_refl _))
          replace Ry := hide (Ry.out.below hb5 (Nat.le_refl _))
          replace Ts := hide (Ts.out.below hb5 Ts.out.lt)
          replace Ta := hide (Ta.out.below hb5 Ta.out.lt)
          clear hb5
          rw [HR2.out, HE2.out]
          unfold spAgg
          clear y0s y1s hls
          replace Rx := hide (Rx.out.below ((Below.refl (W5).heap.size (W5)).alloc (Nat.le_refl _) (.cells #[.int .i64 dF, .int .i64 dT] 35)) (Nat.le_refl _))
          replace Ta := hide (Ta.out.alloc (.cells #[.int .i64 dF, .int .i64 dT] 35))
          have Td := hide (Two.new (W5) 35 (.int .i64 dF) (.int .i64 dT))
          cases ok with
          | false =>
            go_wp2_with fail
            refine (awake54 _).mono ?_
            rintro e w' ⟨rfl, hb⟩
            go_wp2_with fail
            go_ret
            exact ⟨rfl, c5.trans ((((Below.refl (W5).heap.size (W5)).alloc (Nat.le_refl _) (.cells #[.int .i64 dF, .int .i64 dT] 35)).trans (hb.mono (by simp))).mono s5)⟩
          | true =>
            obtain rfl := composed1 HB1.out HB2.out rfl
            have hlt := HB2.out.lt
            have hlt : dF < dT := hlt
            obtain ⟨hE3, hB3⟩ := bk_is (s := ⟨dF, dT⟩) Vx.out o0 hlt o3
            have HE3 := hide hE3
            obtain ⟨⟨⟨eF, eT⟩, ok3⟩, hR3⟩ : ∃ y_ : Spn × Bool, y_ = bkRes x mx nx ⟨dF, dT⟩ := ⟨_, rfl⟩
            rw [← hR3] at hB3
            have HR3 := hide hR3.symm
            obtain ⟨_, _, j1, j2, j3⟩ := composed HB1.out HB2.out hB3 rfl
            simp only at j1 j2 j3
            subst j1
            clear hE3 hB3 hR3
            go_wp2_with fail
            refine (back56 _ x mx nx ⟨dF, dT⟩ _ Rx.out (by omega)).mono ?_
            rintro e W6 ⟨rfl, hb6⟩
            have c6 : Below w.heap.size w W6 := c5.trans ((((Below.refl (W5).heap.size (W5)).alloc (Nat.le_refl _) (.cells #[.int .i64 dF, .int .i64 dT] 35)).trans (hb6.mono (by simp))).mono s5)
            have s6 := c6.size
            have t6 : W5.heap.size ≤ W6.heap.size := (((Below.refl (W5).heap.size (W5)).alloc (Nat.le_refl _) (.cells #[.int .i64 dF, .int .i64 dT] 35)).trans (hb6.mono (by simp))).size
            replace Rx := hide (Rx.out.below hb6 (Nat.le_refl _))
            replace Ta := hide (Ta.out.below hb6 Ta.out.lt)
            replace Td := hide (Td.out.below hb6 Td.out.lt)
            clear hb6
            rw [HR3.out, HE3.out]
            unfold spAgg
            have y0a := Ta.out.c0
            have y1a := Ta.out.c1
            have hla := Ta.out.lt
            replace Ta := hide (Ta.out.alloc (.cells #[.int .i64 eF, .int .i64 eT] 35))
            replace Td := hide (Td.out.alloc (.cells #[.int .i64 eF, .int .i64 eT] 35))
            have Te := hide (Two.new (W6) 35 (.int .i64 eF) (.int .i64 eT))
            go_wp2_with fail
            refine (awake54 _).mono ?_
            rintro e W7 ⟨rfl, hb7⟩
            have c7 : Below w.heap.size w W7 := c6.trans ((((Below.refl (W6).heap.size (W6)).alloc (Nat.le_refl _) (.cells #[.int .i64 eF, .int .i64 eT] 35)).trans (hb7.mono (by simp))).mono s6)
            have s7 := c7.size
            have t7 : W6.heap.size ≤ W7.heap.size := (((Below.refl (W6).heap.size (W6)).alloc (Nat.le_refl _) (.cells #[.int .i64 eF, .int .i64 eT] 35)).trans (hb7.mono (by simp))).size
            replace Ta := hide (Ta.out.below hb7 Ta.out.lt)
            replace Td := hide (Td.out.below hb7 Td.out.lt)
            replace Te := hide (Te.out.below hb7 Te.out.lt)
            clear hb7
            go_wp2_with fail
            go_ret
            exact ⟨rfl, c7⟩
end Go.Proofs.Ytagembkjmnfidaa
