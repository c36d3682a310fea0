import Derived.Test.YtagembkjmnfidaaTrkE
import Derived.Test.YtagembkjmnfidaaOpenB
namespace Go.Proofs.Ytagembkjmnfidaa
open Go.RowKit
open Go.Proofs.Ml
set_option linter.unusedVariables false

set_option maxRecDepth 100000 in
set_option maxHeartbeats 3200000 in
theorem walk14 (w : World) (v0 : Value) (z0 : List Int) (r0 : Rd w v0 1 z0.length (inVals z0)) (b0 : z0.length ≤ 9223372036854775807) (a1 : Int) (b1 : -9223372036854775808 ≤ a1 ∧ a1 ≤ 9223372036854775807) (a2 : Int) (b2 : -9223372036854775808 ≤ a2 ∧ a2 ≤ 9223372036854775807) (free : Spn) (v4 : Value) (l : List Chg) (r4 : Rd w v4 4 l.length (chVals l)) (b4 : l.length ≤ 9223372036854775807)
    (p : Int) (b5 : -9223372036854775808 ≤ p ∧ p ≤ 9223372036854775807) (q : Int) (b6 : -9223372036854775808 ≤ q ∧ q ≤ 9223372036854775807) :
    Calls Try.prog 14 #[v0, .int .i64 a1, .int .i64 a2, spAgg free, v4, .int .i64 p, .int .i64 q] w fun e w' => e = .returned (.bool true) ∧ Below w.heap.size w w' := by
  have H0 := hide r0
  have H4 := hide r4
  clear r0 b1 b2 b5 b6
  obtain ⟨A4, cap4, rfl, _, _, _, _⟩ := r4
  obtain ⟨T3, hT3⟩ : ∃ T, T = tcRes l p q free := ⟨_, rfl⟩
  obtain ⟨E3, hE3⟩ : ∃ E, E = tkErr l p q free := ⟨_, rfl⟩
  have HT3 := hide hT3.symm
  have HE3 := hide hE3.symm
  clear hT3 hE3
  obtain ⟨fF, fT⟩ := free
  unfold spAgg
  by_cases hx : 8 < l.length
  · go_enter Try.func14, Try.ntmps14
    go_wp2_with fail
    refine (awake54 _).mono ?_
    rintro e w' ⟨rfl, hb⟩
    go_wp2_with fail
    go_ret
    exact ⟨rfl, ((Below.refl _ _).alloc (Nat.le_refl _) _).trans (hb.mono (by simp))⟩
  have hl8 : l.length ≤ 8 := by omega
  clear hx b4
  replace H0 := hide (H0.out.below ((Below.refl (w).heap.size (w)).alloc (Nat.le_refl _) (.cells #[.int .i64 fF, .int .i64 fT] 35)) (Nat.le_refl _))
  replace H4 := hide (H4.out.below ((Below.refl (w).heap.size (w)).alloc (Nat.le_refl _) (.cells #[.int .i64 fF, .int .i64 fT] 35)) (Nat.le_refl _))
  have Tf := hide (Two.new (w) 35 (.int .i64 fF) (.int .i64 fT))
  go_enter Try.func14, Try.ntmps14
  go_wp2_with fail
  refine (pick55 _ z0 a1 a2 _ H0.out b0).mono ?_
  rintro e W1 ⟨vx, x, mx, nx, ⟨SF, ST⟩, rfl, hvalx, hmx, hnx, hlx, hspx, hox, hb1⟩
  have c1 : Below w.heap.size w W1 := (((Below.refl (w).heap.size (w)).alloc (Nat.le_refl _) (.cells #[.int .i64 fF, .int .i64 fT] 35)).trans (hb1.mono (by simp)))
  have s1 := c1.size
  replace H0 := hide (H0.out.below hb1 (Nat.le_refl _))
  replace H4 := hide (H4.out.below hb1 (Nat.le_refl _))
  replace Tf := hide (Tf.out.below hb1 Tf.out.lt)
  clear hb1
  have Rx := hide (Rd.of_own hox)
  have Vx := hide hvalx
  have hv_ := valid_iff.1 hvalx
  obtain ⟨m0x, m1x⟩ := hv_.1
  obtain ⟨n0x, n1x⟩ := hv_.2.1
  clear hvalx hox hv_
  simp only at hspx
  unfold spAgg
  replace H4 := hide (H4.out.below ((Below.refl (W1).heap.size (W1)).alloc (Nat.le_refl _) (.cells #[.int .i64 SF, .int .i64 ST] 35)) (Nat.le_refl _))
  replace Rx := hide (Rx.out.below ((Below.refl (W1).heap.size (W1)).alloc (Nat.le_refl _) (.cells #[.int .i64 SF, .int .i64 ST] 35)) (Nat.le_refl _))
  replace Tf := hide (Tf.out.alloc (.cells #[.int .i64 SF, .int .i64 ST] 35))
  have Ts := hide (Two.new (W1) 35 (.int .i64 SF) (.int .i64 ST))
  obtain ⟨R1, hR1⟩ : ∃ y_ : Spn × Bool, y_ = bkRes x mx nx ⟨SF, ST⟩ := ⟨_, rfl⟩
  have HR1 := hide hR1.symm
  clear hR1
  obtain ⟨⟨aF, aT⟩, ab⟩ := R1
  obtain ⟨E1, hE1⟩ : ∃ y_ : Int, y_ = tkErr x mx nx ⟨SF, ST⟩ := ⟨_, rfl⟩
  have HE1 := hide hE1.symm
  clear hE1
  obtain ⟨T1, hT1⟩ : ∃ y_ : Bool, y_ = tcRes x mx nx ⟨SF, ST⟩ := ⟨_, rfl⟩
  have HT1 := hide hT1.symm
  clear hT1
  obtain ⟨R2, hR2⟩ : ∃ y_ : Spn × Bool, y_ = bkRes x mx nx ⟨fF, fT⟩ := ⟨_, rfl⟩
  have HR2 := hide hR2.symm
  clear hR2
  obtain ⟨⟨cF, cT⟩, cb⟩ := R2
  obtain ⟨E2, hE2⟩ : ∃ y_ : Int, y_ = tkErr x mx nx ⟨fF, fT⟩ := ⟨_, rfl⟩
  have HE2 := hide hE2.symm
  clear hE2
  go_wp2_with fail
  refine (back56 _ x mx nx ⟨SF, ST⟩ _ Rx.out (by omega)).mono ?_
  rintro e W2 ⟨rfl, hb2⟩
  have c2 : Below w.heap.size w W2 := c1.trans ((((Below.refl (W1).heap.size (W1)).alloc (Nat.le_refl _) (.cells #[.int .i64 SF, .int .i64 ST] 35)).trans (hb2.mono (by simp))).mono s1)
  have s2 := c2.size
  have t2 : W1.heap.size ≤ W2.heap.size := (((Below.refl (W1).heap.size (W1)).alloc (Nat.le_refl _) (.cells #[.int .i64 SF, .int .i64 ST] 35)).trans (hb2.mono (by simp))).size
  replace H4 := hide (H4.out.below hb2 (Nat.le_refl _))
  replace Rx := hide (Rx.out.below hb2 (Nat.le_refl _))
  replace Tf := hide (Tf.out.below hb2 Tf.out.lt)
  replace Ts := hide (Ts.out.below hb2 Ts.out.lt)
  clear hb2
  rw [HR1.out, HE1.out]
  unfold spAgg
  have y0s := Ts.out.c0
  have y1s := Ts.out.c1
  have hls := Ts.out.lt
  have y0f := Tf.out.c0
  have y1f := Tf.out.c1
  have hlf := Tf.out.lt
  replace H4 := hide (H4.out.below ((Below.refl (W2).heap.size (W2)).alloc (Nat.le_refl _) (.cells #[.int .i64 aF, .int .i64 aT] 35)) (Nat.le_refl _))
  replace Rx := hide (Rx.out.below ((Below.refl (W2).heap.size (W2)).alloc (Nat.le_refl _) (.cells #[.int .i64 aF, .int .i64 aT] 35)) (Nat.le_refl _))
  replace Tf := hide (Tf.out.alloc (.cells #[.int .i64 aF, .int .i64 aT] 35))
  replace Ts := hide (Ts.out.alloc (.cells #[.int .i64 aF, .int .i64 aT] 35))
  have Ta := hide (Two.new (W2) 35 (.int .i64 aF) (.int .i64 aT))
  go_wp2_with fail
  refine (back57 _ x mx nx ⟨SF, ST⟩ _ Rx.out (by omega)).mono ?_
  rintro e W3 ⟨rfl, hb3⟩
  have c3 : Below w.heap.size w W3 := c2.trans ((((Below.refl (W2).heap.size (W2)).alloc (Nat.le_refl _) (.cells #[.int .i64 aF, .int .i64 aT] 35)).trans (hb3.mono (by simp))).mono s2)
  have s3 := c3.size
  have t3 : W2.heap.size ≤ W3.heap.size := (((Below.refl (W2).heap.size (W2)).alloc (Nat.le_refl _) (.cells #[.int .i64 aF, .int .i64 aT] 35)).trans (hb3.mono (by simp))).size
  replace H4 := hide (H4.out.below hb3 (Nat.le_refl _))
  replace Rx := hide (Rx.out.below hb3 (Nat.le_refl _))
  replace Tf := hide (Tf.out.below hb3 Tf.out.lt)
  replace Ts := hide (Ts.out.below hb3 Ts.out.lt)
  replace Ta := hide (Ta.out.below hb3 Ta.out.lt)
  clear hb3
  rw [HR1.out, HE1.out]
  unfold spAgg
  clear y0s y1s hls
  clear y0f y1f hlf
  have y0s := Ts.out.c0
  have y1s := Ts.out.c1
  have hls := Ts.out.lt
  have y0f := Tf.out.c0
  have y1f := Tf.out.c1
  have hlf := Tf.out.lt
  replace H4 := hide (H4.out.below ((Below.refl (W3).heap.size (W3)).alloc (Nat.le_refl _) (.cells #[.int .i64 aF, .int .i64 aT] 35)) (Nat.le_refl _))
  replace Rx := hide (Rx.out.below ((Below.refl (W3).heap.size (W3)).alloc (Nat.le_refl _) (.cells #[.int .i64 aF, .int .i64 aT] 35)) (Nat.le_refl _))
  replace Tf := hide (Tf.out.alloc (.cells #[.int .i64 aF, .int .i64 aT] 35))
  replace Ts := hide (Ts.out.alloc (.cells #[.int .i64 aF, .int .i64 aT] 35))
  replace Ta := hide (Ta.out.alloc (.cells #[.int .i64 aF, .int .i64 aT] 35))
  have Tb := hide (Two.new (W3) 35 (.int .i64 aF) (.int .i64 aT))
  go_wp2_with fail
  refine (touch58 _ x mx nx ⟨SF, ST⟩ _ Rx.out (by omega)).mono ?_
  rintro e W4 ⟨rfl, hb4⟩
  have c4 : Below w.heap.size w W4 := c3.trans ((((Below.refl (W3).heap.size (W3)).alloc (Nat.le_refl _) (.cells #[.int .i64 aF, .int .i64 aT] 35)).trans (hb4.mono (by simp))).mono s3)
  have s4 := c4.size
  have t4 : W3.heap.size ≤ W4.heap.size := (((Below.refl (W3).heap.size (W3)).alloc (Nat.le_refl _) (.cells #[.int .i64 aF, .int .i64 aT] 35)).trans (hb4.mono (by simp))).size
  replace H4 := hide (H4.out.below hb4 (Nat.le_refl _))
  replace Rx := hide (Rx.out.below hb4 (Nat.le_refl _))
  replace Tf := hide (Tf.out.below hb4 Tf.out.lt)
  replace Ts := hide (Ts.out.below hb4 Ts.out.lt)
  replace Ta := hide (Ta.out.below hb4 Ta.out.lt)
  replace Tb := hide (Tb.out.below hb4 Tb.out.lt)
  clear hb4
  rw [HT1.out, HE1.out]
  clear y0s y1s hls
  clear y0f y1f hlf
  have y0s := Ts.out.c0
  have y1s := Ts.out.c1
  have hls := Ts.out.lt
  have y0f := Tf.out.c0
  have y1f := Tf.out.c1
  have hlf := Tf.out.lt
  go_wp2_with fail
  refine (touch59 _ x mx nx ⟨SF, ST⟩ _ Rx.out (by omega)).mono ?_
  rintro e W5 ⟨rfl, hb5⟩
  have c5 : Below w.heap.size w W5 := c4.trans (hb5.mono s4)
  have s5 := c5.size
  have t5 : W4.heap.size ≤ W5.heap.size := hb5.size
  replace H4 := hide (H4.out.below hb5 (Nat.le_refl _))
  replace Rx := hide (Rx.out.below hb5 (Nat.le_refl _))
  replace Tf := hide (Tf.out.below hb5 Tf.out.lt)
  replace Ts := hide (Ts.out.below hb5 Ts.out.lt)
  replace Ta := hide (Ta.out.below hb5 Ta.out.lt)
  replace Tb := hide (Tb.out.below hb5 Tb.out.lt)
  clear hb5
  rw [HT1.out, HE1.out]
  clear y0s y1s hls
  clear y0f y1f hlf
  have y0f := Tf.out.c0
  have y1f := Tf.out.c1
  have hlf := Tf.out.lt
  go_wp2_with fail
  refine (back56 _ x mx nx ⟨fF, fT⟩ _ Rx.out (by omega)).mono ?_
  rintro e W6 ⟨rfl, hb6⟩
  have c6 : Below w.heap.size w W6 := c5.trans (hb6.mono s5)
  have s6 := c6.size
  have t6 : W5.heap.size ≤ W6.heap.size := hb6.size
  replace H4 := hide (H4.out.below hb6 (Nat.le_refl _))
  replace Rx := hide (Rx.out.below hb6 (Nat.le_refl _))
  replace Tf := hide (Tf.out.below hb6 Tf.out.lt)
  replace Ta := hide (Ta.out.below hb6 Ta.out.lt)
  replace Tb := hide (Tb.out.below hb6 Tb.out.lt)
  clear hb6
  rw [HR2.out, HE2.out]
  unfold spAgg
  clear y0f y1f hlf
  have y0f := Tf.out.c0
  have y1f := Tf.out.c1
  have hlf := Tf.out.lt
  replace H4 := hide (H4.out.below ((Below.refl (W6).heap.size (W6)).alloc (Nat.le_refl _) (.cells #[.int .i64 cF, .int .i64 cT] 35)) (Nat.le_refl _))
  replace Rx := hide (Rx.out.below ((Below.refl (W6).heap.size (W6)).alloc (Nat.le_refl _) (.cells #[.int .i64 cF, .int .i64 cT] 35)) (Nat.le_refl _))
  replace Tf := hide (Tf.out.alloc (.cells #[.int .i64 cF, .int .i64 cT] 35))
  replace Ta := hide (Ta.out.alloc (.cells #[.int .i64 cF, .int .i64 cT] 35))
  replace Tb := hide (Tb.out.alloc (.cells #[.int .i64 cF, .int .i64 cT] 35))
  have Tc := hide (Two.new (W6) 35 (.int .i64 cF) (.int .i64 cT))
  go_wp2_with fail
  refine (back57 _ x mx nx ⟨fF, fT⟩ _ Rx.out (by omega)).mono ?_
  rintro e W7 ⟨rfl, hb7⟩
  have c7 : Below w.heap.size w W7 := c6.trans ((((Below.refl (W6).heap.size (W6)).alloc (Nat.le_refl _) (.cells #[.int .i64 cF, .int .i64 cT] 35)).trans (hb7.mono (by simp))).mono s6)
  have s7 := c7.size
  have t7 : W6.heap.size ≤ W7.heap.size := (((Below.refl (W6).heap.size (W6)).alloc (Nat.le_refl _) (.cells #[.int .i64 cF, .int .i64 cT] 35)).trans (hb7.mono (by simp))).size
  replace H4 := hide (H4.out.below hb7 (Nat.le_refl _))
  replace Rx := hide (Rx.out.below hb7 (Nat.le_refl _))
  replace Tf := hide (Tf.out.below hb7 Tf.out.lt)
  replace Ta := hide (Ta.out.below hb7 Ta.out.lt)
  replace Tb := hide (Tb.out.below hb7 Tb.out.lt)
  replace Tc := hide (Tc.out.below hb7 Tc.out.lt)
  clear hb7
  rw [HR2.out, HE2.out]
  unfold spAgg
  clear y0f y1f hlf
  have y0f := Tf.out.c0
  have y1f := Tf.out.c1
  have hlf := Tf.out.lt
  replace H4 := hide (H4.out.below ((Below.refl (W7).heap.size (W7)).alloc (Nat.le_refl _) (.cells #[.int .i64 cF, .int .i64 cT] 35)) (Nat.le_refl _))
  replace Rx := hide (Rx.out.below ((Below.refl (W7).heap.size (W7)).alloc (Nat.le_refl _) (.cells #[.int .i64 cF, .int .i64 cT] 35)) (Nat.le_refl _))
  replace Tf := hide (Tf.out.alloc (.cells #[.int .i64 cF, .int .i64 cT] 35))
  replace Ta := hide (Ta.out.alloc (.cells #[.int .i64 cF, .int .i64 cT] 35))
  replace Tb := hide (Tb.out.alloc (.cells #[.int .i64 cF, .int .i64 cT] 35))
  replace Tc := hide (Tc.out.alloc (.cells #[.int .i64 cF, .int .i64 cT] 35))
  have Td := hide (Two.new (W7) 35 (.int .i64 cF) (.int .i64 cT))
  go_wp2_with fail
  refine (touch58 _ l p q ⟨fF, fT⟩ _ H4.out (by omega)).mono ?_
  rintro e W8 ⟨rfl, hb8⟩
  have c8 : Below w.heap.size w W8 := c7.trans ((((Below.refl (W7).heap.size (W7)).alloc (Nat.le_refl _) (.cells #[.int .i64 cF, .int .i64 cT] 35)).trans (hb8.mono (by simp))).mono s7)
  have s8 := c8.size
  have t8 : W7.heap.size ≤ W8.heap.size := (((Below.refl (W7).heap.size (W7)).alloc (Nat.le_refl _) (.cells #[.int .i64 cF, .int .i64 cT] 35)).trans (hb8.mono (by simp))).size
  replace H4 := hide (H4.out.below hb8 (Nat.le_refl _))
  replace Rx := hide (Rx.out.below hb8 (Nat.le_refl _))
  replace Tf := hide (Tf.out.below hb8 Tf.out.lt)
  replace Ta := hide (Ta.out.below hb8 Ta.out.lt)
  replace Tb := hide (Tb.out.below hb8 Tb.out.lt)
  replace Tc := hide (Tc.out.below hb8 Tc.out.lt)
  replace Td := hide (Td.out.below hb8 Td.out.lt)
  clear hb8
  rw [HT3.out, HE3.out]
  clear y0f y1f hlf
  have y0f := Tf.out.c0
  have y1f := Tf.out.c1
  have hlf := Tf.out.lt
  go_wp2_with fail
  refine (touch59 _ l p q ⟨fF, fT⟩ _ H4.out (by omega)).mono ?_
  rintro e W9 ⟨rfl, hb9⟩
  have c9 : Below w.heap.size w W9 := c8.trans (hb9.mono s8)
  have s9 := c9.size
  have t9 : W8.heap.size ≤ W9.heap.size := hb9.size
  replace H4 := hide (H4.out.below hb9 (Nat.le_refl _))
  replace Rx := hide (Rx.out.below hb9 (Nat.le_refl _))
  replace Tf := hide (Tf.out.below hb9 Tf.out.lt)
  replace Ta := hide (Ta.out.below hb9 Ta.out.lt)
  replace Tb := hide (Tb.out.below hb9 Tb.out.lt)
  replace Tc := hide (Tc.out.below hb9 Tc.out.lt)
  replace Td := hide (Td.out.below hb9 Td.out.lt)
  clear hb9
  rw [HT3.out, HE3.out]
  clear y0f y1f hlf
  have y0a := Ta.out.c0
  have y1a := Ta.out.c1
  have hla := Ta.out.lt
  have y0b := Tb.out.c0
  have y1b := Tb.out.c1
  have hlb := Tb.out.lt
  have y0c := Tc.out.c0
  have y1c := Tc.out.c1
  have hlc := Tc.out.lt
  have y0d := Td.out.c0
  have y1d := Td.out.c1
  have hld := Td.out.lt
  go_wp2_with fail
  refine (awake54 _).mono ?_
  rintro e W10 ⟨rfl, hb10⟩
  have c10 : Below w.heap.size w W10 := c9.trans (hb10.mono s9)
  have s10 := c10.size
  have t10 : W9.heap.size ≤ W10.heap.size := hb10.size
  replace Ta := hide (Ta.out.below hb10 Ta.out.lt)
  replace Tb := hide (Tb.out.below hb10 Tb.out.lt)
  replace Tc := hide (Tc.out.below hb10 Tc.out.lt)
  replace Td := hide (Td.out.below hb10 Td.out.lt)
  clear hb10
  go_wp2_with fail
  go_ret
  exact ⟨rfl, c10⟩
end Go.Proofs.Ytagembkjmnfidaa
