import Derived.Test.YtagembkjmnfidaaTrkE
import Derived.Test.YtagembkjmnfidaaSpecN
import Derived.Test.YtagembkjmnfidaaBaseL
import Derived.Deep.DeepCutAuto
namespace Go.Proofs.Ytagembkjmnfidaa
open Go.RowKit
open Go.Proofs.Ml
set_option linter.unusedVariables false

set_option maxRecDepth 100000 in
set_option maxHeartbeats 0 in
theorem walk18 (w : World) (v0 : Value) (z0 : List Int) (r0 : Rd w v0 1 z0.length (inVals z0)) (b0 : z0.length ≤ 9223372036854775807) (a1 : Int) (b1 : -9223372036854775808 ≤ a1 ∧ a1 ≤ 9223372036854775807) (a2 : Int) (b2 : -9223372036854775808 ≤ a2 ∧ a2 ≤ 9223372036854775807) (a3 : Int) (b3 : -9223372036854775808 ≤ a3 ∧ a3 ≤ 9223372036854775807) :
    Calls Try.prog 18 #[v0, .int .i64 a1, .int .i64 a2, .int .i64 a3] w fun e w' => e = .returned (.bool true) ∧ Below w.heap.size w w' := by
  have H0 := hide r0
  clear r0 b1 b2
  go_enter Try.func18, Try.ntmps18
  go_wp2_with fail
  refine (pick55 _ z0 a1 a2 _ H0.out b0).mono ?_
  rintro e W1 ⟨vx, x, mx, nx, ⟨SF, ST⟩, rfl, hvalx, hmx, hnx, hlx, hspx, hox, hb1⟩
  have c1 : Below w.heap.size w W1 := hb1
  have s1 := c1.size
  replace H0 := hide (H0.out.below hb1 (Nat.le_refl _))
  clear hb1
  have Rx := hide (Rd.of_own hox)
  have Vx := hide hvalx
  have hv_ := valid_iff.1 hvalx
  obtain ⟨m0x, m1x⟩ := hv_.1
  obtain ⟨n0x, n1x⟩ := hv_.2.1
  clear hvalx hox hv_
  simp only at hspx
  unfold spAgg
  replace Rx := hide (Rx.out.below ((Below.refl (W1).heap.size (W1)).alloc (Nat.le_refl _) (.cells #[.int .i64 SF, .int .i64 ST] 35)) (Nat.le_refl _))
  have Ts := hide (Two.new (W1) 35 (.int .i64 SF) (.int .i64 ST))
  by_cases hn0 : nx = 0
  · subst hn0
    go_wp2_with fail
    refine (awake54 _).mono ?_
    rintro e w' ⟨rfl, hb⟩
    go_wp2_with fail
    go_ret
    exact ⟨rfl, c1.trans ((((Below.refl (W1).heap.size (W1)).alloc (Nat.le_refl _) (.cells #[.int .i64 SF, .int .i64 ST] 35)).trans (hb.mono (by simp))).mono s1)⟩
  have hE : ((nx == 0) : Bool) = false := by simp [hn0]
  obtain ⟨q0, q1, q2⟩ : 0 ≤ SF ∧ SF < ST ∧ ST ≤ nx := by omega
  clear hn0 hspx
  obtain ⟨hE1, hB1⟩ := bk_is (s := ⟨SF, ST⟩) Vx.out q0 q1 q2
  have HE1 := hide hE1
  clear hE1
  obtain ⟨R1, hR1⟩ : ∃ y_ : Spn × Bool, y_ = bkRes x mx nx ⟨SF, ST⟩ := ⟨_, rfl⟩
  rw [← hR1] at hB1
  have HR1 := hide hR1.symm
  clear hR1
  obtain ⟨⟨aF, aT⟩, ok⟩ := R1
  obtain ⟨o0, o1, o2, o3⟩ := hB1.range (mat_asc Vx.out) m0x
  simp only at o0 o1 o2 o3
  have HB1 := hide hB1
  clear hB1
  have HM1 := hide (fun W => mod29 a3 (SF + 1) W (by omega) (by omega))
  obtain ⟨p0, p1⟩ := gmod_range a3 (SF + 1) (by omega) (by omega)
  generalize gmod a3 (SF + 1) = M1 at *
  have HM2 := hide (fun W => mod29 a3 (nx - ST + 1) W (by omega) (by omega))
  obtain ⟨p2, p3⟩ := gmod_range a3 (nx - ST + 1) (by omega) (by omega)
  generalize gmod a3 (nx - ST + 1) = M2 at *
  obtain ⟨WT, hWT⟩ : ∃ y_, y_ = ST + M2 := ⟨_, rfl⟩
  have u1 : ST ≤ WT := by omega
  have u2 : WT ≤ nx := by omega
  have u3 : M1 ≤ SF := by omega
  obtain ⟨hE2, hB2⟩ := bk_is (s := ⟨M1, WT⟩) Vx.out p0 (by show M1 < WT; omega) u2
  have HE2 := hide hE2
  clear hE2
  obtain ⟨R2, hR2⟩ : ∃ y_ : Spn × Bool, y_ = bkRes x mx nx ⟨M1, WT⟩ := ⟨_, rfl⟩
  rw [← hR2] at hB2
  have HR2 := hide hR2.symm
  clear hR2
  obtain ⟨⟨bF, bT⟩, ok2⟩ := R2
  have hG := fun h => HB1.out.grows hB2 (by show M1 ≤ SF; omega) (by show ST ≤ WT; omega) h
  have HG := hide hG
  clear hG hB2
  obtain ⟨k1_, hk1, ht1⟩ := tc_is (s := ⟨SF, ST⟩) Vx.out q0 q1 q2
  obtain ⟨k2_, hk2, ht2⟩ := tc_is (s := ⟨M1, WT⟩) Vx.out p0 (by show M1 < WT; omega) u2
  simp only at hk1 hk2 ht1 ht2
  obtain ⟨T1, hT1⟩ : ∃ y_ : Bool, y_ = tcRes x mx nx ⟨SF, ST⟩ := ⟨_, rfl⟩
  obtain ⟨T2, hT2⟩ : ∃ y_ : Bool, y_ = tcRes x mx nx ⟨M1, WT⟩ := ⟨_, rfl⟩
  have HTG := hide (show T1 = true → T2 = true from fun h => by rw [hT2, ht2]; rw [hT1, ht1] at h; exact tch_grows u3 (by omega) h)
  have HT1 := hide hT1.symm
  have HT2 := hide hT2.symm
  clear hk1 ht1 hk2 ht2 hT1 hT2
  have e1 := IntWalk.i64_in (SF + 1) (by omega)
  have e2 := IntWalk.i64_in (nx - ST) (by omega)
  have e3 := IntWalk.i64_in (nx - ST + 1) (by omega)
  have e4 : IntKind.i64.wrap (ST + M2) = WT := by rw [IntWalk.i64_in _ (by omega)]; exact hWT.symm
  clear hWT
  go_upto_region 4 with fail
  obtain ⟨WX, hWX⟩ : ∃ y_, y_ = (W1).alloc (.cells #[.int .i64 SF, .int .i64 ST] 35) := ⟨_, rfl⟩
  have cX : Below w.heap.size w WX := by rw [hWX]; exact c1.trans (((Below.refl (W1).heap.size (W1)).alloc (Nat.le_refl _) (.cells #[.int .i64 SF, .int .i64 ST] 35)).mono s1)
  have sX := cX.size
  have lX : W1.heap.size < WX.heap.size := by rw [hWX]; simp
  rw [← hWX] at Rx Ts
  rw [← hWX]
  clear hWX
  go_cut [13] (fun s13 wx => s13 = .pointer (some ⟨WX.heap.size, 0, none⟩) ∧ wx = (WX.alloc (.cells #[.int .i64 M1, .int .i64 WT] 35)).drew)
  case first =>
    clear HG HTG HB1 HR1 HR2 HE1 HE2 HT1 HT2 Vx Rx c1 s1 cX sX
    have y0 := Ts.out.c0
    have y1 := Ts.out.c1
    clear Ts
    go_region_with (first | (go_at_call 29; (with_reducible refine (HM1.out _).mono ?_); rintro e w' ⟨rfl, rfl⟩) | (go_at_call 29; (with_reducible refine (HM2.out _).mono ?_); rintro e w' ⟨rfl, rfl⟩))
    all_goals (go_wp2_with fail; go_meet; exact ⟨rfl, rfl⟩)
  case rest =>
    obtain ⟨rfl, rfl⟩ := hcut
    clear HM1 HM2 e1 e2 e3 e4
    replace Rx := hide (Rx.out.below ((Below.refl (WX).heap.size (WX)).alloc (Nat.le_refl _) (.cells #[.int .i64 M1, .int .i64 WT] 35)) (Nat.le_refl _))
    replace Ts := hide (Ts.out.alloc (.cells #[.int .i64 M1, .int .i64 WT] 35))
    have Tw2 := hide (Two.new (WX) 35 (.int .i64 M1) (.int .i64 WT))
    replace Rx := hide (Rx.out.below (Below.refl ((WX).alloc (.cells #[.int .i64 M1, .int .i64 WT] 35)).heap.size ((WX).alloc (.cells #[.int .i64 M1, .int .i64 WT] 35))).drew (Nat.le_refl _))
    replace Ts := hide Ts.out.drew
    replace Tw2 := hide Tw2.out.drew
    have y0s := Ts.out.c0
    have y1s := Ts.out.c1
    have hls := Ts.out.lt
    have y0w2 := Tw2.out.c0
    have y1w2 := Tw2.out.c1
    have hlw2 := Tw2.out.lt
    go_wp2_with fail
    refine (back56 _ x mx nx ⟨SF, ST⟩ _ Rx.out (by omega)).mono ?_
    rintro e W2 ⟨rfl, hb2⟩
    have c2 : Below w.heap.size w W2 := cX.trans (((((Below.refl (WX).heap.size (WX)).alloc (Nat.le_refl _) (.cells #[.int .i64 M1, .int .i64 WT] 35)).drew).trans (hb2.mono (by simp))).mono sX)
    have s2 := c2.size
    have t2 : WX.heap.size ≤ W2.heap.size := ((((Below.refl (WX).heap.size (WX)).alloc (Nat.le_refl _) (.cells #[.int .i64 M1, .int .i64 WT] 35)).drew).trans (hb2.mono (by simp))).size
    replace Rx := hide (Rx.out.below hb2 (Nat.le_refl _))
    replace Ts := hide (Ts.out.below hb2 Ts.out.lt)
    replace Tw2 := hide (Tw2.out.below hb2 Tw2.out.lt)
    clear hb2
    rw [HR1.out, HE1.out]
    unfold spAgg
    clear y0s y1s hls
    clear y0w2 y1w2 hlw2
    replace Rx := hide (Rx.out.below ((Below.refl (W2).heap.size (W2)).alloc (Nat.le_refl _) (.cells #[.int .i64 aF, .int .i64 aT] 35)) (Nat.le_refl _))
    replace Ts := hide (Ts.out.alloc (.cells #[.int .i64 aF, .int .i64 aT] 35))
    replace Tw2 := hide (Tw2.out.alloc (.cells #[.int .i64 aF, .int .i64 aT] 35))
    have Ta := hide (Two.new (W2) 35 (.int .i64 aF) (.int .i64 aT))
    have y0s := Ts.out.c0
    have y1s := Ts.out.c1
    have hls := Ts.out.lt
    have y0w2 := Tw2.out.c0
    have y1w2 := Tw2.out.c1
    have hlw2 := Tw2.out.lt
    go_wp2_with fail
    refine (back56 _ x mx nx ⟨M1, WT⟩ _ Rx.out (by omega)).mono ?_
    rintro e W3 ⟨rfl, hb3⟩
    have c3 : Below w.heap.size w W3 := c2.trans ((((Below.refl (W2).heap.size (W2)).alloc (Nat.le_refl _) (.cells #[.int .i64 aF, .int .i64 aT] 35)).trans (hb3.mono (by simp))).mono s2)
    have s3 := c3.size
    have t3 : W2.heap.size ≤ W3.heap.size := (((Below.refl (W2).heap.size (W2)).alloc (Nat.le_refl _) (.cells #[.int .i64 aF, .int .i64 aT] 35)).trans (hb3.mono (by simp))).size
    replace Rx := hide (Rx.out.below hb3 (Nat.le_refl _))
    replace Ts := hide (Ts.out.below hb3 Ts.out.lt)
    replace Tw2 := hide (Tw2.out.below hb3 Tw2.out.lt)
    replace Ta := hide (Ta.out.below hb3 Ta.out.lt)
    clear hb3
    rw [HR2.out, HE2.out]
    unfold spAgg
    clear y0s y1s hls
    clear y0w2 y1w2 hlw2
    replace Rx := hide (Rx.out.below ((Below.refl (W3).heap.size (W3)).alloc (Nat.le_refl _) (.cells #[.int .i64 bF, .int .i64 bT] 35)) (Nat.le_refl _))
    replace Ts := hide (Ts.out.alloc (.cells #[.int .i64 bF, .int .i64 bT] 35))
    replace Tw2 := hide (Tw2.out.alloc (.cells #[.int .i64 bF, .int .i64 bT] 35))
    replace Ta := hide (Ta.out.alloc (.cells #[.int .i64 bF, .int .i64 bT] 35))
    have Tb := hide (Two.new (W3) 35 (.int .i64 bF) (.int .i64 bT))
    have y0s := Ts.out.c0
    have y1s := Ts.out.c1
    have hls := Ts.out.lt
    have y0w2 := Tw2.out.c0
    have y1w2 := Tw2.out.c1
    have hlw2 := Tw2.out.lt
    go_wp2_with fail
    refine (touch58 _ x mx nx ⟨SF, ST⟩ _ Rx.out (by omega)).mono ?_
    rintro e W4 ⟨rfl, hb4⟩
    have c4 : Below w.heap.size w W4 := c3.trans ((((Below.refl (W3).heap.size (W3)).alloc (Nat.le_refl _) (.cells #[.int .i64 bF, .int .i64 bT] 35)).trans (hb4.mono (by simp))).mono s3)
    have s4 := c4.size
    have t4 : W3.heap.size ≤ W4.heap.size := (((Below.refl (W3).heap.size (W3)).alloc (Nat.le_refl _) (.cells #[.int .i64 bF, .int .i64 bT] 35)).trans (hb4.mono (by simp))).size
    replace Rx := hide (Rx.out.below hb4 (Nat.le_refl _))
    replace Ts := hide (Ts.out.below hb4 Ts.out.lt)
    replace Tw2 := hide (Tw2.out.below hb4 Tw2.out.lt)
    replace Ta := hide (Ta.out.below hb4 Ta.out.lt)
    replace Tb := hide (Tb.out.below hb4 Tb.out.lt)
    clear hb4
    rw [HT1.out, HE1.out]
    clear y0s y1s hls
    clear y0w2 y1w2 hlw2
    have y0s := Ts.out.c0
    have y1s := Ts.out.c1
    have hls := Ts.out.lt
    have y0w2 := Tw2.out.c0
    have y1w2 := Tw2.out.c1
    have hlw2 := Tw2.out.lt
    go_wp2_with fail
    refine (touch58 _ x mx nx ⟨M1, WT⟩ _ Rx.out (by omega)).mono ?_
    rintro e W5 ⟨rfl, hb5⟩
    have c5 : Below w.heap.size w W5 := c4.trans (hb5.mono s4)
    have s5 := c5.size
    have t5 : W4.heap.size ≤ W5.heap.size := hb5.size
    replace Rx := hide (Rx.out.below hb5 (Nat.le_refl _))
    replace Ts := hide (Ts.out.below hb5 Ts.out.lt)
    replace Tw2 := hide (Tw2.out.below hb5 Tw2.out.lt)
    replace Ta := hide (Ta.out.below hb5 Ta.out.lt)
    replace Tb := hide (Tb.out.below hb5 Tb.out.lt)
    clear hb5
    rw [HT2.out, HE2.out]
    clear y0s y1s hls
    clear y0w2 y1w2 hlw2
    have y0a := Ta.out.c0
    have y1a := Ta.out.c1
    have hla := Ta.out.lt
    have y0b := Tb.out.c0
    have y1b := Tb.out.c1
    have hlb := Tb.out.lt
    clear HT1 HT2 HR1 HR2 HE1 HE2 Rx Vx HB1 Ts Tw2
    cases ok with
    | false =>
      clear HG
      cases T1 with
      | false =>
        (
          go_wp2_with fail
          refine (awake54 _).mono ?_
          rintro e w' ⟨rfl, hb⟩
          go_wp2_with fail
          go_ret
          exact ⟨rfl, c5.trans (hb.mono s5)⟩)
      | true =>
        obtain rfl := HTG.out rfl
        (
          go_wp2_with fail
          refine (awake54 _).mono ?_
          rintro e w' ⟨rfl, hb⟩
          go_wp2_with fail
          go_ret
          exact ⟨rfl, c5.trans (hb.mono s5)⟩)
    | true =>
      obtain ⟨g1, g2, g3⟩ := HG.out rfl
      try simp only at g1 g2 g3
      subst g1
      have d1 : decide (bF ≤ aF) = true := by simpa using g2
      have d2 : decide (aT ≤ bT) = true := by simpa using g3
      cases T1 with
      | false =>
        (
          go_wp2_with fail
          refine (awake54 _).mono ?_
          rintro e w' ⟨rfl, hb⟩
          go_wp2_with fail
          go_ret
          exact ⟨rfl, c5.trans (hb.mono s5)⟩)
      | true =>
        obtain rfl := HTG.out rfl
        (
          go_wp2_with fail
          refine (awake54 _).mono ?_
          rintro e w' ⟨rfl, hb⟩
          go_wp2_with fail
          go_ret
          exact ⟨rfl, c5.trans (hb.mono s5)⟩)
end Go.Proofs.Ytagembkjmnfidaa
