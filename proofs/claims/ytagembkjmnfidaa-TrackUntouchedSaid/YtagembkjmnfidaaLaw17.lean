import Derived.Test.YtagembkjmnfidaaTrkE
import Derived.Test.YtagembkjmnfidaaSpecN
namespace Go.Proofs.Ytagembkjmnfidaa
open Go.RowKit
open Go.Proofs.Ml
set_option linter.unusedVariables false

set_option maxRecDepth 100000 in
set_option maxHeartbeats 6400000 in
theorem walk17 (w : World) (v0 : Value) (z0 : List Int) (r0 : Rd w v0 1 z0.length (inVals z0)) (b0 : z0.length ≤ 9223372036854775807) (a1 : Int) (b1 : -9223372036854775808 ≤ a1 ∧ a1 ≤ 9223372036854775807) (a2 : Int) (b2 : -9223372036854775808 ≤ a2 ∧ a2 ≤ 9223372036854775807) :
    Calls Try.prog 17 #[v0, .int .i64 a1, .int .i64 a2] w fun e w' => e = .returned (.bool true) ∧ Below w.heap.size w w' := by
  have H0 := hide r0
  clear r0 b1 b2
  go_enter Try.func17, Try.ntmps17
  go_wp2_with fail
  refine (pick55 _ z0 a1 a2 _ H0.out b0).mono ?_
  rintro e W1 ⟨vx, x, mx, nx, ⟨SF, ST⟩, rfl, hvalx, hmx, hnx, hlx, hspx, hox, hb1⟩
  have c1 : Below w.heap.size w W1 := hb1
  have s1 := c1.size
  replace H0 := hide (H0.out.below hb1 (Nat.le_refl _))
  clear hb1
  have Rx := hide (Rd.of_own hox)
  have Vx := hide hvalx
  have hv_ := valid_iff.1 hvalx
  obtain ⟨m0x, m1x⟩ := hv_.1
  obtain ⟨n0x, n1x⟩ := hv_.2.1
  clear hvalx hox hv_
  simp only at hspx
  unfold spAgg
  replace Rx := hide (Rx.out.below ((Below.refl (W1).heap.size (W1)).alloc (Nat.le_refl _) (.cells #[.int .i64 SF, .int .i64 ST] 35)) (Nat.le_refl _))
  have Ts := hide (Two.new (W1) 35 (.int .i64 SF) (.int .i64 ST))
  by_cases hn0 : nx = 0
  · subst hn0
    go_wp2_with fail
    refine (awake54 _).mono ?_
    rintro e w' ⟨rfl, hb⟩
    go_wp2_with fail
    go_ret
    exact ⟨rfl, c1.trans ((((Below.refl (W1).heap.size (W1)).alloc (Nat.le_refl _) (.cells #[.int .i64 SF, .int .i64 ST] 35)).trans (hb.mono (by simp))).mono s1)⟩
  have hE : ((nx == 0) : Bool) = false := by simp [hn0]
  obtain ⟨q0, q1, q2⟩ : 0 ≤ SF ∧ SF < ST ∧ ST ≤ nx := by omega
  clear hn0 hspx
  obtain ⟨hE1, hB1⟩ := bk_is (s := ⟨SF, ST⟩) Vx.out q0 q1 q2
  have HE1 := hide hE1
  clear hE1
  obtain ⟨R1, hR1⟩ : ∃ y_ : Spn × Bool, y_ = bkRes x mx nx ⟨SF, ST⟩ := ⟨_, rfl⟩
  rw [← hR1] at hB1
  have HR1 := hide hR1.symm
  clear hR1
  obtain ⟨⟨aF, aT⟩, ok⟩ := R1
  obtain ⟨o0, o1, o2, o3⟩ := hB1.range (mat_asc Vx.out) m0x
  simp only at o0 o1 o2 o3
  have HB1 := hide hB1
  clear hB1
  obtain ⟨kk, hkk, htc⟩ := tc_is (s := ⟨SF, ST⟩) Vx.out q0 q1 q2
  simp only at hkk
  have HKK := hide hkk
  obtain ⟨T1, hT1⟩ : ∃ y_ : Bool, y_ = tcRes x mx nx ⟨SF, ST⟩ := ⟨_, rfl⟩
  rw [← hT1] at htc
  have HTC := hide htc
  have HT1 := hide hT1.symm
  clear hkk htc hT1
  go_wp2_with fail
  refine (back56 _ x mx nx ⟨SF, ST⟩ _ Rx.out (by omega)).mono ?_
  rintro e W2 ⟨rfl, hb2⟩
  have c2 : Below w.heap.size w W2 := c1.trans ((((Below.refl (W1).heap.size (W1)).alloc (Nat.le_refl _) (.cells #[.int .i64 SF, .int .i64 ST] 35)).trans (hb2.mono (by simp))).mono s1)
  have s2 := c2.size
  have t2 : W1.heap.size ≤ W2.heap.size := (((Below.refl (W1).heap.size (W1)).alloc (Nat.le_refl _) (.cells #[.int .i64 SF, .int .i64 ST] 35)).trans (hb2.mono (by simp))).size
  replace Rx := hide (Rx.out.below hb2 (Nat.le_refl _))
  replace Ts := hide (Ts.out.below hb2 Ts.out.lt)
  clear hb2
  rw [HR1.out, HE1.out]
  unfold spAgg
  have y0s := Ts.out.c0
  have y1s := Ts.out.c1
  have hls := Ts.out.lt
  replace Rx := hide (Rx.out.below ((Below.refl (W2).heap.size (W2)).alloc (Nat.le_refl _) (.cells #[.int .i64 aF, .int .i64 aT] 35)) (Nat.le_refl _))
  replace Ts := hide (Ts.out.alloc (.cells #[.int .i64 aF, .int .i64 aT] 35))
  have Ta := hide (Two.new (W2) 35 (.int .i64 aF) (.int .i64 aT))
  go_wp2_with fail
  refine (touch58 _ x mx nx ⟨SF, ST⟩ _ Rx.out (by omega)).mono ?_
  rintro e W3 ⟨rfl, hb3⟩
  have c3 : Below w.heap.size w W3 := c2.trans ((((Below.refl (W2).heap.size (W2)).alloc (Nat.le_refl _) (.cells #[.int .i64 aF, .int .i64 aT] 35)).trans (hb3.mono (by simp))).mono s2)
  have s3 := c3.size
  have t3 : W2.heap.size ≤ W3.heap.size := (((Below.refl (W2).heap.size (W2)).alloc (Nat.le_refl _) (.cells #[.int .i64 aF, .int .i64 aT] 35)).trans (hb3.mono (by simp))).size
  replace Rx := hide (Rx.out.below hb3 (Nat.le_refl _))
  replace Ts := hide (Ts.out.below hb3 Ts.out.lt)
  replace Ta := hide (Ta.out.below hb3 Ta.out.lt)
  clear hb3
  rw [HT1.out, HE1.out]
  clear y0s y1s hls
  go_wp2_with fail
  refine (matched46 _ x mx nx _ Rx.out Vx.out (by omega)).mono ?_
  rintro e W4 ⟨vp, rfl, hop, hb4⟩
  have c4 : Below w.heap.size w W4 := c3.trans (hb4.mono s3)
  have s4 := c4.size
  have t4 : W3.heap.size ≤ W4.heap.size := hb4.size
  replace Rx := hide (Rx.out.below hb4 (Nat.le_refl _))
  replace Ts := hide (Ts.out.below hb4 Ts.out.lt)
  replace Ta := hide (Ta.out.below hb4 Ta.out.lt)
  clear hb4
  have hpa := mat_asc Vx.out
  have hpl := mat_len Vx.out
  generalize mat 0 0 x mx = p at *
  have HPA := hide hpa
  clear hpa
  obtain ⟨Ap, cp, rfl, _, _, _, hAp⟩ := Rd.of_own hop
  clear hop
  have HTS := Ts
  have HTA := Ta
  go_wp2_with fail
  go_loopw [17, 18] (fun x1 k wr => ∃ (K c : Nat), K ≤ p.length ∧ c ≤ K ∧ k = .int .i64 K ∧ x1 = .int .i64 c ∧ Below W4.heap.size W4 wr ∧ UtInv p SF ST ⟨aF, aT⟩ ok K c)
    (fun _ k _ => p.length - (intOf k).toNat)
  case atStart => exact ⟨0, 0, by omega, by omega, rfl, rfl, Below.refl _ _, UtInv.start _ _ _ _ _⟩
  case round =>
    obtain ⟨K, c, hK, hcK, rfl, rfl, hbel, hinv⟩ := hrel
    have hbs := hbel.size
    have ts := HTS.out.below hbel HTS.out.lt
    have ta := HTA.out.below hbel HTA.out.lt
    have y0 := ts.c0
    have y1 := ts.c1
    have x0 := ta.c0
    have x1 := ta.c1
    have hls := ts.lt
    have hla := ta.lt
    clear ts ta
    by_cases hlt : K < p.length
    · obtain ⟨b, off, rfl, hb, hc⟩ := hAp (by omega)
      have hbw : b < wr.heap.size := by omega
      obtain ⟨c0, c1_⟩ := sp_cells hc hb hbel hlt
      have k0 : (0 : Int) ≤ (K : Int) := by omega
      have k1 : (K : Int) < (p.length : Int) := by omega
      obtain ⟨m1_, m2_, m3_, m4_⟩ := HPA.out.mem p[K] (List.getElem_mem _)
      have H2 := hide (fun h => hinv.no hlt h)
      cases ok with
      | false =>
        have H4 := hide (H2.out (.inl rfl))
        clear H2 hinv hc hAp
        generalize p[K] = C at *
        obtain ⟨F, T⟩ := C
        simp only at c0 c1_
        go_wp2_with fail
        go_quiet (fail)
        go_wp2_with fail
        go_roundw
        case rel => exact ⟨K + 1, c, by omega, by omega, by go_num, rfl, below_drewN hbel _, H4.out⟩
        case measure => simp [intOf]; omega
      | true =>
      have H1 := hide (fun h h' h'' => hinv.yes hlt h h' h'')
      clear hinv hc hAp
      generalize p[K] = C at *
      obtain ⟨F, T⟩ := C
      simp only at c0 c1_ H1 H2 m1_ m2_ m3_ m4_
      by_cases h1 : SF ≤ T
      · have d1 : decide (SF ≤ T) = true := by simpa using h1
        by_cases h2 : T < ST
        · have d2 : decide (T < ST) = true := by simpa using h2
          have e1 := IntWalk.i64_in (T - SF) (by omega)
          have e2 := IntWalk.i64_in (F - aF) (by omega)
          by_cases h3 : T - SF = F - aF
          · have H4 := hide (H1.out h1 h2 h3)
            have d3 : ((T - SF == F - aF) : Bool) = true := by simp [h3]
            clear H1 H2 h3
            go_wp2_with fail
            go_quiet (fail)
            go_wp2_with fail
            go_roundw
            case rel => exact ⟨K + 1, c + 1, by omega, by omega, by go_num, by go_num, below_drewN hbel _, H4.out⟩
            case measure => simp [intOf]; omega
          · have H4 := hide (H2.out (.inr (.inr (.inr h3))))
            have d3 : ((T - SF == F - aF) : Bool) = false := by simp [h3]
            clear H1 H2 h3
            go_wp2_with fail
            go_quiet (fail)
            go_wp2_with fail
            go_roundw
            case rel => exact ⟨K + 1, c, by omega, by omega, by go_num, rfl, below_drewN hbel _, H4.out⟩
            case measure => simp [intOf]; omega
        · have H4 := hide (H2.out (.inr (.inr (.inl (by omega)))))
          have d2 : decide (T < ST) = false := by simpa using h2
          clear H1 H2
          go_wp2_with fail
          go_quiet (fail)
          go_wp2_with fail
          go_roundw
          case rel => exact ⟨K + 1, c, by omega, by omega, by go_num, rfl, below_drewN hbel _, H4.out⟩
          case measure => simp [intOf]; omega
      · have H4 := hide (H2.out (.inr (.inl (by omega))))
        have d1 : decide (SF ≤ T) = false := by simpa using h1
        clear H1 H2
        go_wp2_with fail
        go_quiet (fail)
        go_wp2_with fail
        go_roundw
        case rel => exact ⟨K + 1, c, by omega, by omega, by go_num, rfl, below_drewN hbel _, H4.out⟩
        case measure => simp [intOf]; omega
    · have j := hinv.fin (show K = p.length by omega) HPA.out q0 HKK.out q2 HB1.out
      have cr := c4.trans (hbel.mono s4)
      have sr := cr.size
      rw [← HTC.out] at j
      simp only at j
      clear hinv hAp
      obtain ⟨e1, he1⟩ : ∃ e, ((c : Int) == ST - SF) = e := ⟨_, rfl⟩
      obtain ⟨e2, he2⟩ : ∃ e, (aT - aF == ST - SF) = e := ⟨_, rfl⟩
      rw [he1, he2] at j
      subst j
      cases ok <;> cases e1 <;> cases e2
      all_goals
        go_wp2_with fail
        refine (awake54 _).mono ?_
        rintro e w' ⟨rfl, hb⟩
        go_wp2_with fail
        go_ret
        exact ⟨rfl, cr.trans (hb.mono sr)⟩
end Go.Proofs.Ytagembkjmnfidaa
