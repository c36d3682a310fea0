import Derived.Test.YtagembkjmnfidaaTrkE
import Derived.Test.YtagembkjmnfidaaSpecN
namespace Go.Proofs.Ytagembkjmnfidaa
open Go.RowKit
open Go.Proofs.Ml
set_option linter.unusedVariables false

set_option maxRecDepth 100000 in
set_option maxHeartbeats 6400000 in
theorem walk16 (w : World) (v0 : Value) (z0 : List Int) (r0 : Rd w v0 1 z0.length (inVals z0)) (b0 : z0.length ≤ 9223372036854775807) (a1 : Int) (b1 : -9223372036854775808 ≤ a1 ∧ a1 ≤ 9223372036854775807) (a2 : Int) (b2 : -9223372036854775808 ≤ a2 ∧ a2 ≤ 9223372036854775807) :
    Calls Try.prog 16 #[v0, .int .i64 a1, .int .i64 a2] w fun e w' => e = .returned (.bool true) ∧ Below w.heap.size w w' := by
  have H0 := hide r0
  clear r0 b1 b2
  go_enter Try.func16, Try.ntmps16
  go_wp2_with fail
  refine (pick55 _ z0 a1 a2 _ H0.out b0).mono ?_
  rintro e W1 ⟨vx, x, mx, nx, ⟨SF, ST⟩, rfl, hvalx, hmx, hnx, hlx, hspx, hox, hb1⟩
  have c1 : Below w.heap.size w W1 := hb1
  have s1 := c1.size
  replace H0 := hide (H0.out.below hb1 (Nat.le_refl _))
  clear hb1
  have Rx := hide (Rd.of_own hox)
  have Vx := hide hvalx
  have hv_ := valid_iff.1 hvalx
  obtain ⟨m0x, m1x⟩ := hv_.1
  obtain ⟨n0x, n1x⟩ := hv_.2.1
  clear hvalx hox hv_
  simp only at hspx
  unfold spAgg
  replace Rx := hide (Rx.out.below ((Below.refl (W1).heap.size (W1)).alloc (Nat.le_refl _) (.cells #[.int .i64 SF, .int .i64 ST] 35)) (Nat.le_refl _))
  have Ts := hide (Two.new (W1) 35 (.int .i64 SF) (.int .i64 ST))
  by_cases hn0 : nx = 0
  · subst hn0
    go_wp2_with fail
    refine (awake54 _).mono ?_
    rintro e w' ⟨rfl, hb⟩
    go_wp2_with fail
    go_ret
    exact ⟨rfl, c1.trans ((((Below.refl (W1).heap.size (W1)).alloc (Nat.le_refl _) (.cells #[.int .i64 SF, .int .i64 ST] 35)).trans (hb.mono (by simp))).mono s1)⟩
  have hE : ((nx == 0) : Bool) = false := by simp [hn0]
  obtain ⟨q0, q1, q2⟩ : 0 ≤ SF ∧ SF < ST ∧ ST ≤ nx := by omega
  clear hn0 hspx
  obtain ⟨hE1, hB1⟩ := bk_is (s := ⟨SF, ST⟩) Vx.out q0 q1 q2
  have HE1 := hide hE1
  clear hE1
  obtain ⟨R1, hR1⟩ : ∃ y_ : Spn × Bool, y_ = bkRes x mx nx ⟨SF, ST⟩ := ⟨_, rfl⟩
  rw [← hR1] at hB1
  have HR1 := hide hR1.symm
  clear hR1
  obtain ⟨⟨aF, aT⟩, ok⟩ := R1
  obtain ⟨o0, o1, o2, o3⟩ := hB1.range (mat_asc Vx.out) m0x
  simp only at o0 o1 o2 o3
  have HB1 := hide hB1
  clear hB1
  go_wp2_with fail
  refine (back56 _ x mx nx ⟨SF, ST⟩ _ Rx.out (by omega)).mono ?_
  rintro e W2 ⟨rfl, hb2⟩
  have c2 : Below w.heap.size w W2 := c1.trans ((((Below.refl (W1).heap.size (W1)).alloc (Nat.le_refl _) (.cells #[.int .i64 SF, .int .i64 ST] 35)).trans (hb2.mono (by simp))).mono s1)
  have s2 := c2.size
  have t2 : W1.heap.size ≤ W2.heap.size := (((Below.refl (W1).heap.size (W1)).alloc (Nat.le_refl _) (.cells #[.int .i64 SF, .int .i64 ST] 35)).trans (hb2.mono (by simp))).size
  replace Rx := hide (Rx.out.below hb2 (Nat.le_refl _))
  replace Ts := hide (Ts.out.below hb2 Ts.out.lt)
  clear hb2
  rw [HR1.out, HE1.out]
  unfold spAgg
  replace Rx := hide (Rx.out.below ((Below.refl (W2).heap.size (W2)).alloc (Nat.le_refl _) (.cells #[.int .i64 aF, .int .i64 aT] 35)) (Nat.le_refl _))
  replace Ts := hide (Ts.out.alloc (.cells #[.int .i64 aF, .int .i64 aT] 35))
  have Ta := hide (Two.new (W2) 35 (.int .i64 aF) (.int .i64 aT))
  go_wp2_with fail
  refine (matched46 _ x mx nx _ Rx.out Vx.out (by omega)).mono ?_
  rintro e W3 ⟨vp, rfl, hop, hb3⟩
  have c3 : Below w.heap.size w W3 := c2.trans ((((Below.refl (W2).heap.size (W2)).alloc (Nat.le_refl _) (.cells #[.int .i64 aF, .int .i64 aT] 35)).trans (hb3.mono (by simp))).mono s2)
  have s3 := c3.size
  have t3 : W2.heap.size ≤ W3.heap.size := (((Below.refl (W2).heap.size (W2)).alloc (Nat.le_refl _) (.cells #[.int .i64 aF, .int .i64 aT] 35)).trans (hb3.mono (by simp))).size
  replace Rx := hide (Rx.out.below hb3 (Nat.le_refl _))
  replace Ts := hide (Ts.out.below hb3 Ts.out.lt)
  replace Ta := hide (Ta.out.below hb3 Ta.out.lt)
  clear hb3
  have hpa := mat_asc Vx.out
  have hpl := mat_len Vx.out
  generalize mat 0 0 x mx = p at *
  have HPA := hide hpa
  clear hpa
  obtain ⟨Ap, cp, rfl, _, _, _, hAp⟩ := Rd.of_own hop
  clear hop
  have HTS := Ts
  have HTA := Ta
  go_wp2_with fail
  go_loopw [15, 16, 17, 18] (fun x1 x2 x3 k wr => ∃ (K : Nat) (f1 f2 f3 : Bool), K ≤ p.length ∧ k = .int .i64 K ∧ x1 = .bool f1 ∧ x2 = .bool f2 ∧ x3 = .bool f3 ∧ Below W3.heap.size W3 wr ∧ LsInv p SF ST ⟨aF, aT⟩ K f1 f2 f3)
    (fun _ _ _ k _ => p.length - (intOf k).toNat)
  case atStart => exact ⟨0, false, false, false, by omega, rfl, rfl, rfl, rfl, Below.refl _ _, LsInv.start _ _ _ _⟩
  case round =>
    obtain ⟨K, f1, f2, f3, hK, rfl, rfl, rfl, rfl, hbel, hinv⟩ := hrel
    have hbs := hbel.size
    have ts := HTS.out.below hbel HTS.out.lt
    have ta := HTA.out.below hbel HTA.out.lt
    have y0 := ts.c0
    have y1 := ts.c1
    have x0 := ta.c0
    have x1 := ta.c1
    have hls := ts.lt
    have hla := ta.lt
    clear ts ta
    by_cases hlt : K < p.length
    · obtain ⟨b, off, rfl, hb, hc⟩ := hAp (by omega)
      have hbw : b < wr.heap.size := by omega
      obtain ⟨c0, c1_⟩ := sp_cells hc hb hbel hlt
      have k0 : (0 : Int) ≤ (K : Int) := by omega
      have k1 : (K : Int) < (p.length : Int) := by omega
      have H1 := hide (fun h => hinv.out hlt h)
      have H2 := hide (fun h h' => hinv.inn hlt h h')
      have H3 := hide (fun (h : SF ≤ p[K].t) (h' : p[K].t < ST) => HB1.out.all p[K] (List.getElem_mem hlt) h h')
      clear hinv hc hAp
      generalize p[K] = C at *
      obtain ⟨F, T⟩ := C
      simp only at c0 c1_ H1 H2 H3
      have e1 := IntWalk.i64_in (aT - 1) (by omega)
      by_cases h1 : T < SF
      · have H4 := hide (H1.out (.inl h1))
        have d1 : decide (T < SF) = true := by simpa using h1
        clear H1 H2 H3
        go_wp2_with fail
        go_quiet (fail)
        go_wp2_with fail
        go_roundw
        case rel => exact ⟨K + 1, f1, f2, f3, by omega, by go_num, rfl, rfl, rfl, below_drewN hbel _, H4.out⟩
        case measure => simp [intOf]; omega
      have d1 : decide (T < SF) = false := by simpa using h1
      by_cases h2 : ST ≤ T
      · have H4 := hide (H1.out (.inr h2))
        have d2 : decide (ST ≤ T) = true := by simpa using h2
        clear H1 H2 H3
        go_wp2_with fail
        go_quiet (fail)
        go_wp2_with fail
        go_roundw
        case rel => exact ⟨K + 1, f1, f2, f3, by omega, by go_num, rfl, rfl, rfl, below_drewN hbel _, H4.out⟩
        case measure => simp [intOf]; omega
      have d2 : decide (ST ≤ T) = false := by simpa using h2
      have H4 := hide (H2.out (by omega) (by omega))
      obtain ⟨g1, g2⟩ := H3.out (by omega) (by omega)
      have d3 : decide (F < aF) = false := by simp; omega
      have d4 : decide (aT ≤ F) = false := by simp; omega
      clear H1 H2 H3 h1 h2
      cases f2 <;> cases f3
      all_goals
        go_wp2_with fail
        go_quiet (fail)
        go_wp2_with fail
        go_quiet (fail)
        go_wp2_with fail
        go_quiet (fail)
        go_wp2_with fail
        go_quiet (fail)
        go_wp2_with fail
        go_roundw
        case rel => exact ⟨K + 1, true, _, _, by omega, by go_num, rfl, rfl, rfl, below_drewN hbel _, by have := H4.out; simpa using this⟩
        case measure => simp [intOf]; omega
    · obtain ⟨j1, j2, j3⟩ := hinv.fin (show K = p.length by omega) HB1.out
      have cr := c3.trans (hbel.mono s3)
      have sr := cr.size
      clear hinv hAp
      subst j1
      cases f1 with
      | true =>
        obtain ⟨rfl, rfl⟩ := j2 rfl
        clear j2 j3
        go_wp2_with fail
        refine (awake54 _).mono ?_
        rintro e w' ⟨rfl, hb⟩
        go_wp2_with fail
        go_ret
        exact ⟨rfl, cr.trans (hb.mono sr)⟩
      | false =>
        have j4 := j3 rfl
        injection j4 with j5 j6
        subst j5
        subst j6
        clear j2 j3
        go_wp2_with fail
        refine (awake54 _).mono ?_
        rintro e w' ⟨rfl, hb⟩
        go_wp2_with fail
        go_ret
        exact ⟨rfl, cr.trans (hb.mono sr)⟩
end Go.Proofs.Ytagembkjmnfidaa
