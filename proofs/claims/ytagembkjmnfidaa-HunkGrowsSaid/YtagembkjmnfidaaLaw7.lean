import Derived.Test.YtagembkjmnfidaaLaw6
namespace Go.Proofs.Ytagembkjmnfidaa
open Go.RowKit
open Go.Proofs.Ml
set_option linter.unusedVariables false

theorem near_mono {ctx d i : Int} {c : Chg} (hd : 0 ≤ d) (h : near ctx i c = true) : near (ctx + d) i c = true := by
  rw [near_iff] at *; omega
theorem grows_law {s : List Chg} {m n ctx d : Int} (hv : valid s m n = true) (h0 : 0 ≤ ctx) (hd : 0 ≤ d) (M : Nat) (hM : (M : Int) = m) (I : Nat) (hI : I < M) (h1 : I < (cov (hunks s m ctx) M).length) (h2 : I < (cov (hunks s m (ctx + d)) M).length) :
    (cov (hunks s m ctx) M)[I] = true → (cov (hunks s m (ctx + d)) M)[I] = true := by
  rw [exact_law hv h0 M hM I hI h1, exact_law hv (by omega) M hM I hI h2, List.any_eq_true, List.any_eq_true]
  rintro ⟨c, hc, h⟩
  exact ⟨c, hc, near_mono hd h⟩

set_option maxRecDepth 100000 in
set_option maxHeartbeats 1600000 in
theorem walk7 (w : World) (v0 : Value) (z0 : List Int) (r0 : Rd w v0 1 z0.length (inVals z0)) (b0 : z0.length ≤ 9223372036854775807) (ctx : Int) (b1 : -9223372036854775808 ≤ ctx ∧ ctx ≤ 9223372036854775807) (more : Int) (b2 : -9223372036854775808 ≤ more ∧ more ≤ 9223372036854775807) :
    Calls Try.prog 7 #[v0, .int .i64 ctx, .int .i64 more] w fun e w' => e = .returned (.bool true) ∧ Below w.heap.size w w' := by
  have H0 := hide r0
  clear r0
  go_enter Try.func7, Try.ntmps7
  go_wp2_with fail
  refine (script27 _ z0 0 _ H0.out b0 (by omega) (by omega)).mono ?_
  rintro e w1 ⟨sv, s, a, b, rfl, hval, ha, hb, hsl, hs, hb1⟩
  have HS := hide (Rd.of_own hs)
  have hvv := valid_iff.1 hval
  obtain ⟨a0, a1⟩ := hvv.1
  have HV := hide hval
  clear hs hval hvv
  have s1 := hb1.size
  obtain ⟨M, rfl⟩ := Int.eq_ofNat_of_zero_le a0
  go_wp2_with fail
  refine (mod29 ctx 4 _ (by omega) (by omega)).mono ?_
  rintro e w' ⟨rfl, rfl⟩
  obtain ⟨k0, k1⟩ := gmod_range ctx 4 (by omega) (by omega)
  generalize gmod ctx 4 = k at *
  have HG := hide (grp_ok (l := s) (m := (M : Int)) (n := b) (ctx := k) ⟨k0, by omega⟩ HV.out)
  go_wp2_with fail
  refine (group28 _ s (M : Int) b k _ HS.out (by omega)).mono ?_
  rintro e w2 ⟨xv, rfl, hxo, hb2⟩
  rw [HG.out.1]
  rw [HG.out.2] at hxo
  have HX := hide (Rd.of_own hxo)
  have HS2 := hide (HS.out.below hb2 (Nat.le_refl _))
  have c2 := hb1.trans (hb2.mono s1)
  have s2 := c2.size
  clear hxo HG
  go_wp2_with fail
  refine (mod29 more 4 _ (by omega) (by omega)).mono ?_
  rintro e w' ⟨rfl, rfl⟩
  obtain ⟨d0, d1⟩ := gmod_range more 4 (by omega) (by omega)
  generalize gmod more 4 = d at *
  have HG := hide (grp_ok (l := s) (m := (M : Int)) (n := b) (ctx := k + d) ⟨by omega, by omega⟩ HV.out)
  go_wp2_with fail
  refine (group28 _ s (M : Int) b (k + d) _ HS2.out (by omega)).mono ?_
  rintro e w3 ⟨yv, rfl, hyo, hb3⟩
  rw [HG.out.1]
  rw [HG.out.2] at hyo
  have HY := hide (Rd.of_own hyo)
  have HS3 := hide (HS2.out.below hb3 (Nat.le_refl _))
  have HX3 := hide (HX.out.below hb3 (Nat.le_refl _))
  have c3 := c2.trans (hb3.mono s2)
  have s3 := c3.size
  clear hyo HG HX HS2
  have HG := hide (grp_ok (l := s) (m := (M : Int)) (n := b) (ctx := 1048576) ⟨by omega, by omega⟩ HV.out)
  go_wp2_with fail
  refine (group28 _ s (M : Int) b 1048576 _ HS3.out (by omega)).mono ?_
  rintro e w4 ⟨zv, rfl, hzo, hb4⟩
  rw [HG.out.1]
  rw [HG.out.2] at hzo
  have HZ := hide (Rd.of_own hzo)
  have HS4 := hide (HS3.out.below hb4 (Nat.le_refl _))
  have HX4 := hide (HX3.out.below hb4 (Nat.le_refl _))
  have HY4 := hide (HY.out.below hb4 (Nat.le_refl _))
  have c4 := c3.trans (hb4.mono s3)
  have s4 := c4.size
  clear hzo HG HX3 HY HS3
  have hgl : ∀ q : Int, 0 ≤ q → q ≤ 1048576 → (hunks s (M : Int) q).length ≤ s.length := fun q h1 h2 => by
    have h := grp_len s (M : Int) b q
    rw [(grp_ok (l := s) (m := (M : Int)) (n := b) (ctx := q) ⟨h1, h2⟩ HV.out).2] at h
    exact h
  have g1 := hgl k k0 (by omega)
  have g2 := hgl (k + d) (by omega) (by omega)
  clear hgl
  have hle : (hunks s (M : Int) (k + d)).length ≤ (hunks s (M : Int) k).length := hunks_length d0
  have HGR := hide (fun (I : Nat) (hI : I < M) (h1 : I < (cov (hunks s (M : Int) k) M).length) (h2 : I < (cov (hunks s (M : Int) (k + d)) M).length) => grows_law HV.out k0 d0 M rfl I hI h1 h2)
  have HMU := hide (hunks_much (ctx := 1048576) HV.out (by omega))
  have HC1 := hide (covS_ok (h := hunks s (M : Int) k) (m := (M : Int)) (by omega) (by omega))
  have HC2 := hide (covS_ok (h := hunks s (M : Int) (k + d)) (m := (M : Int)) (by omega) (by omega))
  go_wp2_with fail
  refine (cover33 _ (hunks s (M : Int) k) (M : Int) _ HX4.out (by omega)).mono ?_
  rintro e w5 ⟨iv, rfl, hio, hb5⟩
  rw [HC1.out, show ((M : Int)).toNat = M by omega] at hio
  have c5 := c4.trans (hb5.mono s4)
  have s5 := c5.size
  go_wp2_with fail
  refine (cover33 _ (hunks s (M : Int) (k + d)) (M : Int) _ (HY4.out.below hb5 (Nat.le_refl _)) (by omega)).mono ?_
  rintro e w6 ⟨jv, rfl, hjo, hb6⟩
  rw [HC2.out, show ((M : Int)).toNat = M by omega] at hjo
  have c6 := c5.trans (hb6.mono s5)
  have s6 := c6.size
  have hb46 := hb5.trans (hb6.mono hb5.size)
  have hcl1 : (cov (hunks s (M : Int) k) M).length = M := by simp [cov]
  have hcl2 : (cov (hunks s (M : Int) (k + d)) M).length = M := by simp [cov]
  have hI6 := (Rd.of_own hio).below hb6 (Nat.le_refl _)
  have hJ6 := Rd.of_own hjo
  have hX6 := HX4.out.below hb46 (Nat.le_refl _)
  have hY6 := HY4.out.below hb46 (Nat.le_refl _)
  have hZ6 := HZ.out.below hb46 (Nat.le_refl _)
  have hS6 := HS4.out.below hb46 (Nat.le_refl _)
  rw [hcl1] at hI6
  rw [hcl2] at hJ6
  clear HC1 HC2 hio hjo hb5 hb6 hb46 HX4 HY4 HS4 HZ
  generalize cov (hunks s (M : Int) k) M = C1 at *
  generalize cov (hunks s (M : Int) (k + d)) M = C2 at *
  generalize hunks s (M : Int) k = G1 at *
  generalize hunks s (M : Int) (k + d) = G2 at *
  obtain ⟨AI, capI, rfl, _, _, _, hAI⟩ := hI6
  obtain ⟨AJ, capJ, rfl, _, _, _, hAJ⟩ := hJ6
  obtain ⟨AX, capX, rfl, _, _, _, _⟩ := hX6
  obtain ⟨AY, capY, rfl, _, _, _, _⟩ := hY6
  obtain ⟨AS, capS, rfl, _, _, _, _⟩ := hS6
  have hMM : ((M : Int) != (M : Int)) = false := by simp
  have hcs : (s.length ≤ 0 ∧ (((0 : Int) != (s.length : Int)) = false)) ∨ (1 ≤ s.length ∧ s.length ≤ 1 ∧ (((1 : Int) != (s.length : Int)) = false)) ∨ 2 ≤ s.length := by
    rcases Nat.lt_or_ge 1 s.length with h | h
    · exact .inr (.inr h)
    · rcases Nat.eq_zero_or_pos s.length with h' | h'
      · exact .inl ⟨by omega, by rw [bne_eq_false_iff_eq]; omega⟩
      · exact .inr (.inl ⟨h', h, by rw [bne_eq_false_iff_eq]; omega⟩)
  rcases HMU.out with ⟨hL, hsn⟩ | ⟨hsn, la, hL⟩
  · rw [hL] at hZ6
    have hs0 : s.length = 0 := by rw [hsn]; rfl
    rcases hcs with ⟨q0, q1⟩ | ⟨q0, _⟩ | q0
    · clear hs0 hsn hL HMU
      obtain ⟨AZ, capZ, rfl, _, _, _, _⟩ := hZ6
      go_wp2_with fail
      go_loopw [18] (fun i wr => ∃ (I : Nat), I ≤ M ∧ i = .int .i64 I ∧ Below w6.heap.size w6 wr)
        (fun i _ => M - (intOf i).toNat)
      case atStart => exact ⟨0, by omega, rfl, Below.refl _ _⟩
      case round =>
        obtain ⟨I, hI, rfl, hbel⟩ := hrel
        have hbs := hbel.size
        by_cases hlt : I < M
        · obtain ⟨bi, oi, rfl, hbi, hci⟩ := hAI (by omega)
          obtain ⟨bj, oj, rfl, hbj, hcj⟩ := hAJ (by omega)
          have hbwi : bi < wr.heap.size := by omega
          have hbwj : bj < wr.heap.size := by omega
          have hl1 : I < C1.length := by omega
          have hl2 : I < C2.length := by omega
          have e0 := bo_cells hci hbi hbel hl1
          have e1 := bo_cells hcj hbj hbel hl2
          have hgr := HGR.out I hlt hl1 hl2
          have i0 : (0 : Int) ≤ (I : Int) := by omega
          have i1 : (I : Int) < (M : Int) := by omega
          clear hAI hAJ hci hcj
          generalize C1[I] = x at *
          generalize C2[I] = y at *
          cases x with
          | false =>
            clear hgr
            go_wp2_with fail
            go_roundw
            case rel => exact ⟨I + 1, by omega, by go_num, hbel⟩
            case measure => simp [intOf]; omega
          | true =>
            have hy := hgr rfl
            subst hy
            clear hgr
            go_wp2_with fail
            go_roundw
            case rel => exact ⟨I + 1, by omega, by go_num, hbel⟩
            case measure => simp [intOf]; omega
        · clear hAI hAJ HGR
          go_wp2_with fail
          refine (awake26 _).mono ?_
          rintro e w' ⟨rfl, hb⟩
          go_wp2_with fail
          go_ret
          exact ⟨rfl, c6.trans ((hbel.trans (hb.mono hbs)).mono s6)⟩
    · omega
    · omega
  · rw [hL] at hZ6
    have hs0 : s.length ≠ 0 := fun e => hsn (List.eq_nil_of_length_eq_zero e)
    obtain ⟨AZ, capZ, rfl, _, _, _, hAZ⟩ := hZ6
    obtain ⟨bz, oz, rfl, hbz, hcz⟩ := hAZ (by simp)
    clear hAZ hsn hL HMU
    rcases hcs with ⟨q0, q1⟩ | ⟨q0, q1, q2⟩ | q0
    · omega
    · clear hs0
      go_wp2_with fail
      go_loopw [18] (fun i wr => ∃ (I : Nat), I ≤ M ∧ i = .int .i64 I ∧ Below w6.heap.size w6 wr)
        (fun i _ => M - (intOf i).toNat)
      case atStart => exact ⟨0, by omega, rfl, Below.refl _ _⟩
      case round =>
        obtain ⟨I, hI, rfl, hbel⟩ := hrel
        have hbs := hbel.size
        by_cases hlt : I < M
        · obtain ⟨bi, oi, rfl, hbi, hci⟩ := hAI (by omega)
          obtain ⟨bj, oj, rfl, hbj, hcj⟩ := hAJ (by omega)
          have hbwi : bi < wr.heap.size := by omega
          have hbwj : bj < wr.heap.size := by omega
          have hl1 : I < C1.length := by omega
          have hl2 : I < C2.length := by omega
          have e0 := bo_cells hci hbi hbel hl1
          have e1 := bo_cells hcj hbj hbel hl2
          have hgr := HGR.out I hlt hl1 hl2
          have i0 : (0 : Int) ≤ (I : Int) := by omega
          have i1 : (I : Int) < (M : Int) := by omega
          clear hAI hAJ hci hcj hcz
          generalize C1[I] = x at *
          generalize C2[I] = y at *
          cases x with
          | false =>
            clear hgr
            go_wp2_with fail
            go_roundw
            case rel => exact ⟨I + 1, by omega, by go_num, hbel⟩
            case measure => simp [intOf]; omega
          | true =>
            have hy := hgr rfl
            subst hy
            clear hgr
            go_wp2_with fail
            go_roundw
            case rel => exact ⟨I + 1, by omega, by go_num, hbel⟩
            case measure => simp [intOf]; omega
        · have z2 : wr.cell? ⟨bz, oz + 2, none⟩ = some (.int .i64 0) := (hbel.cell (p := ⟨bz, oz + 2, none⟩) hbz).trans (hcz 2 _ rfl)
          have z3 : wr.cell? ⟨bz, oz + 3, none⟩ = some (.int .i64 M) := (hbel.cell (p := ⟨bz, oz + 3, none⟩) hbz).trans (hcz 3 _ rfl)
          have z4 : wr.cell? ⟨bz, oz + 4, none⟩ = some (.int .i64 0) := (hbel.cell (p := ⟨bz, oz + 4, none⟩) hbz).trans (hcz 4 _ rfl)
          have z5 : wr.cell? ⟨bz, oz + 5, none⟩ = some (.int .i64 b) := (hbel.cell (p := ⟨bz, oz + 5, none⟩) hbz).trans (hcz 5 _ rfl)
          have hbzw : bz < wr.heap.size := by omega
          clear hcz
          clear hAI hAJ HGR
          go_wp2_with fail
          refine (awake26 _).mono ?_
          rintro e w' ⟨rfl, hb⟩
          go_wp2_with fail
          go_ret
          exact ⟨rfl, c6.trans ((hbel.trans (hb.mono hbs)).mono s6)⟩
    · clear hs0
      have q3 : (1 : Int) < (s.length : Int) := by omega
      have q4 : (((1 : Int) != 1) : Bool) = false := by simp
      go_wp2_with fail
      go_loopw [18] (fun i wr => ∃ (I : Nat), I ≤ M ∧ i = .int .i64 I ∧ Below w6.heap.size w6 wr)
        (fun i _ => M - (intOf i).toNat)
      case atStart => exact ⟨0, by omega, rfl, Below.refl _ _⟩
      case round =>
        obtain ⟨I, hI, rfl, hbel⟩ := hrel
        have hbs := hbel.size
        by_cases hlt : I < M
        · obtain ⟨bi, oi, rfl, hbi, hci⟩ := hAI (by omega)
          obtain ⟨bj, oj, rfl, hbj, hcj⟩ := hAJ (by omega)
          have hbwi : bi < wr.heap.size := by omega
          have hbwj : bj < wr.heap.size := by omega
          have hl1 : I < C1.length := by omega
          have hl2 : I < C2.length := by omega
          have e0 := bo_cells hci hbi hbel hl1
          have e1 := bo_cells hcj hbj hbel hl2
          have hgr := HGR.out I hlt hl1 hl2
          have i0 : (0 : Int) ≤ (I : Int) := by omega
          have i1 : (I : Int) < (M : Int) := by omega
          clear hAI hAJ hci hcj hcz
          generalize C1[I] = x at *
          generalize C2[I] = y at *
          cases x with
          | false =>
            clear hgr
            go_wp2_with fail
            go_roundw
            case rel => exact ⟨I + 1, by omega, by go_num, hbel⟩
            case measure => simp [intOf]; omega
          | true =>
            have hy := hgr rfl
            subst hy
            clear hgr
            go_wp2_with fail
            go_roundw
            case rel => exact ⟨I + 1, by omega, by go_num, hbel⟩
            case measure => simp [intOf]; omega
        · have z2 : wr.cell? ⟨bz, oz + 2, none⟩ = some (.int .i64 0) := (hbel.cell (p := ⟨bz, oz + 2, none⟩) hbz).trans (hcz 2 _ rfl)
          have z3 : wr.cell? ⟨bz, oz + 3, none⟩ = some (.int .i64 M) := (hbel.cell (p := ⟨bz, oz + 3, none⟩) hbz).trans (hcz 3 _ rfl)
          have z4 : wr.cell? ⟨bz, oz + 4, none⟩ = some (.int .i64 0) := (hbel.cell (p := ⟨bz, oz + 4, none⟩) hbz).trans (hcz 4 _ rfl)
          have z5 : wr.cell? ⟨bz, oz + 5, none⟩ = some (.int .i64 b) := (hbel.cell (p := ⟨bz, oz + 5, none⟩) hbz).trans (hcz 5 _ rfl)
          have hbzw : bz < wr.heap.size := by omega
          clear hcz
          clear hAI hAJ HGR
          go_wp2_with fail
          refine (awake26 _).mono ?_
          rintro e w' ⟨rfl, hb⟩
          go_wp2_with fail
          go_ret
          exact ⟨rfl, c6.trans ((hbel.trans (hb.mono hbs)).mono s6)⟩
end Go.Proofs.Ytagembkjmnfidaa
