import Derived.Test.YtagembkjmnfidaaTrkA
namespace Go.Proofs.Ytagembkjmnfidaa
open Go.RowKit
open Go.Proofs.Ml
set_option linter.unusedVariables false

theorem sp_ret {x y : Int} {s : Spn} (h : s = ⟨x, y⟩) : Ending.returned (.agg #[.int .i64 x, .int .i64 y]) = .returned (spAgg s) := by subst h; rfl

set_option maxRecDepth 100000 in
set_option maxHeartbeats 1600000 in
theorem hull60 (a b : Spn) (w : World) : Calls Try.prog 60 #[spAgg a, spAgg b] w fun e w' => e = .returned (spAgg (hull a b)) ∧ Below w.heap.size w w' := by
  obtain ⟨aF, aT⟩ := a
  obtain ⟨bF, bT⟩ := b
  by_cases h1 : aT ≤ aF
  · by_cases h2 : bT ≤ bF
    · have HE := hide (show hull ⟨aF, aT⟩ ⟨bF, bT⟩ = ⟨0, 0⟩ by simp [hull, h1, h2])
      unfold spAgg
      go_enter Try.func60, Try.ntmps60
      go_wp2_with fail
      go_returns
      exact ⟨by rw [HE.out], by go_grown⟩
    · have h3 : bF < bT := by omega
      have HE := hide (show hull ⟨aF, aT⟩ ⟨bF, bT⟩ = ⟨bF, bT⟩ by simp [hull, h1, h2])
      clear h2
      unfold spAgg
      go_enter Try.func60, Try.ntmps60
      go_wp2_with fail
      go_returns
      exact ⟨by rw [HE.out], by go_grown⟩
  · have h0 : aF < aT := by omega
    by_cases h2 : bT ≤ bF
    · have HE := hide (show hull ⟨aF, aT⟩ ⟨bF, bT⟩ = ⟨aF, aT⟩ by simp [hull, h1, h2])
      clear h1
      unfold spAgg
      go_enter Try.func60, Try.ntmps60
      go_wp2_with fail
      go_returns
      exact ⟨by rw [HE.out], by go_grown⟩
    · have h3 : bF < bT := by omega
      have HE := hide (show hull ⟨aF, aT⟩ ⟨bF, bT⟩ = ⟨min aF bF, max aT bT⟩ by simp [hull, h1, h2])
      clear h1 h2
      unfold spAgg
      go_enter Try.func60, Try.ntmps60
      go_wp2_with fail
      all_goals
        go_returns
        refine ⟨?_, by go_grown⟩
        rw [HE.out]
        simp only [Ending.returned.injEq, Value.agg.injEq, Array.mk.injEq, List.cons.injEq, Value.int.injEq, true_and, and_true]
        omega

set_option maxRecDepth 100000 in
set_option maxHeartbeats 1600000 in
theorem hull61 (a b : Spn) (w : World) : Calls Try.prog 61 #[spAgg a, spAgg b] w fun e w' => e = .returned (spAgg (hull a b)) ∧ Below w.heap.size w w' := by
  obtain ⟨aF, aT⟩ := a
  obtain ⟨bF, bT⟩ := b
  by_cases h1 : aT ≤ aF
  · by_cases h2 : bT ≤ bF
    · have HE := hide (show hull ⟨aF, aT⟩ ⟨bF, bT⟩ = ⟨0, 0⟩ by simp [hull, h1, h2])
      unfold spAgg
      go_enter Try.func61, Try.ntmps61
      go_wp2_with fail
      go_returns
      exact ⟨by rw [HE.out], by go_grown⟩
    · have h3 : bF < bT := by omega
      have HE := hide (show hull ⟨aF, aT⟩ ⟨bF, bT⟩ = ⟨bF, bT⟩ by simp [hull, h1, h2])
      clear h2
      unfold spAgg
      go_enter Try.func61, Try.ntmps61
      go_wp2_with fail
      go_returns
      exact ⟨by rw [HE.out], by go_grown⟩
  · have h0 : aF < aT := by omega
    by_cases h2 : bT ≤ bF
    · have HE := hide (show hull ⟨aF, aT⟩ ⟨bF, bT⟩ = ⟨aF, aT⟩ by simp [hull, h1, h2])
      clear h1
      unfold spAgg
      go_enter Try.func61, Try.ntmps61
      go_wp2_with fail
      go_returns
      exact ⟨by rw [HE.out], by go_grown⟩
    · have h3 : bF < bT := by omega
      have HE := hide (show hull ⟨aF, aT⟩ ⟨bF, bT⟩ = ⟨min aF bF, max aT bT⟩ by simp [hull, h1, h2])
      clear h1 h2
      unfold spAgg
      go_enter Try.func61, Try.ntmps61
      go_wp2_with fail
      all_goals
        go_returns
        refine ⟨?_, by go_grown⟩
        rw [HE.out]
        simp only [Ending.returned.injEq, Value.agg.injEq, Array.mk.injEq, List.cons.injEq, Value.int.injEq, true_and, and_true]
        omega

set_option maxRecDepth 100000 in
set_option maxHeartbeats 1600000 in
theorem check81 (v : Value) (l : List Chg) (m n : Int) (s : Spn) (w : World) (hr : Rd w v 4 l.length (chVals l)) (hl : l.length ≤ 900000) :
    Calls Try.prog 81 #[v, .int .i64 m, .int .i64 n, spAgg s] w fun e w' => e = .returned (.int .i64 (tkErr l m n s)) ∧ Below w.heap.size w w' := by
  have HR := hide hr
  clear hr
  have hb0 : Below w.heap.size w (w.alloc (.cells #[.int .i64 s.f, .int .i64 s.t] 35)) := (Below.refl _ _).alloc (Nat.le_refl _) _
  have HR0 := hide (HR.out.below hb0 (Nat.le_refl _))
  cases hv : valid l m n with
  | false =>
    have HE := hide (tk_bad (s := s) hv)
    have HV := hide hv
    clear hv
    obtain ⟨F, T⟩ := s
    simp only at HR0 hb0
    have HB0 := hide hb0
    clear hb0
    unfold spAgg
    go_enter Try.func81, Try.ntmps81
    go_wp2_with fail
    refine (check38 _ l m n _ HR0.out (by omega)).mono ?_
    rintro e w1 ⟨rfl, hb1⟩
    rw [HV.out]
    simp only [errOf, Bool.false_eq_true, if_false]
    go_wp2_with fail
    go_ret
    exact ⟨ret_int HE.out.1.symm, HB0.out.trans (hb1.mono HB0.out.size)⟩
  | true =>
    have HV := hide hv
    by_cases hbad : s.f < 0 ∨ s.t ≤ s.f ∨ n < s.t
    · have HE := hide (tk_range hv hbad)
      clear hv
      obtain ⟨F, T⟩ := s
      simp only at HR0 hb0 hbad
      have HB0 := hide hb0
      clear hb0
      unfold spAgg
      have hc : F < 0 ∨ (0 ≤ F ∧ T ≤ F) ∨ (0 ≤ F ∧ F < T ∧ n < T) := by omega
      clear hbad
      rcases hc with hc | ⟨hc, hc'⟩ | ⟨hc, hc', hc''⟩
      all_goals
        go_enter Try.func81, Try.ntmps81
        go_wp2_with fail
        refine (check38 _ l m n _ HR0.out (by omega)).mono ?_
        rintro e w1 ⟨rfl, hb1⟩
        rw [HV.out]
        simp only [errOf, if_true]
        have htw := (Two.new w 35 (.int .i64 F) (.int .i64 T)).below hb1 (by simp)
        have l0 := htw.c0
        have l1 := htw.c1
        have hh := htw.lt
        clear htw
        go_wp2_with fail
        go_ret
        exact ⟨ret_int HE.out.1.symm, HB0.out.trans (hb1.mono HB0.out.size)⟩
    · have HE := hide (tk_ok hv hbad)
      clear hv
      obtain ⟨F, T⟩ := s
      simp only at HR0 hb0 hbad HE
      have HB0 := hide hb0
      clear hb0
      unfold spAgg
      have g1 : 0 ≤ F := by omega
      have g2 : F < T := by omega
      have g3 : T ≤ n := by omega
      clear hbad
      go_enter Try.func81, Try.ntmps81
      go_wp2_with fail
      refine (check38 _ l m n _ HR0.out (by omega)).mono ?_
      rintro e w1 ⟨rfl, hb1⟩
      rw [HV.out]
      simp only [errOf, if_true]
      have htw := (Two.new w 35 (.int .i64 F) (.int .i64 T)).below hb1 (by simp)
      have l0 := htw.c0
      have l1 := htw.c1
      have hh := htw.lt
      clear htw
      go_wp2_with fail
      go_ret
      exact ⟨ret_int HE.out.1.symm, HB0.out.trans (hb1.mono HB0.out.size)⟩

set_option maxRecDepth 100000 in
set_option maxHeartbeats 1600000 in
theorem partner82 (v : Value) (l : List Chg) (m n j : Int) (w : World) (hr : Rd w v 4 l.length (chVals l)) (hv : valid l m n = true) (hl : l.length ≤ 900000) :
    Calls Try.prog 82 #[v, .int .i64 m, .int .i64 j] w fun e w' => e = .returned (.int .i64 (Ml.part (mat 0 0 l m) j)) ∧ Below w.heap.size w w' := by
  have HR := hide hr
  clear hr
  have HM := hide (fun W (hW : Rd W v 4 l.length (chVals l)) => matched46 v l m n W hW hv hl)
  have hpa := mat_asc hv
  have hpl := mat_len hv
  clear hv
  generalize mat 0 0 l m = p at *
  have HPA := hide hpa
  clear hpa
  go_enter Try.func82, Try.ntmps82
  go_wp2_with fail
  refine (HM.out _ HR.out).mono ?_
  rintro e w1 ⟨pv, rfl, hown, hb1⟩
  have s1 := hb1.size
  obtain ⟨Ap, cp, rfl, _, _, _, hAp⟩ := Rd.of_own hown
  clear hown
  go_wp2_with fail
  go_loopw [8] (fun k wr => ∃ (K : Nat), K ≤ p.length ∧ k = .int .i64 K ∧ Below w1.heap.size w1 wr ∧ Hid (∀ i (h : i < p.length), i < K → p[i].t ≠ j))
    (fun k _ => p.length - (intOf k).toNat)
  case atStart => exact ⟨0, by omega, rfl, Below.refl _ _, hide (fun i h hi => by omega)⟩
  case round =>
    obtain ⟨K, hK, rfl, hbel, hinv⟩ := hrel
    have hbs := hbel.size
    by_cases hlt : K < p.length
    · obtain ⟨b, off, rfl, hb, hc⟩ := hAp (by omega)
      have hbw : b < wr.heap.size := by omega
      obtain ⟨q0, q1⟩ := sp_cells hc hb hbel hlt
      have k0 : (0 : Int) ≤ (K : Int) := by omega
      have k1 : (K : Int) < (p.length : Int) := by omega
      have H1 := hide (fun h : p[K].t = j => show Ml.part p j = p[K].f by rw [← h]; exact part_of_mem HPA.out (List.getElem_mem _))
      have H2 := hide (fun h : p[K].t ≠ j => show ∀ i (hi : i < p.length), i < K + 1 → p[i].t ≠ j from fun i hi hlt2 => by
        rcases Nat.eq_or_lt_of_le (show i ≤ K by omega) with rfl | h3
        · exact h
        · exact hinv.out i hi h3)
      clear hc hAp
      generalize p[K] = C at *
      obtain ⟨f, t⟩ := C
      simp only at q0 q1 H1 H2
      by_cases he : t = j
      · have H3 := hide (H1.out he)
        have hE : ((t == j) : Bool) = true := by simp [he]
        clear H1 H2 he
        go_wp2_with fail
        go_ret
        exact ⟨ret_int H3.out.symm, hb1.trans (hbel.mono s1)⟩
      · have H3 := hide (H2.out he)
        have hE : ((t == j) : Bool) = false := by simp [he]
        clear H1 H2 he
        go_wp2_with fail
        go_roundw
        case rel => exact ⟨K + 1, by omega, by go_num, hbel, hide H3.out⟩
        case measure => simp [intOf]; omega
    · have HN := hide (show Ml.part p j = -1 from part_neg fun s hs => by
        obtain ⟨i, hi, rfl⟩ := List.getElem_of_mem hs
        exact hinv.out i hi (by omega))
      clear hAp
      go_wp2_with fail
      go_ret
      exact ⟨ret_int HN.out.symm, hb1.trans (hbel.mono s1)⟩
end Go.Proofs.Ytagembkjmnfidaa
