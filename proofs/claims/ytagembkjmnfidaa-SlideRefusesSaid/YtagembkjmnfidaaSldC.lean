import Derived.Test.YtagembkjmnfidaaSldB
namespace Go.Proofs.Ytagembkjmnfidaa
open Go.RowKit
open Go.Proofs.Ml
set_option linter.unusedVariables false

set_option maxRecDepth 100000 in
set_option maxHeartbeats 3200000 in
theorem up88 (v va vb : Value) (l : List Chg) (a b : List Int) (K : Nat) (w : World) (hr : Rd w v 4 l.length (chVals l)) (hra : Rd w va 1 a.length (inVals a)) (hrb : Rd w vb 1 b.length (inVals b)) (hv : valid l a.length b.length = true) (hK : K < l.length) :
    Calls Try.prog 88 #[v, va, vb, .int .i64 K] w fun e w' => (∃ r, e = .returned (.bool r) ∧ (r = true ↔ canU a b l K)) ∧ Below w.heap.size w w' := by
  have hvv := valid_iff.1 hv
  obtain ⟨m0, m1⟩ := hvv.1
  obtain ⟨n0, n1⟩ := hvv.2.1
  have hB := hvv.2.2.bounds
  have hsm := valid_small hv
  have H97 := hide (side97 va vb l[K] w a b hra hrb)
  have HRD := hide (fun t f n (h : side a b l[K] = some (t, f, n)) => side_rd (va := va) (vb := vb) hra hrb h)
  have HNO := hide (fun (h : side a b l[K] = none) => side_val_no (va := va) (vb := vb) h)
  obtain ⟨Aa, ca, rfl, _, _, _, _⟩ := hra
  obtain ⟨Ab, cb, rfl, _, _, _, _⟩ := hrb
  obtain ⟨A, cap, rfl, _, _, _, hA⟩ := hr
  obtain ⟨b0, off, rfl, hb0, hc⟩ := hA (by omega)
  obtain ⟨c0, c1, c2, c3⟩ := ch_cells hc hb0 (Below.refl _ _) hK
  have k0 : (0 : Int) ≤ (K : Int) := by omega
  have k1 : (K : Int) < (l.length : Int) := by omega
  have HB := hide hB
  have HC := hide hc
  have HV := hide hv
  clear hvv hB hA hc hv
  go_enter Try.func88, Try.ntmps88
  go_wp2_with fail
  refine H97.out.mono ?_
  rintro e w1 ⟨rfl, hb1⟩
  have s1 := hb1.size
  have hbw : b0 < w1.heap.size := by omega
  clear c0 c1 c2 c3 H97
  cases hs : side a b l[K] with
  | none =>
    have hno := hide (not_canU_side hK hs)
    rw [HNO.out hs]
    clear HNO HRD hs
    go_wp2_with fail
    go_quiet (fail)
    go_wp2_with fail
    go_ret
    exact ⟨⟨false, rfl, by simp [hno.out]⟩, below_drewN hb1 _⟩
  | some x =>
    obtain ⟨t, f, n⟩ := x
    obtain ⟨g0, g1, g2⟩ := side_in HV.out (List.getElem?_eq_getElem hK) hs
    have hiff := canU_iff hK hs
    obtain ⟨vt, hsv, hrt⟩ := HRD.out t f n hs
    have htl : (t.length : Int) ≤ 4096 := by
      rcases side_val (va := .bool false) (vb := .bool true) hs with ⟨_, rfl⟩ | ⟨_, rfl⟩ <;> omega
    obtain ⟨F, rfl⟩ := Int.eq_ofNat_of_zero_le g0
    obtain ⟨N, rfl⟩ := Int.eq_ofNat_of_zero_le (show 0 ≤ n by omega)
    obtain ⟨At, ct, rfl, _, _, _, hAt⟩ := hrt
    obtain ⟨bt, ot, rfl, hbt, hct⟩ := hAt (by omega)
    have hbtw : bt < w1.heap.size := by omega
    have f0 : (0 : Int) ≤ (F : Int) := by omega
    have f1 : (F : Int) < (t.length : Int) := by omega
    rw [hsv]
    clear HNO HRD hs hAt hsv
    by_cases h0 : F = 0
    · subst h0
      have hr : ¬ canU a b l K := by rw [hiff]; omega
      have HRR := hide hr
      clear hr hiff hct
      go_wp2_with fail
      go_quiet (fail)
      go_wp2_with fail
      go_ret
      exact ⟨⟨false, rfl, by simp [HRR.out]⟩, below_drewN hb1 _⟩
    · have h0' : (((F : Int) == 0) : Bool) = false := by simp; omega
      obtain ⟨F1, hF1⟩ : ∃ G : Nat, F = G + 1 := ⟨F - 1, by omega⟩
      obtain ⟨G, hG⟩ : ∃ G : Nat, G + 1 = F + N := ⟨F + N - 1, by omega⟩
      have e0 : IntKind.i64.wrap ((F : Int) - 1) = (F1 : Int) := by rw [IntWalk.i64_in _ (by omega)]; omega
      have e1 : IntKind.i64.wrap ((F : Int) + (N : Int)) = (G : Int) + 1 := by rw [IntWalk.i64_in _ (by omega)]; omega
      have e2 : IntKind.i64.wrap ((G : Int) + 1 - 1) = (G : Int) := by rw [IntWalk.i64_in _ (by omega)]; omega
      rw [show (F : Int) - 1 = (F1 : Int) by omega, show (F : Int) + (N : Int) - 1 = (G : Int) by omega] at hiff
      have h1 : G < t.length := by omega
      have h2 : F1 < t.length := by omega
      have t0 := in_cells hct hbt hb1 h2
      have t1 := in_cells hct hbt hb1 h1
      have j0 : (0 : Int) ≤ (G : Int) := by omega
      have j1 : (G : Int) < (t.length : Int) := by omega
      have j2 : (0 : Int) ≤ (F1 : Int) := by omega
      have j3 : (F1 : Int) < (t.length : Int) := by omega
      rw [List.getElem?_eq_getElem (show ((F1 : Int)).toNat < t.length by omega), List.getElem?_eq_getElem (show ((G : Int)).toNat < t.length by omega)] at hiff
      simp only [Int.toNat_natCast, Option.some.injEq] at hiff
      obtain ⟨x, hx⟩ : ∃ x, x = t[F1] := ⟨_, rfl⟩
      obtain ⟨y, hy⟩ : ∃ y, y = t[G] := ⟨_, rfl⟩
      rw [← hx] at t0
      rw [← hy] at t1
      rw [← hx, ← hy] at hiff
      clear hx hy hct hG hF1
      by_cases hxy : x = y
      · have hn : ((x != y) : Bool) = false := by simp [hxy]
        by_cases h3 : K = 0
        · subst h3
          have hr : canU a b l 0 := by rw [hiff]; exact ⟨by omega, hxy, fun p hp => by omega⟩
          have HRR := hide hr
          clear hr hiff
          go_wp2_with fail
          go_quiet (fail)
          go_wp2_with fail
          go_quiet (fail)
          go_wp2_with fail
          go_ret
          exact ⟨⟨true, rfl, by simp [HRR.out]⟩, below_drewN (below_drewN hb1 _) _⟩
        · obtain ⟨P, hQ⟩ : ∃ P, K = P + 1 := ⟨K - 1, by omega⟩
          have hP : P < l.length := by omega
          obtain ⟨c0, c1, c2, c3⟩ := ch_cells HC.out hb0 hb1 hK
          obtain ⟨x0, x1, x2, x3⟩ := ch_cells HC.out hb0 hb1 hP
          have hR := HB.out l[K] (List.getElem_mem _)
          have hR2 := HB.out l[P] (List.getElem_mem _)
          have hr : (l[P].o + l[P].ol < l[K].o - 1 ↔ canU a b l K) := by
            rw [hiff]
            constructor
            · intro h; exact ⟨by omega, hxy, fun p hp hpl => by obtain rfl : p = P := by omega
                                                                exact h⟩
            · intro h; exact h.2.2 P hQ hP
          obtain ⟨C, hC⟩ : ∃ C, C = l[K] := ⟨_, rfl⟩
          obtain ⟨D, hD⟩ : ∃ D, D = l[P] := ⟨_, rfl⟩
          rw [← hC] at c0 hR hr
          rw [← hD] at x0 x1 hR2 hr
          clear c1 c2 c3 x2 x3 hC hD hiff
          have u0 : (0 : Int) ≤ (P : Int) := by omega
          have u1 : (P : Int) < (l.length : Int) := by omega
          have u2 : (((K : Int) == 0) : Bool) = false := by simp; omega
          have e6 : IntKind.i64.wrap ((K : Int) - 1) = (P : Int) := by rw [IntWalk.i64_in _ (by omega)]; omega
          have e3 := IntWalk.i64_in (D.o + D.ol) (by omega)
          have e4 := IntWalk.i64_in (C.o - 1) (by omega)
          have hr : (decide (D.o + D.ol < C.o - 1) = true ↔ canU a b l K) := by rw [← hr]; simp
          have HRR := hide hr
          clear hr hR hR2 hQ
          go_wp2_with fail
          go_quiet (fail)
          go_wp2_with fail
          go_quiet (fail)
          go_wp2_with fail
          go_ret
          exact ⟨⟨_, rfl, HRR.out⟩, below_drewN (below_drewN hb1 _) _⟩
      · have hn : ((x != y) : Bool) = true := by simp [hxy]
        have hr : ¬ canU a b l K := by rw [hiff]; simp [hxy]
        have HRR := hide hr
        clear hr hiff
        go_wp2_with fail
        go_quiet (fail)
        go_wp2_with fail
        go_ret
        exact ⟨⟨false, rfl, by simp [HRR.out]⟩, below_drewN hb1 _⟩
end Go.Proofs.Ytagembkjmnfidaa
