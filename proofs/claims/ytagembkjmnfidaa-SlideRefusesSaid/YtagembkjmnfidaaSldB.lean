import Derived.Test.YtagembkjmnfidaaSldA
import Derived.Test.YtagembkjmnfidaaSpecB
import Derived.BigQuiet
namespace Go.Proofs.Ytagembkjmnfidaa
open Go.RowKit
open Go.Proofs.Ml
set_option linter.unusedVariables false

theorem valid_small {l : List Chg} {m n : Int} (h : valid l m n = true) : l.length ≤ 9000 := by have := (valid_val h).length; have := valid_iff.1 h; omega

set_option maxRecDepth 100000 in
set_option maxHeartbeats 3200000 in
theorem down90 (v va vb : Value) (l : List Chg) (a b : List Int) (K : Nat) (w : World) (hr : Rd w v 4 l.length (chVals l)) (hra : Rd w va 1 a.length (inVals a)) (hrb : Rd w vb 1 b.length (inVals b)) (hv : valid l a.length b.length = true) (hK : K < l.length) :
    Calls Try.prog 90 #[v, va, vb, .int .i64 K] w fun e w' => (∃ r, e = .returned (.bool r) ∧ (r = true ↔ canD a b l K)) ∧ Below w.heap.size w w' := by
  have hvv := valid_iff.1 hv
  obtain ⟨m0, m1⟩ := hvv.1
  obtain ⟨n0, n1⟩ := hvv.2.1
  have hB := hvv.2.2.bounds
  have hsm := valid_small hv
  have H97 := hide (side97 va vb l[K] w a b hra hrb)
  have HRD := hide (fun t f n (h : side a b l[K] = some (t, f, n)) => side_rd (va := va) (vb := vb) hra hrb h)
  have HNO := hide (fun (h : side a b l[K] = none) => side_val_no (va := va) (vb := vb) h)
  obtain ⟨Aa, ca, rfl, _, _, _, _⟩ := hra
  obtain ⟨Ab, cb, rfl, _, _, _, _⟩ := hrb
  obtain ⟨A, cap, rfl, _, _, _, hA⟩ := hr
  obtain ⟨b0, off, rfl, hb0, hc⟩ := hA (by omega)
  obtain ⟨c0, c1, c2, c3⟩ := ch_cells hc hb0 (Below.refl _ _) hK
  have k0 : (0 : Int) ≤ (K : Int) := by omega
  have k1 : (K : Int) < (l.length : Int) := by omega
  have HB := hide hB
  have HC := hide hc
  have HV := hide hv
  clear hvv hB hA hc hv
  go_enter Try.func90, Try.ntmps90
  go_wp2_with fail
  refine H97.out.mono ?_
  rintro e w1 ⟨rfl, hb1⟩
  have s1 := hb1.size
  have hbw : b0 < w1.heap.size := by omega
  clear c0 c1 c2 c3 H97
  cases hs : side a b l[K] with
  | none =>
    have hno := hide (not_canD_side hK hs)
    rw [HNO.out hs]
    clear HNO HRD hs
    go_wp2_with fail
    go_quiet (fail)
    go_wp2_with fail
    go_ret
    exact ⟨⟨false, rfl, by simp [hno.out]⟩, below_drewN hb1 _⟩
  | some x =>
    obtain ⟨t, f, n⟩ := x
    obtain ⟨g0, g1, g2⟩ := side_in HV.out (List.getElem?_eq_getElem hK) hs
    have hiff := canD_iff hK hs
    obtain ⟨vt, hsv, hrt⟩ := HRD.out t f n hs
    have htl : (t.length : Int) ≤ 4096 := by
      rcases side_val (va := .bool false) (vb := .bool true) hs with ⟨_, rfl⟩ | ⟨_, rfl⟩ <;> omega
    obtain ⟨F, rfl⟩ := Int.eq_ofNat_of_zero_le g0
    obtain ⟨N, rfl⟩ := Int.eq_ofNat_of_zero_le (show 0 ≤ n by omega)
    obtain ⟨At, ct, rfl, _, _, _, hAt⟩ := hrt
    obtain ⟨bt, ot, rfl, hbt, hct⟩ := hAt (by omega)
    have hbtw : bt < w1.heap.size := by omega
    have f0 : (0 : Int) ≤ (F : Int) := by omega
    have f1 : (F : Int) < (t.length : Int) := by omega
    rw [hsv]
    clear HNO HRD hs hAt hsv
    obtain ⟨G, hG⟩ : ∃ G : Nat, G = F + N := ⟨_, rfl⟩
    have e1 : IntKind.i64.wrap ((F : Int) + (N : Int)) = (G : Int) := by rw [IntWalk.i64_in _ (by omega)]; omega
    rw [show (F : Int) + (N : Int) = (G : Int) by omega] at hiff
    by_cases h1 : G < t.length
    · have t0 := in_cells hct hbt hb1 (show F < t.length by omega)
      have t1 := in_cells hct hbt hb1 h1
      have j0 : (0 : Int) ≤ (G : Int) := by omega
      have j1 : (G : Int) < (t.length : Int) := by omega
      have j2 : decide ((t.length : Int) ≤ (G : Int)) = false := by simpa using h1
      rw [List.getElem?_eq_getElem (show ((F : Int)).toNat < t.length by omega), List.getElem?_eq_getElem (show ((G : Int)).toNat < t.length by omega)] at hiff
      simp only [Int.toNat_natCast, Option.some.injEq] at hiff
      obtain ⟨x, hx⟩ : ∃ x, x = t[F] := ⟨_, rfl⟩
      obtain ⟨y, hy⟩ : ∃ y, y = t[G] := ⟨_, rfl⟩
      rw [← hx] at t0
      rw [← hy] at t1
      rw [← hx, ← hy] at hiff
      clear hx hy hct hG
      by_cases hxy : x = y
      · have hn : ((x != y) : Bool) = false := by simp [hxy]
        obtain ⟨K1, hK1⟩ : ∃ K1, K1 = K + 1 := ⟨_, rfl⟩
        have e2 : IntKind.i64.wrap ((K : Int) + 1) = (K1 : Int) := by rw [IntWalk.i64_in _ (by omega)]; omega
        rw [← hK1] at hiff
        by_cases h2 : K1 < l.length
        · obtain ⟨c0, c1, c2, c3⟩ := ch_cells HC.out hb0 hb1 hK
          obtain ⟨x0, x1, x2, x3⟩ := ch_cells HC.out hb0 hb1 h2
          have hR := HB.out l[K] (List.getElem_mem _)
          rw [List.getElem?_eq_getElem h2] at hiff
          obtain ⟨C, hC⟩ : ∃ C, C = l[K] := ⟨_, rfl⟩
          obtain ⟨D, hD⟩ : ∃ D, D = l[K1] := ⟨_, rfl⟩
          rw [← hC] at c0 c1 hR hiff
          rw [← hD] at x0 hiff
          clear c2 c3 x1 x2 x3 hC hD
          have u0 : (0 : Int) ≤ (K1 : Int) := by omega
          have u1 : (K1 : Int) < (l.length : Int) := by omega
          have u2 : (((K1 : Int) == (l.length : Int)) : Bool) = false := by simp; omega
          have e3 := IntWalk.i64_in (C.o + C.ol) (by omega)
          have e4 := IntWalk.i64_in (C.o + C.ol + 1) (by omega)
          have hr : (decide (C.o + C.ol + 1 < D.o) = true ↔ canD a b l K) := by rw [hiff]; simp [room, hxy]; omega
          have HRR := hide hr
          clear hr hiff hR hK1
          go_wp2_with fail
          go_quiet (fail)
          go_wp2_with fail
          go_quiet (fail)
          go_wp2_with fail
          go_ret
          exact ⟨⟨_, rfl, HRR.out⟩, below_drewN (below_drewN hb1 _) _⟩
        · have u2 : (((K1 : Int) == (l.length : Int)) : Bool) = true := by simp; omega
          have hr : canD a b l K := by rw [hiff, List.getElem?_eq_none (by omega)]; exact ⟨by omega, hxy, trivial⟩
          have HRR := hide hr
          clear hr hiff hK1
          go_wp2_with fail
          go_quiet (fail)
          go_wp2_with fail
          go_quiet (fail)
          go_wp2_with fail
          go_ret
          exact ⟨⟨true, rfl, by simp [HRR.out]⟩, below_drewN (below_drewN hb1 _) _⟩
      · have hn : ((x != y) : Bool) = true := by simp [hxy]
        have hr : ¬ canD a b l K := by rw [hiff]; simp [hxy]
        have HRR := hide hr
        clear hr hiff
        go_wp2_with fail
        go_quiet (fail)
        go_wp2_with fail
        go_ret
        exact ⟨⟨false, rfl, by simp [HRR.out]⟩, below_drewN hb1 _⟩
    · have j2 : decide ((t.length : Int) ≤ (G : Int)) = true := by simp; omega
      have hr : ¬ canD a b l K := by rw [hiff]; omega
      have HRR := hide hr
      clear hr hiff hct hG
      go_wp2_with fail
      go_quiet (fail)
      go_wp2_with fail
      go_ret
      exact ⟨⟨false, rfl, by simp [HRR.out]⟩, below_drewN hb1 _⟩
end Go.Proofs.Ytagembkjmnfidaa
