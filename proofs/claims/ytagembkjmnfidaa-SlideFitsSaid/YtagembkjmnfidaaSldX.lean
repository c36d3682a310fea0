import Derived.Test.YtagembkjmnfidaaSpecK
import Derived.Test.YtagembkjmnfidaaBaseE
import Derived.Test.YtagembkjmnfidaaSpecB
import Derived.BigQuiet
import Derived.Test.YtagembkjmnfidaaBaseK
import Derived.Test.YtagembkjmnfidaaBaseF
import Derived.Test.YtagembkjmnfidaaBaseG
namespace Go.Proofs.Ytagembkjmnfidaa
open Go.RowKit
open Go.Proofs.Ml
set_option linter.unusedVariables false

def chAgg (c : Chg) : Value := .agg #[.int .i64 c.o, .int .i64 c.ol, .int .i64 c.n, .int .i64 c.nl]
/-- What side answers: which text, the first line, the length. -/
def sideVal (va vb : Value) (c : Chg) : Value :=
  if c.nl = 0 then .tuple #[va, .int .i64 c.o, .int .i64 c.ol, .bool true]
  else if c.ol = 0 then .tuple #[vb, .int .i64 c.n, .int .i64 c.nl, .bool true]
  else .tuple #[.slice none 0 0, .int .i64 0, .int .i64 0, .bool false]

set_option maxRecDepth 100000 in
set_option maxHeartbeats 1600000 in
theorem side97 (va vb : Value) (c : Chg) (w : World) (a b : List Int) (ha : Rd w va 1 a.length (inVals a)) (hb : Rd w vb 1 b.length (inVals b)) :
    Calls Try.prog 97 #[chAgg c, va, vb] w fun e w' => e = .returned (sideVal va vb c) ∧ Below w.heap.size w w' := by
  obtain ⟨Aa, ca, rfl, _, _, _, _⟩ := ha
  obtain ⟨Ab, cb, rfl, _, _, _, _⟩ := hb
  obtain ⟨o, ol, n, nl⟩ := c
  unfold chAgg sideVal
  simp only
  by_cases h1 : nl = 0
  · subst h1
    rw [if_pos rfl]
    go_enter Try.func97, Try.ntmps97
    go_wp2_with fail
    go_quiet (fail)
    go_wp2_with fail
    go_returns
    exact ⟨rfl, below_drewN (by go_grown) _⟩
  · rw [if_neg h1]
    have d1 : ((nl == 0) : Bool) = false := by simpa using h1
    clear h1
    by_cases h2 : ol = 0
    · subst h2
      rw [if_pos rfl]
      go_enter Try.func97, Try.ntmps97
      go_wp2_with fail
      go_quiet (fail)
      go_wp2_with fail
      go_returns
      exact ⟨rfl, below_drewN (by go_grown) _⟩
    · rw [if_neg h2]
      have d2 : ((ol == 0) : Bool) = false := by simpa using h2
      clear h2
      go_enter Try.func97, Try.ntmps97
      go_wp2_with fail
      go_returns
      exact ⟨rfl, by go_grown⟩

/-- Which value of the walk stands for the text that `side` names. -/
theorem side_val {va vb : Value} {a b : List Int} {c : Chg} {t : List Int} {f n : Int} (h : side a b c = some (t, f, n)) :
    (sideVal va vb c = .tuple #[va, .int .i64 f, .int .i64 n, .bool true] ∧ t = a) ∨ (sideVal va vb c = .tuple #[vb, .int .i64 f, .int .i64 n, .bool true] ∧ t = b) := by
  unfold side at h
  unfold sideVal
  by_cases h1 : c.nl = 0
  · rw [if_pos h1] at h ⊢; cases h; exact .inl ⟨rfl, rfl⟩
  · rw [if_neg h1] at h ⊢
    by_cases h2 : c.ol = 0
    · rw [if_pos h2] at h ⊢; cases h; exact .inr ⟨rfl, rfl⟩
    · rw [if_neg h2] at h; cases h
theorem side_val_no {va vb : Value} {a b : List Int} {c : Chg} (h : side a b c = none) : sideVal va vb c = .tuple #[.slice none 0 0, .int .i64 0, .int .i64 0, .bool false] := by
  unfold side at h
  unfold sideVal
  by_cases h1 : c.nl = 0
  · rw [if_pos h1] at h; cases h
  · rw [if_neg h1] at h ⊢
    by_cases h2 : c.ol = 0
    · rw [if_pos h2] at h; cases h
    · rw [if_neg h2]
/-- The text that `side` names is a slice that reads as it. -/
theorem side_rd {va vb : Value} {a b : List Int} {c : Chg} {w : World} {t : List Int} {f n : Int} (ha : Rd w va 1 a.length (inVals a)) (hb : Rd w vb 1 b.length (inVals b)) (h : side a b c = some (t, f, n)) :
    ∃ vt, sideVal va vb c = .tuple #[vt, .int .i64 f, .int .i64 n, .bool true] ∧ Rd w vt 1 t.length (inVals t) := by
  rcases side_val (va := va) (vb := vb) h with ⟨h1, rfl⟩ | ⟨h1, rfl⟩
  · exact ⟨va, h1, ha⟩
  · exact ⟨vb, h1, hb⟩
end Go.Proofs.Ytagembkjmnfidaa
namespace Go.Proofs.Ytagembkjmnfidaa
open Go.RowKit
open Go.Proofs.Ml
set_option linter.unusedVariables false

theorem valid_small {l : List Chg} {m n : Int} (h : valid l m n = true) : l.length ≤ 9000 := by have := (valid_val h).length; have := valid_iff.1 h; omega

set_option maxRecDepth 100000 in
set_option maxHeartbeats 3200000 in
theorem down90 (v va vb : Value) (l : List Chg) (a b : List Int) (K : Nat) (w : World) (hr : Rd w v 4 l.length (chVals l)) (hra : Rd w va 1 a.length (inVals a)) (hrb : Rd w vb 1 b.length (inVals b)) (hv : valid l a.length b.length = true) (hK : K < l.length) :
    Calls Try.prog 90 #[v, va, vb, .int .i64 K] w fun e w' => (∃ r, e = .returned (.bool r) ∧ (r = true ↔ canD a b l K)) ∧ Below w.heap.size w w' := by
  have hvv := valid_iff.1 hv
  obtain ⟨m0, m1⟩ := hvv.1
  obtain ⟨n0, n1⟩ := hvv.2.1
  have hB := hvv.2.2.bounds
  have hsm := valid_small hv
  have H97 := hide (side97 va vb l[K] w a b hra hrb)
  have HRD := hide (fun t f n (h : side a b l[K] = some (t, f, n)) => side_rd (va := va) (vb := vb) hra hrb h)
  have HNO := hide (fun (h : side a b l[K] = none) => side_val_no (va := va) (vb := vb) h)
  obtain ⟨Aa, ca, rfl, _, _, _, _⟩ := hra
  obtain ⟨Ab, cb, rfl, _, _, _, _⟩ := hrb
  obtain ⟨A, cap, rfl, _, _, _, hA⟩ := hr
  obtain ⟨b0, off, rfl, hb0, hc⟩ := hA (by omega)
  obtain ⟨c0, c1, c2, c3⟩ := ch_cells hc hb0 (Below.refl _ _) hK
  have k0 : (0 : Int) ≤ (K : Int) := by omega
  have k1 : (K : Int) < (l.length : Int) := by omega
  have HB := hide hB
  have HC := hide hc
  have HV := hide hv
  clear hvv hB hA hc hv
  go_enter Try.func90, Try.ntmps90
  go_wp2_with fail
  refine H97.out.mono ?_
  rintro e w1 ⟨rfl, hb1⟩
  have s1 := hb1.size
  have hbw : b0 < w1.heap.size := by omega
  clear c0 c1 c2 c3 H97
  cases hs : side a b l[K] with
  | none =>
    have hno := hide (not_canD_side hK hs)
    rw [HNO.out hs]
    clear HNO HRD hs
    go_wp2_with fail
    go_quiet (fail)
    go_wp2_with fail
    go_ret
    exact ⟨⟨false, rfl, by simp [hno.out]⟩, below_drewN hb1 _⟩
  | some x =>
    obtain ⟨t, f, n⟩ := x
    obtain ⟨g0, g1, g2⟩ := side_in HV.out (List.getElem?_eq_getElem hK) hs
    have hiff := canD_iff hK hs
    obtain ⟨vt, hsv, hrt⟩ := HRD.out t f n hs
    have htl : (t.length : Int) ≤ 4096 := by
      rcases side_val (va := .bool false) (vb := .bool true) hs with ⟨_, rfl⟩ | ⟨_, rfl⟩ <;> omega
    obtain ⟨F, rfl⟩ := Int.eq_ofNat_of_zero_le g0
    obtain ⟨N, rfl⟩ := Int.eq_ofNat_of_zero_le (show 0 ≤ n by omega)
    obtain ⟨At, ct, rfl, _, _, _, hAt⟩ := hrt
    obtain ⟨bt, ot, rfl, hbt, hct⟩ := hAt (by omega)
    have hbtw : bt < w1.heap.size := by omega
    have f0 : (0 : Int) ≤ (F : Int) := by omega
    have f1 : (F : Int) < (t.length : Int) := by omega
    rw [hsv]
    clear HNO HRD hs hAt hsv
    obtain ⟨G, hG⟩ : ∃ G : Nat, G = F + N := ⟨_, rfl⟩
    have e1 : IntKind.i64.wrap ((F : Int) + (N : Int)) = (G : Int) := by rw [IntWalk.i64_in _ (by omega)]; omega
    rw [show (F : Int) + (N : Int) = (G : Int) by omega] at hiff
    by_cases h1 : G < t.length
    · have t0 := in_cells hct hbt hb1 (show F < t.length by omega)
      have t1 := in_cells hct hbt hb1 h1
      have j0 : (0 : Int) ≤ (G : Int) := by omega
      have j1 : (G : Int) < (t.length : Int) := by omega
      have j2 : decide ((t.length : Int) ≤ (G : Int)) = false := by simpa using h1
      rw [List.getElem?_eq_getElem (show ((F : Int)).toNat < t.length by omega), List.getElem?_eq_getElem (show ((G : Int)).toNat < t.length by omega)] at hiff
      simp only [Int.toNat_natCast, Option.some.injEq] at hiff
      obtain ⟨x, hx⟩ : ∃ x, x = t[F] := ⟨_, rfl⟩
      obtain ⟨y, hy⟩ : ∃ y, y = t[G] := ⟨_, rfl⟩
      rw [← hx] at t0
      rw [← hy] at t1
      rw [← hx, ← hy] at hiff
      clear hx hy hct hG
      by_cases hxy : x = y
      · have hn : ((x != y) : Bool) = false := by simp [hxy]
        obtain ⟨K1, hK1⟩ : ∃ K1, K1 = K + 1 := ⟨_, rfl⟩
        have e2 : IntKind.i64.wrap ((K : Int) + 1) = (K1 : Int) := by rw [IntWalk.i64_in _ (by omega)]; omega
        rw [← hK1] at hiff
        by_cases h2 : K1 < l.length
        · obtain ⟨c0, c1, c2, c3⟩ := ch_cells HC.out hb0 hb1 hK
          obtain ⟨x0, x1, x2, x3⟩ := ch_cells HC.out hb0 hb1 h2
          have hR := HB.out l[K] (List.getElem_mem _)
          rw [List.getElem?_eq_getElem h2] at hiff
          obtain ⟨C, hC⟩ : ∃ C, C = l[K] := ⟨_, rfl⟩
          obtain ⟨D, hD⟩ : ∃ D, D = l[K1] := ⟨_, rfl⟩
          rw [← hC] at c0 c1 hR hiff
          rw [← hD] at x0 hiff
          clear c2 c3 x1 x2 x3 hC hD
          have u0 : (0 : Int) ≤ (K1 : Int) := by omega
          have u1 : (K1 : Int) < (l.length : Int) := by omega
          have u2 : (((K1 : Int) == (l.length : Int)) : Bool) = false := by simp; omega
          have e3 := IntWalk.i64_in (C.o + C.ol) (by omega)
          have e4 := IntWalk.i64_in (C.o + C.ol + 1) (by omega)
          have hr : (decide (C.o + C.ol + 1 < D.o) = true ↔ canD a b l K) := by rw [hiff]; simp [room, hxy]; omega
          have HRR := hide hr
          clear hr hiff hR hK1
          go_wp2_with fail
          go_quiet (fail)
          go_wp2_with fail
          go_quiet (fail)
          go_wp2_with fail
          go_ret
          exact ⟨⟨_, rfl, HRR.out⟩, below_drewN (below_drewN hb1 _) _⟩
        · have u2 : (((K1 : Int) == (l.length : Int)) : Bool) = true := by simp; omega
          have hr : canD a b l K := by rw [hiff, List.getElem?_eq_none (by omega)]; exact ⟨by omega, hxy, trivial⟩
          have HRR := hide hr
          clear hr hiff hK1
          go_wp2_with fail
          go_quiet (fail)
          go_wp2_with fail
          go_quiet (fail)
          go_wp2_with fail
          go_ret
          exact ⟨⟨true, rfl, by simp [HRR.out]⟩, below_drewN (below_drewN hb1 _) _⟩
      · have hn : ((x != y) : Bool) = true := by simp [hxy]
        have hr : ¬ canD a b l K := by rw [hiff]; simp [hxy]
        have HRR := hide hr
        clear hr hiff
        go_wp2_with fail
        go_quiet (fail)
        go_wp2_with fail
        go_ret
        exact ⟨⟨false, rfl, by simp [HRR.out]⟩, below_drewN hb1 _⟩
    · have j2 : decide ((t.length : Int) ≤ (G : Int)) = true := by simp; omega
      have hr : ¬ canD a b l K := by rw [hiff]; omega
      have HRR := hide hr
      clear hr hiff hct hG
      go_wp2_with fail
      go_quiet (fail)
      go_wp2_with fail
      go_ret
      exact ⟨⟨false, rfl, by simp [HRR.out]⟩, below_drewN hb1 _⟩
end Go.Proofs.Ytagembkjmnfidaa
namespace Go.Proofs.Ytagembkjmnfidaa
open Go.RowKit
open Go.Proofs.Ml
set_option linter.unusedVariables false

set_option maxRecDepth 100000 in
set_option maxHeartbeats 3200000 in
theorem up88 (v va vb : Value) (l : List Chg) (a b : List Int) (K : Nat) (w : World) (hr : Rd w v 4 l.length (chVals l)) (hra : Rd w va 1 a.length (inVals a)) (hrb : Rd w vb 1 b.length (inVals b)) (hv : valid l a.length b.length = true) (hK : K < l.length) :
    Calls Try.prog 88 #[v, va, vb, .int .i64 K] w fun e w' => (∃ r, e = .returned (.bool r) ∧ (r = true ↔ canU a b l K)) ∧ Below w.heap.size w w' := by
  have hvv := valid_iff.1 hv
  obtain ⟨m0, m1⟩ := hvv.1
  obtain ⟨n0, n1⟩ := hvv.2.1
  have hB := hvv.2.2.bounds
  have hsm := valid_small hv
  have H97 := hide (side97 va vb l[K] w a b hra hrb)
  have HRD := hide (fun t f n (h : side a b l[K] = some (t, f, n)) => side_rd (va := va) (vb := vb) hra hrb h)
  have HNO := hide (fun (h : side a b l[K] = none) => side_val_no (va := va) (vb := vb) h)
  obtain ⟨Aa, ca, rfl, _, _, _, _⟩ := hra
  obtain ⟨Ab, cb, rfl, _, _, _, _⟩ := hrb
  obtain ⟨A, cap, rfl, _, _, _, hA⟩ := hr
  obtain ⟨b0, off, rfl, hb0, hc⟩ := hA (by omega)
  obtain ⟨c0, c1, c2, c3⟩ := ch_cells hc hb0 (Below.refl _ _) hK
  have k0 : (0 : Int) ≤ (K : Int) := by omega
  have k1 : (K : Int) < (l.length : Int) := by omega
  have HB := hide hB
  have HC := hide hc
  have HV := hide hv
  clear hvv hB hA hc hv
  go_enter Try.func88, Try.ntmps88
  go_wp2_with fail
  refine H97.out.mono ?_
  rintro e w1 ⟨rfl, hb1⟩
  have s1 := hb1.size
  have hbw : b0 < w1.heap.size := by omega
  clear c0 c1 c2 c3 H97
  cases hs : side a b l[K] with
  | none =>
    have hno := hide (not_canU_side hK hs)
    rw [HNO.out hs]
    clear HNO HRD hs
    go_wp2_with fail
    go_quiet (fail)
    go_wp2_with fail
    go_ret
    exact ⟨⟨false, rfl, by simp [hno.out]⟩, below_drewN hb1 _⟩
  | some x =>
    obtain ⟨t, f, n⟩ := x
    obtain ⟨g0, g1, g2⟩ := side_in HV.out (List.getElem?_eq_getElem hK) hs
    have hiff := canU_iff hK hs
    obtain ⟨vt, hsv, hrt⟩ := HRD.out t f n hs
    have htl : (t.length : Int) ≤ 4096 := by
      rcases side_val (va := .bool false) (vb := .bool true) hs with ⟨_, rfl⟩ | ⟨_, rfl⟩ <;> omega
    obtain ⟨F, rfl⟩ := Int.eq_ofNat_of_zero_le g0
    obtain ⟨N, rfl⟩ := Int.eq_ofNat_of_zero_le (show 0 ≤ n by omega)
    obtain ⟨At, ct, rfl, _, _, _, hAt⟩ := hrt
    obtain ⟨bt, ot, rfl, hbt, hct⟩ := hAt (by omega)
    have hbtw : bt < w1.heap.size := by omega
    have f0 : (0 : Int) ≤ (F : Int) := by omega
    have f1 : (F : Int) < (t.length : Int) := by omega
    rw [hsv]
    clear HNO HRD hs hAt hsv
    by_cases h0 : F = 0
    · subst h0
      have hr : ¬ canU a b l K := by rw [hiff]; omega
      have HRR := hide hr
      clear hr hiff hct
      go_wp2_with fail
      go_quiet (fail)
      go_wp2_with fail
      go_ret
      exact ⟨⟨false, rfl, by simp [HRR.out]⟩, below_drewN hb1 _⟩
    · have h0' : (((F : Int) == 0) : Bool) = false := by simp; omega
      obtain ⟨F1, hF1⟩ : ∃ G : Nat, F = G + 1 := ⟨F - 1, by omega⟩
      obtain ⟨G, hG⟩ : ∃ G : Nat, G + 1 = F + N := ⟨F + N - 1, by omega⟩
      have e0 : IntKind.i64.wrap ((F : Int) - 1) = (F1 : Int) := by rw [IntWalk.i64_in _ (by omega)]; omega
      have e1 : IntKind.i64.wrap ((F : Int) + (N : Int)) = (G : Int) + 1 := by rw [IntWalk.i64_in _ (by omega)]; omega
      have e2 : IntKind.i64.wrap ((G : Int) + 1 - 1) = (G : Int) := by rw [IntWalk.i64_in _ (by omega)]; omega
      rw [show (F : Int) - 1 = (F1 : Int) by omega, show (F : Int) + (N : Int) - 1 = (G : Int) by omega] at hiff
      have h1 : G < t.length := by omega
      have h2 : F1 < t.length := by omega
      have t0 := in_cells hct hbt hb1 h2
      have t1 := in_cells hct hbt hb1 h1
      have j0 : (0 : Int) ≤ (G : Int) := by omega
      have j1 : (G : Int) < (t.length : Int) := by omega
      have j2 : (0 : Int) ≤ (F1 : Int) := by omega
      have j3 : (F1 : Int) < (t.length : Int) := by omega
      rw [List.getElem?_eq_getElem (show ((F1 : Int)).toNat < t.length by omega), List.getElem?_eq_getElem (show ((G : Int)).toNat < t.length by omega)] at hiff
      simp only [Int.toNat_natCast, Option.some.injEq] at hiff
      obtain ⟨x, hx⟩ : ∃ x, x = t[F1] := ⟨_, rfl⟩
      obtain ⟨y, hy⟩ : ∃ y, y = t[G] := ⟨_, rfl⟩
      rw [← hx] at t0
      rw [← hy] at t1
      rw [← hx, ← hy] at hiff
      clear hx hy hct hG hF1
      by_cases hxy : x = y
      · have hn : ((x != y) : Bool) = false := by simp [hxy]
        by_cases h3 : K = 0
        · subst h3
          have hr : canU a b l 0 := by rw [hiff]; exact ⟨by omega, hxy, fun p hp => by omega⟩
          have HRR := hide hr
          clear hr hiff
          go_wp2_with fail
          go_quiet (fail)
          go_wp2_with fail
          go_quiet (fail)
          go_wp2_with fail
          go_ret
          exact ⟨⟨true, rfl, by simp [HRR.out]⟩, below_drewN (below_drewN hb1 _) _⟩
        · obtain ⟨P, hQ⟩ : ∃ P, K = P + 1 := ⟨K - 1, by omega⟩
          have hP : P < l.length := by omega
          obtain ⟨c0, c1, c2, c3⟩ := ch_cells HC.out hb0 hb1 hK
          obtain ⟨x0, x1, x2, x3⟩ := ch_cells HC.out hb0 hb1 hP
          have hR := HB.out l[K] (List.getElem_mem _)
          have hR2 := HB.out l[P] (List.getElem_mem _)
          have hr : (l[P].o + l[P].ol < l[K].o - 1 ↔ canU a b l K) := by
            rw [hiff]
            constructor
            · intro h; exact ⟨by omega, hxy, fun p hp hpl => by obtain rfl : p = P := by omega
                                                                exact h⟩
            · intro h; exact h.2.2 P hQ hP
          obtain ⟨C, hC⟩ : ∃ C, C = l[K] := ⟨_, rfl⟩
          obtain ⟨D, hD⟩ : ∃ D, D = l[P] := ⟨_, rfl⟩
          rw [← hC] at c0 hR hr
          rw [← hD] at x0 x1 hR2 hr
          clear c1 c2 c3 x2 x3 hC hD hiff
          have u0 : (0 : Int) ≤ (P : Int) := by omega
          have u1 : (P : Int) < (l.length : Int) := by omega
          have u2 : (((K : Int) == 0) : Bool) = false := by simp; omega
          have e6 : IntKind.i64.wrap ((K : Int) - 1) = (P : Int) := by rw [IntWalk.i64_in _ (by omega)]; omega
          have e3 := IntWalk.i64_in (D.o + D.ol) (by omega)
          have e4 := IntWalk.i64_in (C.o - 1) (by omega)
          have hr : (decide (D.o + D.ol < C.o - 1) = true ↔ canU a b l K) := by rw [← hr]; simp
          have HRR := hide hr
          clear hr hR hR2 hQ
          go_wp2_with fail
          go_quiet (fail)
          go_wp2_with fail
          go_quiet (fail)
          go_wp2_with fail
          go_ret
          exact ⟨⟨_, rfl, HRR.out⟩, below_drewN (below_drewN hb1 _) _⟩
      · have hn : ((x != y) : Bool) = true := by simp [hxy]
        have hr : ¬ canU a b l K := by rw [hiff]; simp [hxy]
        have HRR := hide hr
        clear hr hiff
        go_wp2_with fail
        go_quiet (fail)
        go_wp2_with fail
        go_ret
        exact ⟨⟨false, rfl, by simp [HRR.out]⟩, below_drewN hb1 _⟩
end Go.Proofs.Ytagembkjmnfidaa
namespace Go.Proofs.Ytagembkjmnfidaa
open Go.RowKit
open Go.Proofs.Ml
set_option linter.unusedVariables false

theorem own_ch_set2 {w : World} {B g cap : Nat} {l : List Chg} (d : Int) (h : w.ownsRow B 45 4 (.slice (some ⟨g, 0, none⟩) l.length cap) l.length (chVals l)) (k : Nat) (hk : k < l.length) :
    ((w.setCell ⟨g, k * 4, none⟩ (.int .i64 (l[k].o + d))).setCell ⟨g, k * 4 + 2, none⟩ (.int .i64 (l[k].n + d))).ownsRow B 45 4 (.slice (some ⟨g, 0, none⟩) l.length cap) l.length (chVals (mv d l k)) := by
  have h1 := own_ch_set h k 0 (.int .i64 (l[k].o + d)) ⟨l[k].o + d, l[k].ol, l[k].n, l[k].nl⟩ hk (by omega) rfl
  have h2 := own_ch_set h1 k 2 (.int .i64 (l[k].n + d)) (l[k].up d) (by simpa using hk) (by omega) (by simp [chCells, Chg.up])
  rw [List.set_set, ← mv_get d l k hk, mv_length] at h2
  exact h2

set_option maxRecDepth 100000 in
set_option maxHeartbeats 1600000 in
theorem moved89 (v : Value) (l : List Chg) (K : Nat) (d : Int) (w : World) (hr : Rd w v 4 l.length (chVals l)) (hl : l.length ≤ 900000) (hK : K < l.length) (ho : -9000 ≤ l[K].o + d ∧ l[K].o + d ≤ 9000) (hn : -9000 ≤ l[K].n + d ∧ l[K].n + d ≤ 9000) :
    Calls Try.prog 89 #[v, .int .i64 K, .int .i64 d] w (RetRow w 45 4 l.length (chVals (mv d l K))) := by
  obtain ⟨A, cap, rfl, hcap, hcap', hll, hA⟩ := hr
  have HR := hide (show Rd w (.slice A l.length cap) 4 l.length (chVals l) from ⟨A, cap, rfl, hcap, hcap', hll, hA⟩)
  have e1 := IntWalk.i64_in (l[K].o + d) (by omega)
  have e2 := IntWalk.i64_in (l[K].n + d) (by omega)
  have k0 : (0 : Int) ≤ (K : Int) := by omega
  have k1 : (K : Int) < (l.length : Int) := by omega
  clear hcap hcap' hll hA ho hn
  go_enter Try.func89, Try.ntmps89
  go_wp2_with (at_builtin; go_must (refine wp_appR rfl (.tmp 8) (.tmp 9) 23 45 4 32 _ rfl Try.underlying23 info45 rfl (by omega) (by omega) _ w.heap.size 0 _ [] rfl (World.ownsRow_made w #[] 0 (Nat.le_refl _) (by simp) rfl) A l.length cap (chVals l) rfl (HR.out.below ((Below.refl _ _).alloc (Nat.le_refl _) _) (Nat.le_refl _)) (chVals_one l) (by omega) (by simp) ?_); intro vq W4 hoq hb4' hs4'; rw [Nat.zero_add, List.nil_append] at hoq; obtain ⟨Aq, cq, rfl, hgq⟩ := own_open hoq; obtain ⟨g, rfl, hg0, hg1⟩ := hgq (by omega); obtain ⟨c0, c1, c2, c3⟩ := ch_cells (off := 0) (fun j u hu => by have := hoq.cells (g := g) rfl j u hu; rwa [add_head, ← Nat.zero_add j] at this) hg1 (Below.refl _ _) hK; rw [Nat.zero_add] at c0 c1 c2 c3; have f0 := hoq.frozenAt (K * 4); have f2 := hoq.frozenAt (K * 4 + 2); have HO := hide (own_ch_set2 d hoq K hK); have HB := hide (((Below.refl w.heap.size w).alloc (Nat.le_refl _) (.cells #[] 45)).trans hb4'); clear hoq hb4' hs4' c1 c3)
  go_ret
  exact ⟨_, rfl, HO.out, (HB.out.setCell hg0 _).setCell hg0 _⟩

set_option maxRecDepth 100000 in
set_option maxHeartbeats 1600000 in
theorem clone94 (v : Value) (l : List Chg) (w : World) (hr : Rd w v 4 l.length (chVals l)) (hl : l.length ≤ 900000) :
    Calls Try.prog 94 #[v] w (RetRow w 45 4 l.length (chVals l)) := by
  obtain ⟨A, cap, rfl, hcap, hcap', hll, hA⟩ := hr
  have HR := hide (show Rd w (.slice A l.length cap) 4 l.length (chVals l) from ⟨A, cap, rfl, hcap, hcap', hll, hA⟩)
  rcases A with _ | p
  · have h0 : l = [] := by
      rcases Nat.eq_zero_or_pos l.length with h | h
      · exact List.eq_nil_of_length_eq_zero h
      · obtain ⟨b, off, h1, _⟩ := hA h; cases h1
    subst h0
    clear hcap hcap' hll hA HR
    have hq : (binOp .eql 23 (.slice none 0 cap) (.slice none 0 0)).run Try.prog w = .ok (.bool true) w := by kernel_rfl
    go_enter Try.func94, Try.ntmps94
    go_wp2_with (rw [hq])
    go_ret
    exact ⟨_, rfl, World.ownsRow_nil _ _ _ _, Below.refl _ _⟩
  · clear hcap hcap' hll hA
    have hq : (binOp .eql 23 (.slice (some p) l.length cap) (.slice none 0 0)).run Try.prog w = .ok (.bool false) w := by kernel_rfl
    go_enter Try.func94, Try.ntmps94
    go_wp2_with (first | rw [hq] | at_builtin; go_must (refine wp_appR rfl (.tmp 5) (.tmp 6) 23 45 4 32 _ rfl Try.underlying23 info45 rfl (by omega) (by omega) _ w.heap.size 0 _ [] rfl (World.ownsRow_made w #[] 0 (Nat.le_refl _) (by simp) rfl) (some p) l.length cap (chVals l) rfl (HR.out.below ((Below.refl _ _).alloc (Nat.le_refl _) _) (Nat.le_refl _)) (chVals_one l) (by omega) (by simp) ?_); intro vq W4 hoq hb4' hs4'; rw [Nat.zero_add, List.nil_append] at hoq; have HO := hide hoq; have HB := hide (((Below.refl w.heap.size w).alloc (Nat.le_refl _) (.cells #[] 45)).trans hb4'); obtain ⟨Aq, cq, rfl, hgq⟩ := own_open hoq; clear hoq hb4' hs4' hgq)
    go_ret
    exact ⟨_, rfl, HO.out, HB.out⟩
end Go.Proofs.Ytagembkjmnfidaa
