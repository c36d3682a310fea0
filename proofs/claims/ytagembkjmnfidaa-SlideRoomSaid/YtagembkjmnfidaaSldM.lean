import Derived.Test.YtagembkjmnfidaaSldJ
namespace Go.Proofs.Ytagembkjmnfidaa
open Go.RowKit
open Go.Proofs.Ml
set_option linter.unusedVariables false

set_option maxRecDepth 100000 in
set_option maxHeartbeats 3200000 in
theorem rroom66 (v va vb : Value) (l : List Chg) (a b : List Int) (k : Int) (w : World) (hr : Rd w v 4 l.length (chVals l)) (hra : Rd w va 1 a.length (inVals a)) (hrb : Rd w vb 1 b.length (inVals b)) (hl : l.length ≤ 900000) :
    Calls Try.prog 66 #[v, va, vb, .int .i64 k] w (RmRet w l a b k) := by
  have H48 := hide (fits48 v va vb l a b w hr hra hrb hl)
  have HR := hide hr
  have HRA := hide hra
  have HRB := hide hrb
  obtain ⟨Aa, ca, rfl, _, _, _, _⟩ := hra
  obtain ⟨Ab, cb, rfl, _, _, _, _⟩ := hrb
  obtain ⟨A, cap, rfl, _, _, _, hA⟩ := hr
  clear hA
  go_enter Try.func66, Try.ntmps66
  go_wp2_with fail
  refine H48.out.mono ?_
  rintro e w1 ⟨rfl, hb1⟩
  cases hf : fits l a b with
  | false =>
    have HF := hide hf
    clear hf H48
    go_wp2_with fail
    go_returns
    exact ⟨.inl ⟨HF.out, rfl⟩, hb1⟩
  | true =>
    have HF := hide hf
    clear hf H48
    by_cases hk0 : k < 0
    · have d0 : decide (k < 0) = true := by simpa using hk0
      have HK := hide hk0
      clear hk0
      go_wp2_with fail
      go_returns
      exact ⟨.inr (.inl ⟨HF.out, .inl HK.out, rfl⟩), hb1⟩
    obtain ⟨K, rfl⟩ := Int.eq_ofNat_of_zero_le (show 0 ≤ k by omega)
    have d0 : decide ((K : Int) < 0) = false := by simp
    by_cases hk1 : l.length ≤ K
    · have d1 : decide ((l.length : Int) ≤ (K : Int)) = true := by simpa using hk1
      have d2 : decide (l.length ≤ K) = true := by simpa using hk1
      have HK := hide hk1
      clear hk0 hk1
      go_wp2_with fail
      go_returns
      exact ⟨.inr (.inl ⟨HF.out, .inr (by have := HK.out; omega), rfl⟩), hb1⟩
    have d1 : decide ((l.length : Int) ≤ (K : Int)) = false := by simpa using hk1
    have d2 : decide (l.length ≤ K) = false := by simpa using hk1
    have hK : K < l.length := by omega
    clear hk0 hk1
    go_wp2_with fail
    go_loopw [11, 13] (fun n v wr => ∃ (c : Nat) (x : List Chg), n = .int .i64 c ∧ c ≤ 4096 ∧ OfInv (canU a b) (-1) K l c x ∧ fits x a b = true ∧ Rd wr v 4 x.length (chVals x) ∧ Below w.heap.size w wr)
      (fun n _ _ => 5000 - (intOf n).toNat)
    case atStart => exact ⟨0, l, rfl, by omega, OfInv.start _ _ _ _, HF.out, HR.out.below hb1 (Nat.le_refl _), hb1⟩
    case round =>
      obtain ⟨c, x, rfl, hc, hof, hfx, hrx, hbx⟩ := hrel
      have hKx : K < x.length := by have := hof.len; omega
      have hx9 : x.length ≤ 900000 := by have := hof.len; omega
      have hvx := (fits_iff.1 hfx).1
      have hbd := (valid_iff.1 hvx).2.2.bounds x[K] (List.getElem_mem _)
      have HOF := hide hof
      have HRX := hide hrx
      have HFX := hide hfx
      have HS := hide (up88 _ _ _ x a b K wr hrx (HRA.out.below hbx (Nat.le_refl _)) (HRB.out.below hbx (Nat.le_refl _)) hvx hKx)
      have HMV := hide (fun v_ W (hW : Rd W v_ 4 x.length (chVals x)) => moved89 v_ x K (-1) W hW hx9 hKx (by omega) (by omega))
      have e1 : IntKind.i64.wrap ((c : Int) + 1) = ((c + 1 : Nat) : Int) := by rw [IntWalk.i64_in _ (by omega)]; omega
      clear hof hrx hfx hvx hbd
      go_wp2_with fail
      refine HS.out.mono ?_
      rintro e w3 ⟨⟨r, rfl, hcan⟩, hb3⟩
      have hbx3 := hbx.trans (hb3.mono hbx.size)
      cases r with
      | true =>
        have HC := hide (hcan.1 rfl)
        have HB3 := hide hb3
        clear hcan hb3 HS
        go_wp2_with fail
        refine (HMV.out _ _ (HRX.out.below HB3.out (Nat.le_refl _))).mono ?_
        rintro e w4 ⟨v4, rfl, ho4, hb4⟩
        have hfx2 := fits_up HFX.out HC.out
        have hcb := (HOF.out.next HC.out).bound (by omega) hK HF.out hfx2
        have HR4 := hide (Rd.of_own ho4)
        have HB4 := hide (hbx3.trans (hb4.mono hbx3.size))
        have HFX2 := hide hfx2
        clear ho4 hb4 hfx2
        go_wp2_with fail
        go_roundw
        case rel => exact ⟨c + 1, _, by go_num, hcb, HOF.out.next HC.out, HFX2.out, by rw [mv_length]; exact HR4.out, HB4.out⟩
        case measure => simp [intOf]; omega
      | false =>
        have HCU := hide (HOF.out.fin (fun h => by simpa using hcan.2 h))
        clear hcan hb3 HS HMV HRX HFX HOF e1 hx9
        go_wp2_with fail
        obtain ⟨xu, hxu⟩ : ∃ y, y = x := ⟨_, rfl⟩
        obtain ⟨u_, hu_⟩ : ∃ y, y = c := ⟨_, rfl⟩
        have hbu := hbx3
        rw [← hxu, ← hu_] at HCU
        rw [← hu_]
        clear hu_ hxu
        go_loopw [12, 14] (fun n v wr => ∃ (c : Nat) (x : List Chg), n = .int .i64 c ∧ c ≤ 4096 ∧ OfInv (canD a b) (1) K l c x ∧ fits x a b = true ∧ Rd wr v 4 x.length (chVals x) ∧ Below w.heap.size w wr)
          (fun n _ _ => 5000 - (intOf n).toNat)
        case atStart => exact ⟨0, l, rfl, by omega, OfInv.start _ _ _ _, HF.out, HR.out.below hbu (Nat.le_refl _), hbu⟩
        case round =>
          obtain ⟨c, x, rfl, hc, hof, hfx, hrx, hbx⟩ := hrel
          have hKx : K < x.length := by have := hof.len; omega
          have hx9 : x.length ≤ 900000 := by have := hof.len; omega
          have hvx := (fits_iff.1 hfx).1
          have hbd := (valid_iff.1 hvx).2.2.bounds x[K] (List.getElem_mem _)
          have HOF := hide hof
          have HRX := hide hrx
          have HFX := hide hfx
          have HS := hide (down90 _ _ _ x a b K wr hrx (HRA.out.below hbx (Nat.le_refl _)) (HRB.out.below hbx (Nat.le_refl _)) hvx hKx)
          have HMV := hide (fun v_ W (hW : Rd W v_ 4 x.length (chVals x)) => moved89 v_ x K (1) W hW hx9 hKx (by omega) (by omega))
          have e1 : IntKind.i64.wrap ((c : Int) + 1) = ((c + 1 : Nat) : Int) := by rw [IntWalk.i64_in _ (by omega)]; omega
          clear hof hrx hfx hvx hbd
          go_wp2_with fail
          refine HS.out.mono ?_
          rintro e w3 ⟨⟨r, rfl, hcan⟩, hb3⟩
          have hbx3 := hbx.trans (hb3.mono hbx.size)
          cases r with
          | true =>
            have HC := hide (hcan.1 rfl)
            have HB3 := hide hb3
            clear hcan hb3 HS
            go_wp2_with fail
            refine (HMV.out _ _ (HRX.out.below HB3.out (Nat.le_refl _))).mono ?_
            rintro e w4 ⟨v4, rfl, ho4, hb4⟩
            have hfx2 := fits_down HFX.out HC.out
            have hcb := (HOF.out.next HC.out).bound (by omega) hK HF.out hfx2
            have HR4 := hide (Rd.of_own ho4)
            have HB4 := hide (hbx3.trans (hb4.mono hbx3.size))
            have HFX2 := hide hfx2
            clear ho4 hb4 hfx2
            go_wp2_with fail
            go_roundw
            case rel => exact ⟨c + 1, _, by go_num, hcb, HOF.out.next HC.out, HFX2.out, by rw [mv_length]; exact HR4.out, HB4.out⟩
            case measure => simp [intOf]; omega
          | false =>
            have HCD := hide (HOF.out.fin (fun h => by simpa using hcan.2 h))
            clear hcan hb3 HS HMV HRX HFX HOF e1 hx9
            go_wp2_with fail
            go_returns
            exact ⟨.inr (.inr ⟨HF.out, K, u_, c, xu, x, rfl, hK, HCU.out, HCD.out, rfl⟩), hbx3⟩
end Go.Proofs.Ytagembkjmnfidaa
