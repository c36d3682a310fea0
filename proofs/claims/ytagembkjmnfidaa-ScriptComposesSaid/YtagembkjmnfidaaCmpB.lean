import Derived.Test.YtagembkjmnfidaaPrs
import Derived.Test.YtagembkjmnfidaaBaseH
import Derived.Test.YtagembkjmnfidaaMade
import Derived.StillTailTactics
import Derived.Deep.AppendLies
import Derived.Deep.RegionHeld3
namespace Go.Proofs.Ytagembkjmnfidaa
open Go.RowKit
open Go.Proofs.Ml
set_option linter.unusedVariables false

set_option maxRecDepth 100000 in
set_option maxHeartbeats 3200000 in
theorem cmp51 (v v' : Value) (x y : List Chg) (m k n : Int) (w : World) (hr : Rd w v 4 x.length (chVals x)) (hr' : Rd w v' 4 y.length (chVals y)) (hl : x.length ≤ 900000) (hl' : y.length ≤ 900000) :
    Calls Try.prog 51 #[v, v', .int .i64 m, .int .i64 k, .int .i64 n] w (RetRowErr w 45 4 (cpRes x y m k n).length (chVals (cpRes x y m k n)) (errOf (cpOk x y m k n))) := by
  have HX := hide hr
  have HY := hide hr'
  clear hr hr'
  cases hv : valid x m k with
  | false =>
    have HE := hide (cp_bad1 (y := y) (n := n) hv)
    have HV := hide hv
    clear hv
    go_enter Try.func51, Try.ntmps51
    go_wp2_with fail
    refine (check38 _ x m k _ HX.out (by omega)).mono ?_
    rintro e w1 ⟨rfl, hb1⟩
    rw [HV.out]
    simp only [errOf, Bool.false_eq_true, if_false]
    go_wp2_with fail
    go_ret2
    obtain ⟨E1, E2⟩ := HE.out
    exact ret_row_err (n' := 0) (cs' := []) (World.ownsRow_nil _ _ _ _) hb1 (by rw [E2]; rfl) (by rw [E2]; rfl) (by rw [E1]; rfl)
  | true =>
  cases hv' : valid y k n with
  | false =>
    have HE := hide (cp_bad2 (x := x) (m := m) hv')
    have HV := hide hv
    have HV' := hide hv'
    clear hv hv'
    go_enter Try.func51, Try.ntmps51
    go_wp2_with fail
    refine (check38 _ x m k _ HX.out (by omega)).mono ?_
    rintro e w1 ⟨rfl, hb1⟩
    rw [HV.out]
    simp only [errOf, if_true]
    go_wp2_with fail
    refine (check38 _ y k n _ (HY.out.below hb1 (Nat.le_refl _)) (by omega)).mono ?_
    rintro e w2 ⟨rfl, hb2⟩
    rw [HV'.out]
    simp only [errOf, Bool.false_eq_true, if_false]
    go_wp2_with fail
    go_ret2
    obtain ⟨E1, E2⟩ := HE.out
    exact ret_row_err (n' := 0) (cs' := []) (World.ownsRow_nil _ _ _ _) (hb1.trans (hb2.mono hb1.size)) (by rw [E2]; rfl) (by rw [E2]; rfl) (by rw [E1]; rfl)
  | true =>
  have HE := hide (cp_ok hv hv')
  have HV := hide hv
  have HV' := hide hv'
  have hi1 := valid_iff.1 hv
  have hi2 := valid_iff.1 hv'
  obtain ⟨m0, m1⟩ := hi1.1
  obtain ⟨k0, k1⟩ := hi1.2.1
  obtain ⟨n0, n1⟩ := hi2.2.1
  have hpl := mat_len hv
  have hql := mat_len hv'
  have hpa := mat_asc hv
  have hqa := mat_asc hv'
  have HPX := hide (fun W (hW : Rd W v 4 x.length (chVals x)) => matched46 v x m k W hW hv hl)
  have HPY := hide (fun W (hW : Rd W v' 4 y.length (chVals y)) => matched46 v' y k n W hW hv' hl')
  have HCO : Hid (comp x y m k n = made 0 0 (compP (mat 0 0 x m) (mat 0 0 y k)) m n) := hide rfl
  generalize mat 0 0 x m = p at *
  generalize mat 0 0 y k = q at *
  have HPA := hide hpa
  have HQA := hide hqa
  clear hv hv' hi1 hi2 hpa hqa
  go_enter Try.func51, Try.ntmps51
  go_wp2_with fail
  refine (check38 _ x m k _ HX.out (by omega)).mono ?_
  rintro e w1 ⟨rfl, hb1⟩
  rw [HV.out]
  simp only [errOf, if_true]
  have s1 := hb1.size
  go_wp2_with fail
  refine (check38 _ y k n _ (HY.out.below hb1 (Nat.le_refl _)) (by omega)).mono ?_
  rintro e w2 ⟨rfl, hb2⟩
  rw [HV'.out]
  simp only [errOf, if_true]
  have c2 := hb1.trans (hb2.mono s1)
  have s2 := c2.size
  clear hb1 hb2
  go_wp2_with fail
  refine (HPX.out _ (HX.out.below c2 (Nat.le_refl _))).mono ?_
  rintro e w3 ⟨pv, rfl, hownp, hb3⟩
  have c3 := c2.trans (hb3.mono s2)
  have s3 := c3.size
  have hrp := Rd.of_own hownp
  clear hb3 hownp
  go_wp2_with fail
  refine (HPY.out _ (HY.out.below c3 (Nat.le_refl _))).mono ?_
  rintro e w4 ⟨qv, rfl, hownq, hb4⟩
  have c4 := c3.trans (hb4.mono s3)
  have s4 := c4.size
  obtain ⟨Ap, cp, rfl, _, _, _, hAp⟩ := hrp.below hb4 (Nat.le_refl _)
  obtain ⟨Aq, cq, rfl, _, _, _, hAq⟩ := Rd.of_own hownq
  clear hrp hb4 hownq
  go_wp2_with fail
  go_loopw [16, 17] (fun v k wr => ∃ (A : Nat) (L : List Spn), A ≤ p.length ∧ k = .int .i64 A ∧ L.length ≤ 4096 ∧ wr.ownsRow w4.heap.size 35 2 v L.length (spVals L) ∧ Below w4.heap.size w4 wr ∧ L = compP (p.take A) q)
    (fun _ k _ => p.length - (intOf k).toNat)
  case atStart => exact ⟨0, [], by omega, rfl, by simp, World.ownsRow_nil _ _ _ _, Below.refl _ _, by simp [compP]⟩
  case round =>
    obtain ⟨A, L, hA, rfl, hL, hown, hbel, hinv⟩ := hrel
    obtain ⟨wo, rfl⟩ : ∃ wo : World, wo = wr := ⟨_, rfl⟩
    have hbs := hbel.size
    by_cases hlt : A < p.length
    · obtain ⟨b, off, rfl, hb, hc⟩ := hAp (by omega)
      have HC := hide (fun (wx : World) (hbx : Below w4.heap.size w4 wx) => sp_cells hc hb hbx hlt)
      have HI := hide (CpInv.start (a := p[A]) hinv)
      have HFI := hide (fun B L (h : CpInv p q A p[A] B L) hB => h.fin hlt hB)
      clear hinv hc hAp
      generalize p[A] = PA at *
      obtain ⟨F, T⟩ := PA
      simp only at HC
      have k0 : (0 : Int) ≤ (A : Int) := by omega
      have k1 : (A : Int) < (p.length : Int) := by omega
      go_wp2_with fail
      go_loopw [16, 18] (fun v k wr => ∃ (B : Nat) (L : List Spn), B ≤ q.length ∧ k = .int .i64 B ∧ L.length ≤ 9000 ∧ wr.ownsRow w4.heap.size 35 2 v L.length (spVals L) ∧ Below w4.heap.size w4 wr ∧ CpInv p q A ⟨F, T⟩ B L)
        (fun _ k _ => q.length - (intOf k).toNat)
      case atStart => exact ⟨0, L, by omega, rfl, by omega, hown, hbel, HI.out⟩
      case round =>
        obtain ⟨B, L', hB, rfl, hL', hown', hbel', hinv'⟩ := hrel
        have hbs' := hbel'.size
        have hbw : b < wr.heap.size := by omega
        obtain ⟨c0, c1⟩ := HC.out wr hbel'
        by_cases hlt2 : B < q.length
        · obtain ⟨b2, off2, rfl, hb2, hc2⟩ := hAq (by omega)
          have hbw2 : b2 < wr.heap.size := by omega
          obtain ⟨d0, d1⟩ := sp_cells hc2 hb2 hbel' hlt2
          have H1 := hide (fun h => hinv'.yes hlt2 h)
          have H2 := hide (fun h => hinv'.no hlt2 h)
          clear hinv' hc2 hAq
          generalize q[B] = QB at *
          obtain ⟨F2, T2⟩ := QB
          simp only at d0 d1 H1 H2
          have j0 : (0 : Int) ≤ (B : Int) := by omega
          have j1 : (B : Int) < (q.length : Int) := by omega
          by_cases he : T = F2
          · have H3 := hide (H1.out he)
            have hE : ((T == F2) : Bool) = true := by simp [he]
            clear H1 H2 he
            go_wp2_with fail
            go_quiet (fail)
            go_wp2_with fail
            go_region_held3 (fun w' => w'.cell? ⟨b, off + A * 2, none⟩ = some (.int .i64 F) ∧ w'.cell? ⟨b2, off2 + B * 2 + 1, none⟩ = some (.int .i64 T2))
              (first | go_keep | exact ⟨(hb6.cell (p := ⟨b, off + A * 2, none⟩) hb).trans c0, (hb6.cell (p := ⟨b2, off2 + B * 2 + 1, none⟩) hb2).trans d1⟩)
              ((refine step_app1 rfl (.tmp 62) (.tmp 74) 50 35 2 16 _ (by rfl) Try.underlying50 info35 rfl (by omega) (by omega) wr (wr.drewN nq).drew w4.heap.size L'.length _ (spVals L') (by rfl) _ _ (by rfl) rfl (by rfl) hown' (own_drew (own_drewN hown' _)) (Nat.le_refl _) rfl rfl (by omega) hbs' ?_; intro v2 w6 hown2 hb6 hold hsz2))
            clear hold
            go_wp2_with fail
            go_roundw
            case rel => exact ⟨B + 1, L' ++ [⟨F, T2⟩], by omega, by go_num, by have := H3.out.len HPA.out HQA.out m1; omega, own_sp (c := ⟨F, T2⟩) hown2, hbel'.trans ((below_drewN (Below.refl _ wr) _).drew.trans hb6), H3.out⟩
            case measure => simp [intOf]; omega
          · have H3 := hide (H2.out he)
            have hE : ((T == F2) : Bool) = false := by simp [he]
            clear H1 H2 he
            go_wp2_with fail
            go_quiet (fail)
            go_wp2_with fail
            go_roundw
            case rel => exact ⟨B + 1, L', by omega, by go_num, hL', own_drewN hown' _, below_drewN hbel' _, H3.out⟩
            case measure => simp [intOf]; omega
        · have H3 := hide (HFI.out B L' hinv' (by omega))
          clear hinv' hAq
          go_wp2_with fail
          go_roundw
          case rel => exact ⟨A + 1, L', by omega, by go_num, by have h1 := compP_len HPA.out HQA.out (Int.le_refl _) (A + 1); rw [← H3.out] at h1; omega, hown', hbel', H3.out⟩
          case measure => simp [intOf]; omega
    · have hLe : L = compP p q := by rw [hinv, List.take_of_length_le (by omega)]
      have hasc := HPA.out.compP HQA.out (Int.le_refl _)
      rw [← hLe] at hasc
      have hmem := hasc.mem
      have HF := hide (fun v_ (h : wo.ownsRow w4.heap.size 35 2 v_ L.length (spVals L)) => made63 v_ L m n wo (Rd.of_own h) (by omega) (fun s hs => by have := hmem s hs; omega) ⟨m0, m1⟩ ⟨n0, n1⟩)
      have HLE := hide hLe
      clear hinv hAp hAq hmem hasc hLe
      go_wp2_with fail
      refine (HF.out _ hown).mono ?_
      rintro e w7 ⟨v7, rfl, hown7, hb7⟩
      go_wp2_with fail
      go_ret2
      obtain ⟨E1, E2⟩ := HE.out
      have hR : cpRes x y m k n = made 0 0 L m n := by rw [E2, HCO.out, HLE.out]
      exact ret_row_err (own_base hown7 (by omega)) (c4.trans ((hbel.trans (hb7.mono hbs)).mono s4)) (by rw [hR]) (by rw [hR]) (by rw [E1]; rfl)
end Go.Proofs.Ytagembkjmnfidaa
