import Derived.Test.YtagembkjmnfidaaPrs
import Derived.Test.YtagembkjmnfidaaBaseH
import Derived.Test.YtagembkjmnfidaaFrmB
namespace Go.Proofs.Ytagembkjmnfidaa
open Go.RowKit
open Go.Proofs.Ml
set_option linter.unusedVariables false

set_option maxRecDepth 100000 in
set_option maxHeartbeats 3200000 in
theorem cmp50 (v v' : Value) (x y : List Chg) (m k n : Int) (w : World) (hr : Rd w v 4 x.length (chVals x)) (hr' : Rd w v' 4 y.length (chVals y)) (hl : x.length ≤ 900000) (hl' : y.length ≤ 900000) :
    Calls Try.prog 50 #[v, v', .int .i64 m, .int .i64 k, .int .i64 n] w (RetRowErr w 45 4 (cpRes x y m k n).length (chVals (cpRes x y m k n)) (errOf (cpOk x y m k n))) := by
  have HX := hide hr
  have HY := hide hr'
  clear hr hr'
  cases hv : valid x m k with
  | false =>
    have HE := hide (cp_bad1 (y := y) (n := n) hv)
    have HV := hide hv
    clear hv
    go_enter Try.func50, Try.ntmps50
    go_wp2_with fail
    refine (check37 _ x m k _ HX.out (by omega)).mono ?_
    rintro e w1 ⟨rfl, hb1⟩
    rw [HV.out]
    simp only [errOf, Bool.false_eq_true, if_false]
    go_wp2_with fail
    go_ret2
    obtain ⟨E1, E2⟩ := HE.out
    exact ret_row_err (n' := 0) (cs' := []) (World.ownsRow_nil _ _ _ _) hb1 (by rw [E2]; rfl) (by rw [E2]; rfl) (by rw [E1]; rfl)
  | true =>
  cases hv' : valid y k n with
  | false =>
    have HE := hide (cp_bad2 (x := x) (m := m) hv')
    have HV := hide hv
    have HV' := hide hv'
    clear hv hv'
    go_enter Try.func50, Try.ntmps50
    go_wp2_with fail
    refine (check37 _ x m k _ HX.out (by omega)).mono ?_
    rintro e w1 ⟨rfl, hb1⟩
    rw [HV.out]
    simp only [errOf, if_true]
    go_wp2_with fail
    refine (check37 _ y k n _ (HY.out.below hb1 (Nat.le_refl _)) (by omega)).mono ?_
    rintro e w2 ⟨rfl, hb2⟩
    rw [HV'.out]
    simp only [errOf, Bool.false_eq_true, if_false]
    go_wp2_with fail
    go_ret2
    obtain ⟨E1, E2⟩ := HE.out
    exact ret_row_err (n' := 0) (cs' := []) (World.ownsRow_nil _ _ _ _) (hb1.trans (hb2.mono hb1.size)) (by rw [E2]; rfl) (by rw [E2]; rfl) (by rw [E1]; rfl)
  | true =>
  have HE := hide (cp_ok hv hv')
  have HV := hide hv
  have HV' := hide hv'
  have hi1 := valid_iff.1 hv
  have hi2 := valid_iff.1 hv'
  obtain ⟨m0, m1⟩ := hi1.1
  obtain ⟨k0, k1⟩ := hi1.2.1
  obtain ⟨n0, n1⟩ := hi2.2.1
  have hpl := mat_len hv
  have hql := mat_len hv'
  have hpa := mat_asc hv
  have hqa := mat_asc hv'
  obtain ⟨M, rfl⟩ := Int.eq_ofNat_of_zero_le k0
  have HPX := hide (fun W (hW : Rd W v 4 x.length (chVals x)) => pairs78 v x m M W hW hv hl)
  have HPY := hide (fun W (hW : Rd W v' 4 y.length (chVals y)) => pairs78 v' y M n W hW hv' hl')
  have HCO : Hid (comp x y m M n = made 0 0 (compP (mat 0 0 x m) (mat 0 0 y M)) m n) := hide rfl
  generalize mat 0 0 x m = p at *
  generalize mat 0 0 y (M : Int) = q at *
  have HPA := hide hpa
  have HQA := hide hqa
  clear hv hv' hi1 hi2 hpa hqa
  obtain ⟨i0, hi, hz0, hz1, hz2⟩ := info_parts info3
  go_enter Try.func50, Try.ntmps50
  go_wp2_with fail
  refine (check37 _ x m M _ HX.out (by omega)).mono ?_
  rintro e w1 ⟨rfl, hb1⟩
  rw [HV.out]
  simp only [errOf, if_true]
  have s1 := hb1.size
  go_wp2_with fail
  refine (check37 _ y M n _ (HY.out.below hb1 (Nat.le_refl _)) (by omega)).mono ?_
  rintro e w2 ⟨rfl, hb2⟩
  rw [HV'.out]
  simp only [errOf, if_true]
  have c2 := hb1.trans (hb2.mono s1)
  have s2 := c2.size
  clear hb1 hb2
  go_wp2_with (at_make; go_must (refine wpList_make_full _ rfl _ _ 22 rfl w2.heap.size 3 i0 _ 1 Try.underlying22 hi hz0 hz1 _ _ _ _ M rfl rfl rfl rfl (by rw [hz2]; omega) (by simp only [maxLen]; omega) (Nat.le_refl _) ?_); intro w3 hown3 hg3)
  rw [made_ints] at hown3
  have c3 : Below w.heap.size w w3 := c2.grown hg3 s2 (by intro k hk; cases hk)
  have s3 := c3.size
  have s32 : w2.heap.size < w3.heap.size := (hown3.lt w2.heap.size rfl).2
  clear hi hz0 hz1 hz2 hg3
  refine (HPY.out _ (HY.out.below c3 (Nat.le_refl _))).mono ?_
  rintro e w4 ⟨qv, rfl, hownq, hb4⟩
  have c4 := c3.trans (hb4.mono s3)
  have s4 := c4.size
  have s43 := hb4.size
  have hown4 := own_below hown3 hb4 (Nat.le_refl _)
  have hrq := Rd.of_own hownq
  obtain ⟨Aq, capq, rfl, hgq⟩ := own_open hownq
  obtain ⟨Aq', capq', hvq, _, _, _, hAq⟩ := hrq
  obtain ⟨rfl, rfl⟩ : Aq = Aq' ∧ capq = capq' := by injection hvq with e1 e2 e3; exact ⟨e1, e3⟩
  clear hvq hownq hown3
  go_wp2_with fail
  go_loopw [41] (fun k wr => ∃ (K : Nat) (P : List Int), K ≤ q.length ∧ k = .int .i64 K ∧ P.length = M ∧ wr.ownsRow w2.heap.size 3 1 (.slice (some ⟨w2.heap.size, 0, none⟩) M M) M (inVals P) ∧ w4.grownBy wr (some w2.heap.size) ∧ PtInv q K P)
    (fun k _ => q.length - (intOf k).toNat)
  case atStart => exact ⟨0, _, by omega, rfl, by simp, hown4, only_refl _ _, PtInv.start q M⟩
  case round =>
    obtain ⟨K, P, hK, rfl, hPl, hown, hon, hinv⟩ := hrel
    obtain ⟨wo, rfl⟩ : ∃ wo : World, wo = wr := ⟨_, rfl⟩
    have hos := hon.size
    by_cases hlt : K < q.length
    · obtain ⟨b, off, rfl, hb, hc⟩ := hAq (by omega)
      obtain ⟨g, hgg, hg0, hg1⟩ := hgq (by omega)
      have hbg : b ≠ w2.heap.size := by
        injection hgg with hgg
        injection hgg with hgg _ _
        omega
      have hbw : b < wo.heap.size := by omega
      have c0 : wo.cell? ⟨b, off + K * 2, none⟩ = some (.int .i64 q[K].f) := only_cell hon (hc (K * 2 + 0) _ (flatMap_get spCells 2 (fun _ => rfl) q K 0 hlt (by omega))) hbg
      have c1 : wo.cell? ⟨b, off + K * 2 + 1, none⟩ = some (.int .i64 q[K].t) := only_cell hon (hc (K * 2 + 1) _ (flatMap_get spCells 2 (fun _ => rfl) q K 1 hlt (by omega))) hbg
      obtain ⟨a1, a2, a3, a4⟩ := HQA.out.mem q[K] (List.getElem_mem _)
      have HN := hide (hinv.step HQA.out hlt a1)
      obtain ⟨f, hf⟩ := Int.eq_ofNat_of_zero_le a1
      rw [hf] at c0 HN a2
      rw [Int.toNat_natCast] at HN
      have hfP : f < P.length := by omega
      have hcell := own_in_cell hown f hfP
      have hz := hown.frozenAt f
      have hown' := fun (o : Obj) (u : Int) => (own_in_set hown f u).alloc o
      have HO := hide hown'
      have HON := hide hon
      have HPL := hide hPl
      have hgb : w2.heap.size < wo.heap.size := by omega
      clear hinv hc hAq hgq hgg hf a1 hown hown' hon hPl
      generalize q[K].t = t at *
      generalize P[f] = old at *
      have i1 : (0 : Int) ≤ (f : Int) := by omega
      go_wp2_with fail
      go_roundw
      case rel => exact ⟨K + 1, P.set f (t + 1), by omega, by go_num, by rw [List.length_set]; exact HPL.out, HO.out _ _, only_alloc (only_setCell (p := ⟨w2.heap.size, f, none⟩) HON.out rfl _) _, HN.out⟩
      case measure => simp [intOf]; omega
    · have HP := hide (hinv.fin (show K = q.length by omega))
      have HPL := hide hPl
      have cr := c4.trans (only_below hon s4 (by omega : w.heap.size ≤ w2.heap.size))
      have sr := cr.size
      clear hinv hAq hgq hon hPl
      go_wp2_with fail
      refine (HPX.out _ (HX.out.below cr (Nat.le_refl _))).mono ?_
      rintro e w5 ⟨pv, rfl, hownp, hb5⟩
      have c5 := cr.trans (hb5.mono sr)
      have s5 := c5.size
      have hb5s := hb5.size
      obtain ⟨Ap, capp, rfl, _, _, _, hAp⟩ := Rd.of_own hownp
      have hgr : w2.heap.size < wo.heap.size := (hown.lt w2.heap.size rfl).2
      have HC5 := hide (fun (f : Nat) (hf : f < P.length) => (hb5.cell (p := ⟨w2.heap.size, f, none⟩) hgr).trans (own_in_cell hown f hf))
      clear hown hownp hb5
      go_wp2_with fail
      go_loopw [17, 57] (fun v k wr => ∃ (A : Nat) (L : List Spn), A ≤ p.length ∧ k = .int .i64 A ∧ L.length ≤ 4096 ∧ wr.ownsRow w5.heap.size 35 2 v L.length (spVals L) ∧ Below w5.heap.size w5 wr ∧ L = compP (p.take A) q)
        (fun _ k _ => p.length - (intOf k).toNat)
      case atStart => exact ⟨0, [], by omega, rfl, by simp, World.ownsRow_nil _ _ _ _, Below.refl _ _, by simp [compP]⟩
      case round =>
        obtain ⟨A, L, hA, rfl, hL, hown, hbel, hinv⟩ := hrel
        obtain ⟨wr2, rfl⟩ : ∃ wr2 : World, wr2 = wr := ⟨_, rfl⟩
        have hbs := hbel.size
        by_cases hlt : A < p.length
        · obtain ⟨b, off, rfl, hb, hc⟩ := hAp (by omega)
          have hbw : b < wr2.heap.size := by omega
          obtain ⟨c0, c1⟩ := sp_cells hc hb hbel hlt
          obtain ⟨a1, a2, a3, a4⟩ := HPA.out.mem p[A] (List.getElem_mem _)
          have hN := compP_step HQA.out (Int.le_refl _) hlt hinv
          obtain ⟨T, hT⟩ := Int.eq_ofNat_of_zero_le a3
          have hTP : T < P.length := by rw [HPL.out]; omega
          have hcell := (hbel.cell (p := ⟨w2.heap.size, T, none⟩) (show w2.heap.size < w5.heap.size by omega)).trans (HC5.out T hTP)
          rw [HP.out T hTP] at hcell
          obtain ⟨j0, j1⟩ := par_range HQA.out n0 T
          rw [hT] at c1 hN a4
          have hgb : w2.heap.size < wr2.heap.size := by omega
          generalize par q (T : Int) = j at *
          have HN := hide hN
          clear hN hinv hc hAp hT a3 HC5
          generalize p[A].f = F at *
          have i1 : (0 : Int) ≤ (T : Int) := by omega
          have hTM : (T : Int) < (M : Int) := by omega
          by_cases hj : 0 < j
          · rw [if_pos hj] at HN
            go_wp2_with (at_builtin; go_must (refine wp_app1 rfl (.tmp 68) (.tmp 74) 50 35 2 16 _ rfl Try.underlying50 info35 rfl (by omega) (by omega) wr2 _ w5.heap.size L.length _ (spVals L) rfl _ _ rfl (by simp) hown (hown.alloc _) (by simp) rfl rfl (by omega) hbs ?_); intro v1 w6 hown1 hb6 hold hsz6; clear hold)
            go_roundw
            case rel => exact ⟨A + 1, L ++ [⟨F, j - 1⟩], by omega, by go_num, by have h1 := compP_len HPA.out HQA.out (Int.le_refl _) (A + 1); rw [HN.out] at h1; omega, own_sp (c := ⟨F, j - 1⟩) hown1, (hbel.alloc hbs _).trans hb6, HN.out.symm⟩
            case measure => simp [intOf]; omega
          · rw [if_neg hj, List.append_nil] at HN
            go_wp2_with fail
            go_roundw
            case rel => exact ⟨A + 1, L, by omega, by go_num, hL, hown.alloc _, hbel.alloc hbs _, HN.out.symm⟩
            case measure => simp [intOf]; omega
        · have hLe : L = compP p q := by rw [hinv, List.take_of_length_le (by omega)]
          have hasc := HPA.out.compP HQA.out (Int.le_refl _)
          rw [← hLe] at hasc
          have hmem := hasc.mem
          have HF := hide (fun v_ (h : wr2.ownsRow w5.heap.size 35 2 v_ L.length (spVals L)) => from79 v_ L m n wr2 (Rd.of_own h) (by omega) (fun s hs => by have := hmem s hs; omega) ⟨m0, m1⟩ ⟨n0, n1⟩)
          have HLE := hide hLe
          clear hinv hAp hmem hasc HC5 hLe
          go_wp2_with fail
          refine (HF.out _ hown).mono ?_
          rintro e w7 ⟨v7, rfl, hown7, hb7⟩
          go_wp2_with fail
          go_ret2
          obtain ⟨E1, E2⟩ := HE.out
          have hR : cpRes x y m M n = made 0 0 L m n := by rw [E2, HCO.out, HLE.out]
          exact ret_row_err (own_base hown7 (by omega)) (c5.trans ((hbel.trans (hb7.mono hbs)).mono s5)) (by rw [hR]) (by rw [hR]) (by rw [E1]; rfl)
end Go.Proofs.Ytagembkjmnfidaa
