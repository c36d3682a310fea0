import Derived.Test.YtagembkjmnfidaaPrs
import Derived.Test.YtagembkjmnfidaaSpecL
namespace Go.Proofs.Ytagembkjmnfidaa
open Go.RowKit
open Go.Proofs.Ml
set_option linter.unusedVariables false

/-- What the walk of a comparison, pair by pair, needs: the pair as natural numbers, both elements, and what either answer says. -/
theorem ft_pair {p : List Spn} {a b : List Int} {K : Nat} (ha : Asc 0 0 p a.length b.length) (hK : K < p.length) :
    ∃ (f t : Nat) (x y : Int) (hf : f < a.length) (ht : t < b.length), p[K].f = (f : Int) ∧ p[K].t = (t : Int) ∧ a[f] = x ∧ b[t] = y ∧ a[p[K].f.toNat]? = some x ∧ b[p[K].t.toNat]? = some y := by
  have hm := ha.mem p[K] (List.getElem_mem _)
  obtain ⟨f, hf⟩ := Int.eq_ofNat_of_zero_le hm.1
  obtain ⟨t, ht⟩ := Int.eq_ofNat_of_zero_le hm.2.2.1
  have h1 : f < a.length := by omega
  have h2 : t < b.length := by omega
  refine ⟨f, t, a[f], b[t], h1, h2, hf, ht, rfl, rfl, ?_, ?_⟩
  · rw [hf]; exact List.getElem?_eq_getElem h1
  · rw [ht]; exact List.getElem?_eq_getElem h2

set_option maxRecDepth 100000 in
set_option maxHeartbeats 1600000 in
theorem fits47 (v va vb : Value) (l : List Chg) (a b : List Int) (w : World) (hr : Rd w v 4 l.length (chVals l)) (hra : Rd w va 1 a.length (inVals a)) (hrb : Rd w vb 1 b.length (inVals b)) (hl : l.length ≤ 900000) :
    Calls Try.prog 47 #[v, va, vb] w fun e w' => e = .returned (.bool (fits l a b)) ∧ Below w.heap.size w w' := by
  have HR := hide hr
  obtain ⟨Aa, ca, rfl, hca, hca', hla, hAa⟩ := hra
  obtain ⟨Ab, cb, rfl, hcb, hcb', hlb, hAb⟩ := hrb
  clear hr hla hlb hca hcb hca' hcb'
  cases hv : valid l a.length b.length with
  | false =>
    have HE := hide (fits_false hv)
    have HV := hide hv
    clear hv hAa hAb
    go_enter Try.func47, Try.ntmps47
    go_wp2_with fail
    refine (check37 _ l _ _ _ HR.out (by omega)).mono ?_
    rintro e w1 ⟨rfl, hb1⟩
    rw [HV.out]
    simp only [errOf, Bool.false_eq_true, if_false]
    go_wp2_with fail
    go_ret
    exact ⟨ret_bool HE.out.symm, hb1⟩
  | true =>
    have HV := hide hv
    obtain ⟨p, hp⟩ : ∃ p, p = mat 0 0 l a.length := ⟨_, rfl⟩
    have hasc := mat_asc hv
    have hfin := fun K (h : FkInv (mat 0 0 l a.length) a b K) hK => h.fin hK hv
    have hbad := fun K (hK : K < (mat 0 0 l a.length).length) h => fits_bad (a := a) (b := b) hK h
    have hpl := mat_len hv
    rw [← hp] at hasc hfin hbad hpl
    have hPC := fun W (hW : Rd W v 4 l.length (chVals l)) => pairs78 v l a.length b.length W hW hv hl
    rw [← hp] at hPC
    have HFIN := hide hfin
    have HBAD := hide hbad
    have HASC := hide hasc
    have HPC := hide hPC
    clear hp hv hfin hbad hasc hPC
    go_enter Try.func47, Try.ntmps47
    go_wp2_with fail
    refine (check37 _ l _ _ _ HR.out (by omega)).mono ?_
    rintro e w1 ⟨rfl, hb1⟩
    rw [HV.out]
    simp only [errOf, if_true]
    go_wp2_with fail
    refine (HPC.out _ (HR.out.below hb1 (Nat.le_refl _))).mono ?_
    rintro e w2 ⟨pv, rfl, hown, hb2⟩
    obtain ⟨Ap, cp, rfl, hcp, hcp', hlp, hAp⟩ := Rd.of_own hown
    have s1 := hb1.size
    have c2 := hb1.trans (hb2.mono s1)
    have s2 := c2.size
    clear hlp hcp hcp' hown hb1 hb2
    go_wp2_with fail
    go_loopw [21] (fun k wr => ∃ (K : Nat), K ≤ p.length ∧ k = .int .i64 K ∧ Below w2.heap.size w2 wr ∧ FkInv p a b K)
      (fun k _ => p.length - (intOf k).toNat)
    case atStart => exact ⟨0, by omega, rfl, Below.refl _ _, FkInv.start _ _ _⟩
    case round =>
      obtain ⟨K, hK, rfl, hbel, hinv⟩ := hrel
      have hbs := hbel.size
      by_cases hlt : K < p.length
      · obtain ⟨b1, o1, rfl, hb1, hc1⟩ := hAp (by omega)
        have hbw : b1 < wr.heap.size := by omega
        obtain ⟨c0, c1⟩ := sp_cells hc1 hb1 hbel hlt
        obtain ⟨f, t, x, y, hf, ht, e1, e2, e3, e4, e5, e6⟩ := ft_pair HASC.out hlt
        obtain ⟨b3, o3, rfl, hb3, hc3⟩ := hAa (by omega)
        obtain ⟨b4, o4, rfl, hb4, hc4⟩ := hAb (by omega)
        have hbel0 := c2.trans (hbel.mono s2)
        have d3 := in_cells hc3 hb3 hbel0 hf
        have d4 := in_cells hc4 hb4 hbel0 ht
        have hbw3 : b3 < wr.heap.size := by omega
        have hbw4 : b4 < wr.heap.size := by omega
        rw [e1] at c0
        rw [e2] at c1
        rw [e3] at d3
        rw [e4] at d4
        have H1 := hide (fun h : x = y => hinv.next hlt (by rw [e5, e6, h]))
        have H2 := hide (fun h : ¬ x = y => HBAD.out K hlt (by rw [e5, e6]; simpa using h))
        clear hinv hc1 hAp hc3 hc4 e1 e2 e3 e4 e5 e6 hAa hAb
        have i1 : (0 : Int) ≤ (f : Int) := by omega
        have i2 : (f : Int) < (a.length : Int) := by omega
        have i3 : (0 : Int) ≤ (t : Int) := by omega
        have i4 : (t : Int) < (b.length : Int) := by omega
        by_cases hxy : x = y
        · have H3 := hide (H1.out hxy)
          have hn : ((x != y) : Bool) = false := by simp [hxy]
          clear H1 H2 hxy
          go_wp2_with fail
          go_quiet (fail)
          go_wp2_with fail
          go_roundw
          case rel => exact ⟨K + 1, by omega, by go_num, below_drewN (hbel.alloc hbs _) _, H3.out⟩
          case measure => simp [intOf]; omega
        · have H3 := hide (H2.out hxy)
          have hn : ((x != y) : Bool) = true := by simp [hxy]
          clear H1 H2 hxy
          go_wp2_with fail
          go_quiet (fail)
          go_wp2_with fail
          go_ret
          exact ⟨ret_bool H3.out.symm, c2.trans ((below_drewN (hbel.alloc hbs _) _).mono s2)⟩
      · have H3 := hide (HFIN.out K hinv (by omega))
        clear hinv hAp hAa hAb
        go_wp2_with fail
        go_ret
        exact ⟨ret_bool H3.out.symm, c2.trans (hbel.mono s2)⟩

set_option maxRecDepth 100000 in
set_option maxHeartbeats 1600000 in
theorem fits48 (v va vb : Value) (l : List Chg) (a b : List Int) (w : World) (hr : Rd w v 4 l.length (chVals l)) (hra : Rd w va 1 a.length (inVals a)) (hrb : Rd w vb 1 b.length (inVals b)) (hl : l.length ≤ 900000) :
    Calls Try.prog 48 #[v, va, vb] w fun e w' => e = .returned (.bool (fits l a b)) ∧ Below w.heap.size w w' := by
  have HR := hide hr
  obtain ⟨Aa, ca, rfl, hca, hca', hla, hAa⟩ := hra
  obtain ⟨Ab, cb, rfl, hcb, hcb', hlb, hAb⟩ := hrb
  clear hr hla hlb hca hcb hca' hcb'
  cases hv : valid l a.length b.length with
  | false =>
    have HE := hide (fits_false hv)
    have HV := hide hv
    have HP := hide (prRes_bad hv)
    clear hv hAa hAb
    go_enter Try.func48, Try.ntmps48
    go_wp2_with fail
    refine (prs40 _ l _ _ _ HR.out hl).mono ?_
    rintro e w1 ⟨pv, rfl, hown, hb1⟩
    rw [HV.out]
    simp only [errOf, Bool.false_eq_true, if_false]
    go_wp2_with fail
    go_ret
    exact ⟨ret_bool HE.out.symm, hb1⟩
  | true =>
    have HV := hide hv
    obtain ⟨p, hp⟩ : ∃ p, p = mat 0 0 l a.length := ⟨_, rfl⟩
    have hasc := mat_asc hv
    have hfin := fun K (h : FkInv (mat 0 0 l a.length) a b K) hK => h.fin hK hv
    have hbad := fun K (hK : K < (mat 0 0 l a.length).length) h => fits_bad (a := a) (b := b) hK h
    have hpl := mat_len hv
    have hpr := prRes_ok hv
    rw [← hp] at hasc hfin hbad hpl hpr
    have HFIN := hide hfin
    have HBAD := hide hbad
    have HASC := hide hasc
    have HPR := hide hpr
    clear hp hv hfin hbad hasc hpr
    go_enter Try.func48, Try.ntmps48
    go_wp2_with fail
    refine (prs40 _ l _ _ _ HR.out hl).mono ?_
    rintro e w2 ⟨pv, rfl, hown, hb2⟩
    rw [HPR.out] at hown
    rw [HV.out]
    simp only [errOf, if_true]
    obtain ⟨Ap, cp, rfl, hcp, hcp', hlp, hAp⟩ := Rd.of_own hown
    have c2 := hb2
    have s2 := c2.size
    clear hlp hcp hcp' hown hb2
    go_wp2_with fail
    go_loopw [9] (fun k wr => ∃ (K : Nat), K ≤ p.length ∧ k = .int .i64 K ∧ Below w2.heap.size w2 wr ∧ FkInv p a b K)
      (fun k _ => p.length - (intOf k).toNat)
    case atStart => exact ⟨0, by omega, rfl, Below.refl _ _, FkInv.start _ _ _⟩
    case round =>
      obtain ⟨K, hK, rfl, hbel, hinv⟩ := hrel
      have hbs := hbel.size
      by_cases hlt : K < p.length
      · obtain ⟨b1, o1, rfl, hb1, hc1⟩ := hAp (by omega)
        have hbw : b1 < wr.heap.size := by omega
        obtain ⟨c0, c1⟩ := sp_cells hc1 hb1 hbel hlt
        obtain ⟨f, t, x, y, hf, ht, e1, e2, e3, e4, e5, e6⟩ := ft_pair HASC.out hlt
        obtain ⟨b3, o3, rfl, hb3, hc3⟩ := hAa (by omega)
        obtain ⟨b4, o4, rfl, hb4, hc4⟩ := hAb (by omega)
        have hbel0 := c2.trans (hbel.mono s2)
        have d3 := in_cells hc3 hb3 hbel0 hf
        have d4 := in_cells hc4 hb4 hbel0 ht
        have hbw3 : b3 < wr.heap.size := by omega
        have hbw4 : b4 < wr.heap.size := by omega
        rw [e1] at c0
        rw [e2] at c1
        rw [e3] at d3
        rw [e4] at d4
        have H1 := hide (fun h : x = y => hinv.next hlt (by rw [e5, e6, h]))
        have H2 := hide (fun h : ¬ x = y => HBAD.out K hlt (by rw [e5, e6]; simpa using h))
        clear hinv hc1 hAp hc3 hc4 e1 e2 e3 e4 e5 e6 hAa hAb
        have i1 : (0 : Int) ≤ (f : Int) := by omega
        have i2 : (f : Int) < (a.length : Int) := by omega
        have i3 : (0 : Int) ≤ (t : Int) := by omega
        have i4 : (t : Int) < (b.length : Int) := by omega
        have k0 : (0 : Int) ≤ (K : Int) := by omega
        have k1 : (K : Int) < (p.length : Int) := by omega
        by_cases hxy : x = y
        · have H3 := hide (H1.out hxy)
          have hn : ((x != y) : Bool) = false := by simp [hxy]
          clear H1 H2 hxy
          go_wp2_with fail
          go_quiet (fail)
          go_wp2_with fail
          go_roundw
          case rel => exact ⟨K + 1, by omega, by go_num, below_drewN hbel _, H3.out⟩
          case measure => simp [intOf]; omega
        · have H3 := hide (H2.out hxy)
          have hn : ((x != y) : Bool) = true := by simp [hxy]
          clear H1 H2 hxy
          go_wp2_with fail
          go_quiet (fail)
          go_wp2_with fail
          go_ret
          exact ⟨ret_bool H3.out.symm, c2.trans ((below_drewN hbel _).mono s2)⟩
      · have H3 := hide (HFIN.out K hinv (by omega))
        clear hinv hAp hAa hAb
        go_wp2_with fail
        go_ret
        exact ⟨ret_bool H3.out.symm, c2.trans (hbel.mono s2)⟩
end Go.Proofs.Ytagembkjmnfidaa
