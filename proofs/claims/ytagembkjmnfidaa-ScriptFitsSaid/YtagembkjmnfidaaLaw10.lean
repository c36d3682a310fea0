import Derived.Test.YtagembkjmnfidaaAwkS
import Derived.Test.YtagembkjmnfidaaFts
import Derived.Test.YtagembkjmnfidaaSec
import Derived.Test.YtagembkjmnfidaaBaseJ
import Derived.RegionTactic
import Derived.ChangeAlike
import Derived.BigRegion
import Derived.Deep.DeepCutAuto
namespace Go.Proofs.Ytagembkjmnfidaa
open Go.RowKit
open Go.Proofs.Ml
set_option linter.unusedVariables false

set_option maxRecDepth 100000 in
set_option maxHeartbeats 3200000 in
theorem walk10 (w : World) (v0 : Value) (z0 : List Int) (r0 : Rd w v0 1 z0.length (inVals z0)) (b0 : z0.length ≤ 9223372036854775807) (v1 : Value) (l : List Chg) (r1 : Rd w v1 4 l.length (chVals l)) (b1 : l.length ≤ 9223372036854775807) (v2 : Value) (a : List Int) (r2 : Rd w v2 1 a.length (inVals a)) (b2 : a.length ≤ 9223372036854775807) (v3 : Value) (b : List Int) (r3 : Rd w v3 1 b.length (inVals b)) (b3 : b.length ≤ 9223372036854775807)
    (at_ : Int) (b4 : -9223372036854775808 ≤ at_ ∧ at_ ≤ 9223372036854775807) (by_ : Int) (b5 : -9223372036854775808 ≤ by_ ∧ by_ ≤ 9223372036854775807) :
    Calls Try.prog 10 #[v0, v1, v2, v3, .int .i64 at_, .int .i64 by_] w fun e w' => e = .returned (.bool true) ∧ Below w.heap.size w w' := by
  have H0 := hide r0
  have H1 := hide r1
  have H2 := hide r2
  have H3 := hide r3
  have J1 := hide r1
  have J2 := hide r2
  have J3 := hide r3
  clear r0
  obtain ⟨A1, cap1, rfl, _, _, _, _⟩ := r1
  obtain ⟨A2, cap2, rfl, _, _, _, _⟩ := r2
  obtain ⟨A3, cap3, rfl, _, _, _, _⟩ := r3
  by_cases hx : 10 < l.length ∨ 12 < a.length ∨ 12 < b.length
  · have hy : 10 < l.length ∨ (l.length ≤ 10 ∧ 12 < a.length) ∨ (l.length ≤ 10 ∧ a.length ≤ 12 ∧ 12 < b.length) := by omega
    clear hx
    rcases hy with hy | ⟨hy, hy'⟩ | ⟨hy, hy', hy''⟩
    all_goals
      go_enter Try.func10, Try.ntmps10
      go_wp2_with fail
      refine (awake35 _).mono ?_
      rintro e w' ⟨rfl, hb⟩
      go_wp2_with fail
      go_ret
      exact ⟨rfl, hb⟩
  have hl10 : l.length ≤ 10 := by omega
  have ha12 : a.length ≤ 12 := by omega
  have hb12 : b.length ≤ 12 := by omega
  clear hx b1 b2 b3
  go_enter Try.func10, Try.ntmps10
  go_wp2_with fail
  refine (script27 _ z0 0 _ H0.out b0 (by omega) (by omega)).mono ?_
  rintro e W1 ⟨vx, x, mx, nx, rfl, hval, hmx, hnx, hlx, hox, hb1⟩
  have c1 := hb1
  have s1 := c1.size
  have t1 := hb1.size
  replace H0 := hide (H0.out.below hb1 (Nat.le_refl _))
  replace H1 := hide (H1.out.below hb1 (Nat.le_refl _))
  replace H2 := hide (H2.out.below hb1 (Nat.le_refl _))
  replace H3 := hide (H3.out.below hb1 (Nat.le_refl _))
  clear hb1 t1
  obtain ⟨Ax, cx, rfl, hgx⟩ := own_open hox
  have Rx := hide (Rd.of_own hox)
  have hgx2 : 0 < x.length → ∃ g, Ax = some ⟨g, 0, none⟩ ∧ g < W1.heap.size := fun h => by obtain ⟨g, e, _, h2⟩ := hgx h; exact ⟨g, e, h2⟩
  have HGX := hide hgx2
  have hv_ := valid_iff.1 hval
  obtain ⟨m0, m1⟩ := hv_.1
  obtain ⟨n0, n1⟩ := hv_.2.1
  have Vx := hide hval
  clear hval hox hv_ hgx hgx2
  go_wp2_with fail
  refine (ids45 _ z0 300 mx 3 _ H0.out b0 (by omega) (by omega) (by omega) (by omega) (by omega) (by omega)).mono ?_
  rintro e W2 ⟨c, rfl, vc, rfl, hoc, hb2⟩
  have c2 := c1.trans (hb2.mono s1)
  have s2 := c2.size
  have t2 := hb2.size
  have u12 := t2
  replace H0 := hide (H0.out.below hb2 (Nat.le_refl _))
  replace H1 := hide (H1.out.below hb2 (Nat.le_refl _))
  replace H2 := hide (H2.out.below hb2 (Nat.le_refl _))
  replace H3 := hide (H3.out.below hb2 (Nat.le_refl _))
  replace Rx := hide (Rx.out.below hb2 (Nat.le_refl _))
  clear hb2 t2
  obtain ⟨Ac, cc, rfl, hgc⟩ := own_open hoc
  have Rc := hide (Rd.of_own hoc)
  have hgc2 : 0 < c.length → ∃ g, Ac = some ⟨g, 0, none⟩ ∧ g < W2.heap.size := fun h => by obtain ⟨g, e, _, h2⟩ := hgc h; exact ⟨g, e, h2⟩
  have HGC := hide hgc2
  clear hoc hgc hgc2
  go_wp2_with fail
  refine (ids45 _ z0 350 nx 3 _ H0.out b0 (by omega) (by omega) (by omega) (by omega) (by omega) (by omega)).mono ?_
  rintro e W3 ⟨d, rfl, vd, rfl, hod, hb3⟩
  have c3 := c2.trans (hb3.mono s2)
  have s3 := c3.size
  have t3 := hb3.size
  replace H0 := hide (H0.out.below hb3 (Nat.le_refl _))
  replace H1 := hide (H1.out.below hb3 (Nat.le_refl _))
  replace H2 := hide (H2.out.below hb3 (Nat.le_refl _))
  replace H3 := hide (H3.out.below hb3 (Nat.le_refl _))
  replace Rx := hide (Rx.out.below hb3 (Nat.le_refl _))
  replace Rc := hide (Rc.out.below hb3 (Nat.le_refl _))
  clear hb3 t3
  obtain ⟨Ad, cd, rfl, hgd⟩ := own_open hod
  have hlt3 := hod.lt
  have HD1 := hide (fun k hk => (hlt3 k hk).1)
  have HD2 := hide (fun k hk => (hlt3 k hk).2)
  have HGD := hide hgd
  clear hlt3 hgd
  go_wp2_with fail
  refine (matched46 _ x c.length d.length _ Rx.out Vx.out (by omega)).mono ?_
  rintro e W4 ⟨vp, rfl, hop, hb4⟩
  have c4 := c3.trans (hb4.mono s3)
  have s4 := c4.size
  have t4 := hb4.size
  have hod4 := own_below hod hb4 (Nat.le_refl _)
  replace H0 := hide (H0.out.below hb4 (Nat.le_refl _))
  replace H1 := hide (H1.out.below hb4 (Nat.le_refl _))
  replace H2 := hide (H2.out.below hb4 (Nat.le_refl _))
  replace H3 := hide (H3.out.below hb4 (Nat.le_refl _))
  replace Rx := hide (Rx.out.below hb4 (Nat.le_refl _))
  replace Rc := hide (Rc.out.below hb4 (Nat.le_refl _))
  clear hb4 t4
  have hpa := mat_asc Vx.out
  have hpl := mat_len Vx.out
  have hfin := fun D K (h : FkInv (mat 0 0 x c.length) c D K) hK hv => h.fin hK hv
  obtain ⟨p, hp⟩ : ∃ p, p = mat 0 0 x c.length := ⟨_, rfl⟩
  rw [← hp] at hop hpa hpl hfin
  have HPA := hide hpa
  have HFIN := hide hfin
  clear hp hpa hfin
  obtain ⟨Ap, cp, rfl, hgp⟩ := own_open hop
  have Rp := hide (Rd.of_own hop)
  have hgp2 : 0 < p.length → ∃ g, Ap = some ⟨g, 0, none⟩ ∧ W3.heap.size ≤ g := fun h => by obtain ⟨g, e, h2, _⟩ := hgp h; exact ⟨g, e, h2⟩
  have HGP := hide hgp2
  clear hop hgp hgp2 hod
  go_wp2_with fail
  go_loopw [19] (fun k wr => ∃ (K : Nat) (D : List Int), K ≤ p.length ∧ k = .int .i64 K ∧ D.length = d.length ∧ wr.ownsRow W2.heap.size 3 1 (.slice Ad d.length cd) d.length (inVals D) ∧ W4.grownBy wr (Value.slice Ad d.length cd).ownBlock ∧ FkInv p c D K)
    (fun k _ => p.length - (intOf k).toNat)
  case atStart => exact ⟨0, d, by omega, rfl, rfl, hod4, only_refl _ _, FkInv.start _ _ _⟩
  case round =>
    obtain ⟨K, D, hK, rfl, hDl, hown, hon, hinv⟩ := hrel
    obtain ⟨wo, rfl⟩ : ∃ wo : World, wo = wr := ⟨_, rfl⟩
    have hos := hon.size
    by_cases hlt : K < p.length
    · obtain ⟨a1, a2, a3, a4⟩ := HPA.out.mem p[K] (List.getElem_mem _)
      have hRp := Rp.out.keep hon (ne_behind HGP.out HD2.out)
      have hRc := Rc.out.keep hon (ne_before HGC.out HD1.out)
      obtain ⟨g, hgA, hg0, hg1⟩ := HGD.out (by omega)
      have HST := hide (hinv.step HPA.out hlt (Int.le_refl _) (by omega) (v := c[p[K].f.toNat]'(by omega)) (List.getElem?_eq_getElem _))
      obtain ⟨f, hf⟩ := Int.eq_ofNat_of_zero_le a1
      obtain ⟨t, ht⟩ := Int.eq_ofNat_of_zero_le a3
      have hfc : f < c.length := by omega
      have htD : t < D.length := by omega
      have hx : c[p[K].f.toNat]'(by omega) = c[f] := by congr 1; omega
      rw [hx, ht, Int.toNat_natCast] at HST
      subst hgA
      obtain ⟨bp, op, rfl, hbp, hcp⟩ := hRp.at (by omega)
      obtain ⟨bc, oc, rfl, hbc, hcc⟩ := hRc.at (by omega)
      obtain ⟨q0, q1⟩ := sp_cells hcp hbp (Below.refl _ _) hlt
      have q2 := in_cells hcc hbc (Below.refl _ _) hfc
      have q3 := own_in_cell hown t htD
      have q4 := hown.frozenAt t
      rw [hf] at q0
      rw [ht] at q1
      have HO := hide (fun u => own_in_set hown t u)
      have HON := hide (show W4.grownBy wo (some g) from hon)
      have HDL := hide hDl
      clear hinv hcp hcc hRp hRc hf ht a1 a3 a2 a4 hx hown hon hDl
      generalize c[f] = xx at *
      generalize D[t] = old at *
      have i0 : (0 : Int) ≤ (K : Int) := by omega
      have i1 : (K : Int) < (p.length : Int) := by omega
      have i2 : (0 : Int) ≤ (f : Int) := by omega
      have i3 : (f : Int) < (c.length : Int) := by omega
      have i4 : (0 : Int) ≤ (t : Int) := by omega
      have i5 : (t : Int) < (d.length : Int) := by have := HDL.out; omega
      go_wp2_with fail
      go_region
      go_wp2_with fail
      go_roundw
      case rel => exact ⟨K + 1, D.set t xx, by omega, by go_num, by rw [List.length_set]; exact HDL.out, (HO.out _), only_drew (only_setCell (p := ⟨g, t, none⟩) HON.out rfl _), HST.out⟩
      case measure => simp [intOf]; omega
    · have hF := HFIN.out D K hinv (by omega) (by rw [hDl]; exact Vx.out)
      have HF := hide hF
      have HDL := hide hDl
      have cr : Below w.heap.size w wo := c4.grown hon s4 (fun k hk => Nat.le_trans s2 (HD1.out k hk))
      have sr := cr.size
      have HX := hide (Rx.out.keep hon (ne_before (fun h => by obtain ⟨g, e, h2⟩ := HGX.out h; exact ⟨g, e, Nat.lt_of_lt_of_le h2 u12⟩) HD1.out))
      have HC := hide (Rc.out.keep hon (ne_before HGC.out HD1.out))
      have HDR := hide (show Rd wo (.slice Ad d.length cd) 1 D.length (inVals D) by rw [hDl]; exact Rd.of_own hown)
      have hlD := hown.lt
      clear hinv hon hF hDl Rx Rc Rp
      go_wp2_with fail
      refine (fits47 _ _ _ x c D _ HX.out HC.out HDR.out (by omega)).mono ?_
      rintro e W5 ⟨rfl, hb5⟩
      rw [HF.out]
      have c5 := cr.trans (hb5.mono sr)
      have s5 := c5.size
      have u5 := hb5.size
      replace HX := hide (HX.out.below hb5 (Nat.le_refl _))
      replace HC := hide (HC.out.below hb5 (Nat.le_refl _))
      have hown5 := own_below hown hb5 (Nat.le_refl _)
      clear hown hb5 HF HDR
      go_upto_if 76 with fail
      go_cut [] (fun wx => ∃ D' : List Int, D'.length = d.length ∧ wx.ownsRow W2.heap.size 3 1 (.slice Ad d.length cd) d.length (inVals D') ∧ W5.grownBy wx (Value.slice Ad d.length cd).ownBlock)
      case first =>
        by_cases hd : 0 < d.length
        · obtain ⟨g, rfl, hg0, hg1⟩ := HGD.out hd
          go_wp2_with fail
          refine (mod29 at_ d.length _ (by omega) (by omega)).mono ?_
          rintro e w' ⟨rfl, rfl⟩
          obtain ⟨q0, q1⟩ := gmod_range at_ d.length (by omega) (by omega)
          generalize gmod at_ d.length = J at *
          obtain ⟨J, rfl⟩ := Int.eq_ofNat_of_zero_le q0
          have hJ : J < D.length := by have := HDL.out; omega
          have q3 := own_in_cell hown5 J hJ
          have q4 := hown5.frozenAt J
          have HO := hide (fun u => own_in_set hown5 J u)
          clear hown5
          go_wp2_with fail
          refine (mod29 by_ 3 _ (by omega) (by omega)).mono ?_
          rintro e w' ⟨rfl, rfl⟩
          generalize gmod by_ 3 = y at *
          go_wp2_with fail
          go_meet
          exact ⟨D.set J y, by rw [List.length_set]; exact HDL.out, HO.out _, only_setCell (p := ⟨g, J, none⟩) (g := g) (only_refl _ _) rfl _⟩
        · have HO := hide hown5
          clear hown5
          go_wp2_with fail
          go_meet
          exact ⟨D, HDL.out, HO.out, only_refl _ _⟩
      case rest =>
        obtain ⟨D', hDl', hown6, hon6⟩ := hcut
        have c6 : Below w.heap.size w wc := c5.grown hon6 s5 (fun k hk => Nat.le_trans s2 (HD1.out k hk))
        have s6 := c6.size
        have KX := hide (HX.out.keep hon6 (ne_before (fun h => by obtain ⟨g, e, h2⟩ := HGX.out h; exact ⟨g, e, Nat.lt_of_lt_of_le h2 u12⟩) HD1.out))
        have KC := hide (HC.out.keep hon6 (ne_before HGC.out HD1.out))
        have KD := hide (show Rd wc (.slice Ad d.length cd) 1 D'.length (inVals D') by rw [hDl']; exact Rd.of_own hown6)
        clear hown6 hon6 hDl' HX HC hown5
        go_wp2_with fail
        refine (fits47 _ _ _ x c D' _ KX.out KC.out KD.out (by omega)).mono ?_
        rintro e W7 ⟨rfl, hb7⟩
        have c7 := c6.trans (hb7.mono s6)
        have s7 := c7.size
        replace KX := hide (KX.out.below hb7 (Nat.le_refl _))
        replace KC := hide (KC.out.below hb7 (Nat.le_refl _))
        replace KD := hide (KD.out.below hb7 (Nat.le_refl _))
        clear hb7
        go_wp2_with fail
        refine (fits48 _ _ _ x c D' _ KX.out KC.out KD.out (by omega)).mono ?_
        rintro e W8 ⟨rfl, hb8⟩
        have c8 := c7.trans (hb8.mono s7)
        have s8 := c8.size
        clear hb8 KX KC KD
        generalize fits x c D' = E1 at *
        have K1 := hide (J1.out.below c8 (Nat.le_refl _))
        have K2 := hide (J2.out.below c8 (Nat.le_refl _))
        have K3 := hide (J3.out.below c8 (Nat.le_refl _))
        go_wp2_with fail
        refine (fits47 _ _ _ l a b _ K1.out K2.out K3.out (by omega)).mono ?_
        rintro e W9 ⟨rfl, hb9⟩
        have c9 := c8.trans (hb9.mono s8)
        have s9 := c9.size
        clear hb9
        replace K1 := hide (J1.out.below c9 (Nat.le_refl _))
        replace K2 := hide (J2.out.below c9 (Nat.le_refl _))
        replace K3 := hide (J3.out.below c9 (Nat.le_refl _))
        go_wp2_with fail
        refine (fits48 _ _ _ l a b _ K1.out K2.out K3.out (by omega)).mono ?_
        rintro e W10 ⟨rfl, hb10⟩
        have c10 := c9.trans (hb10.mono s9)
        have s10 := c10.size
        clear hb10
        generalize fits l a b = E2 at *
        go_wp2_with fail
        refine (awake35 _).mono ?_
        rintro e W11 ⟨rfl, hb11⟩
        go_wp2_with fail
        go_ret
        exact ⟨rfl, c10.trans (hb11.mono s10)⟩
end Go.Proofs.Ytagembkjmnfidaa
