import Derived.Test.YtagembkjmnfidaaTabX
import Derived.Test.YtagembkjmnfidaaFts
import Derived.Test.YtagembkjmnfidaaGen2
import Derived.Test.YtagembkjmnfidaaBaseJ
import Derived.RegionTactic
import Derived.ChangeAlike
import Derived.BigRegion
namespace Go.Proofs.Ytagembkjmnfidaa
open Go.RowKit
open Go.Proofs.Ml
set_option linter.unusedVariables false

/-- A script that fits its two texts. -/
def PickSl (w : World) (e : Ending) (w' : World) : Prop :=
  ∃ (l : List Chg) (a b : List Int) (v va vb : Value), e = .returned (.tuple #[v, va, vb]) ∧ fits l a b = true ∧ Rd w' v 4 l.length (chVals l) ∧ Rd w' va 1 a.length (inVals a) ∧ Rd w' vb 1 b.length (inVals b) ∧ Below w.heap.size w w'

set_option maxRecDepth 100000 in
set_option maxHeartbeats 3200000 in
theorem pick64 (v0 : Value) (z0 : List Int) (other : Bool) (w : World) (r0 : Rd w v0 1 z0.length (inVals z0)) (b0 : z0.length ≤ 9223372036854775807) :
    Calls Try.prog 64 #[v0, .bool other] w (PickSl w) := by
  have H0 := hide r0
  obtain ⟨A0, c0, rfl, _, _, _, _⟩ := r0
  go_enter Try.func64, Try.ntmps64
  go_wp2_with fail
  refine (at62 _ z0 _ _ H0.out b0 (by omega) (by omega)).mono ?_
  rintro e w' ⟨y0, hy0, hy0', rfl, rfl⟩
  go_wp2_with fail
  refine (mod29 _ _ _ (by omega) (by omega)).mono ?_
  rintro e w' ⟨rfl, rfl⟩
  obtain ⟨k0, k1⟩ := gmod_range y0 12 (by omega) (by omega)
  generalize gmod y0 12 = M at *
  go_wp2_with fail
  refine (ids45 _ z0 10 M 2 _ H0.out b0 (by omega) (by omega) (by omega) (by omega) (by omega) (by omega)).mono ?_
  rintro e W1 ⟨a, hal, va, rfl, hoa, hb1⟩
  have c1 := hb1
  have s1 := c1.size
  replace H0 := hide (H0.out.below hb1 (Nat.le_refl _))
  clear hb1
  obtain ⟨Aa, ca, rfl, _⟩ := own_open hoa
  have Ra := hide (Rd.of_own hoa)
  clear hoa
  go_wp2_with fail
  refine (at62 _ z0 _ _ H0.out b0 (by omega) (by omega)).mono ?_
  rintro e w' ⟨y1, hy1, hy1', rfl, rfl⟩
  go_wp2_with fail
  refine (mod29 _ _ _ (by omega) (by omega)).mono ?_
  rintro e w' ⟨rfl, rfl⟩
  obtain ⟨k2, k3⟩ := gmod_range y1 12 (by omega) (by omega)
  generalize gmod y1 12 = N at *
  go_wp2_with fail
  refine (ids45 _ z0 40 N 2 _ H0.out b0 (by omega) (by omega) (by omega) (by omega) (by omega) (by omega)).mono ?_
  rintro e W2 ⟨b, hbl, vb, rfl, hob, hb2⟩
  have c2 := c1.trans (hb2.mono s1)
  have s2 := c2.size
  replace H0 := hide (H0.out.below hb2 (Nat.le_refl _))
  replace Ra := hide (Ra.out.below hb2 (Nat.le_refl _))
  clear hb2
  obtain ⟨Ab, cb, rfl, _⟩ := own_open hob
  have Rb := hide (Rd.of_own hob)
  clear hob
  cases other with
  | false =>
    go_wp2_with fail
    refine (walk83 _ _ a b _ Ra.out Rb.out (by omega) (by omega)).mono ?_
    rintro e W3 ⟨l, hf, v, rfl, ho, hb3⟩
    have c3 := c2.trans (hb3.mono s2)
    have HF := hide hf
    replace Ra := hide (Ra.out.below hb3 (Nat.le_refl _))
    replace Rb := hide (Rb.out.below hb3 (Nat.le_refl _))
    have Rl := hide (Rd.of_own ho)
    obtain ⟨A', c', rfl, _⟩ := own_open ho
    clear ho hf hb3
    go_wp2_with fail
    go_returns
    exact ⟨l, a, b, _, _, _, rfl, HF.out, Rl.out, Ra.out, Rb.out, c3⟩
  | true =>
    clear Ra Rb hal hbl
    go_wp2_with fail
    refine (script27 _ z0 100 _ H0.out b0 (by omega) (by omega)).mono ?_
    rintro e W3 ⟨vx, x, mx, nx, rfl, hval, hmx, hnx, hlx, hox, hb3⟩
    have c3 := c2.trans (hb3.mono s2)
    have s3 := c3.size
    replace H0 := hide (H0.out.below hb3 (Nat.le_refl _))
    clear hb3
    obtain ⟨Ax, cx, rfl, hgx⟩ := own_open hox
    have Rx := hide (Rd.of_own hox)
    have hgx2 : 0 < x.length → ∃ g, Ax = some ⟨g, 0, none⟩ ∧ g < W3.heap.size := fun h => by obtain ⟨g, e, _, h2⟩ := hgx h; exact ⟨g, e, h2⟩
    have HGX := hide hgx2
    have hv_ := valid_iff.1 hval
    obtain ⟨m0, m1⟩ := hv_.1
    obtain ⟨n0, n1⟩ := hv_.2.1
    have Vx := hide hval
    clear hval hox hv_ hgx hgx2
    go_wp2_with fail
    refine (ids45 _ z0 10 mx 2 _ H0.out b0 (by omega) (by omega) (by omega) (by omega) (by omega) (by omega)).mono ?_
    rintro e W4 ⟨c, hcl, vc, rfl, hoc, hb4⟩
    subst hcl
    have c4 := c3.trans (hb4.mono s3)
    have s4 := c4.size
    have u34 := hb4.size
    replace H0 := hide (H0.out.below hb4 (Nat.le_refl _))
    replace Rx := hide (Rx.out.below hb4 (Nat.le_refl _))
    clear hb4
    obtain ⟨Ac, cc, rfl, hgc⟩ := own_open hoc
    have Rc := hide (Rd.of_own hoc)
    have hgc2 : 0 < c.length → ∃ g, Ac = some ⟨g, 0, none⟩ ∧ g < W4.heap.size := fun h => by obtain ⟨g, e, _, h2⟩ := hgc h; exact ⟨g, e, h2⟩
    have HGC := hide hgc2
    clear hoc hgc hgc2
    go_wp2_with fail
    refine (ids45 _ z0 40 nx 2 _ H0.out b0 (by omega) (by omega) (by omega) (by omega) (by omega) (by omega)).mono ?_
    rintro e W5 ⟨d, hdl, vd, rfl, hod, hb5⟩
    subst hdl
    have c5 := c4.trans (hb5.mono s4)
    have s5 := c5.size
    replace H0 := hide (H0.out.below hb5 (Nat.le_refl _))
    replace Rx := hide (Rx.out.below hb5 (Nat.le_refl _))
    replace Rc := hide (Rc.out.below hb5 (Nat.le_refl _))
    clear hb5
    obtain ⟨Ad, cd, rfl, hgd⟩ := own_open hod
    have hlt3 := hod.lt
    have HD1 := hide (fun k hk => (hlt3 k hk).1)
    have HD2 := hide (fun k hk => (hlt3 k hk).2)
    have HGD := hide hgd
    clear hlt3 hgd
    go_wp2_with fail
    refine (matched46 _ x c.length d.length _ Rx.out Vx.out (by omega)).mono ?_
    rintro e W6 ⟨vp, rfl, hop, hb6⟩
    have c6 := c5.trans (hb6.mono s5)
    have s6 := c6.size
    have hod4 := own_below hod hb6 (Nat.le_refl _)
    replace Rx := hide (Rx.out.below hb6 (Nat.le_refl _))
    replace Rc := hide (Rc.out.below hb6 (Nat.le_refl _))
    clear hb6
    have hpa := mat_asc Vx.out
    have hpl := mat_len Vx.out
    have hfin := fun D K (h : FkInv (mat 0 0 x c.length) c D K) hK hv => h.fin hK hv
    obtain ⟨p, hp⟩ : ∃ p, p = mat 0 0 x c.length := ⟨_, rfl⟩
    rw [← hp] at hop hpa hpl hfin
    have HPA := hide hpa
    have HFIN := hide hfin
    clear hp hpa hfin
    obtain ⟨Ap, cp, rfl, hgp⟩ := own_open hop
    have Rp := hide (Rd.of_own hop)
    have hgp2 : 0 < p.length → ∃ g, Ap = some ⟨g, 0, none⟩ ∧ W5.heap.size ≤ g := fun h => by obtain ⟨g, e, h2, _⟩ := hgp h; exact ⟨g, e, h2⟩
    have HGP := hide hgp2
    clear hop hgp hgp2 hod
    go_wp2_with fail
    go_loopw [13] (fun k wr => ∃ (K : Nat) (D : List Int), K ≤ p.length ∧ k = .int .i64 K ∧ D.length = d.length ∧ wr.ownsRow W4.heap.size 3 1 (.slice Ad d.length cd) d.length (inVals D) ∧ W6.grownBy wr (Value.slice Ad d.length cd).ownBlock ∧ FkInv p c D K)
      (fun k _ => p.length - (intOf k).toNat)
    case atStart => exact ⟨0, d, by omega, rfl, rfl, hod4, only_refl _ _, FkInv.start _ _ _⟩
    case round =>
      obtain ⟨K, D, hK, rfl, hDl, hown, hon, hinv⟩ := hrel
      obtain ⟨wo, rfl⟩ : ∃ wo : World, wo = wr := ⟨_, rfl⟩
      have hos := hon.size
      by_cases hlt : K < p.length
      · obtain ⟨a1, a2, a3, a4⟩ := HPA.out.mem p[K] (List.getElem_mem _)
        have hRp := Rp.out.keep hon (ne_behind HGP.out HD2.out)
        have hRc := Rc.out.keep hon (ne_before HGC.out HD1.out)
        obtain ⟨g, hgA, hg0, hg1⟩ := HGD.out (by omega)
        have HST := hide (hinv.step HPA.out hlt (Int.le_refl _) (by omega) (v := c[p[K].f.toNat]'(by omega)) (List.getElem?_eq_getElem _))
        obtain ⟨f, hf⟩ := Int.eq_ofNat_of_zero_le a1
        obtain ⟨t, ht⟩ := Int.eq_ofNat_of_zero_le a3
        have hfc : f < c.length := by omega
        have htD : t < D.length := by omega
        have hx : c[p[K].f.toNat]'(by omega) = c[f] := by congr 1; omega
        rw [hx, ht, Int.toNat_natCast] at HST
        subst hgA
        obtain ⟨bp, op, rfl, hbp, hcp⟩ := hRp.at (by omega)
        obtain ⟨bc, oc, rfl, hbc, hcc⟩ := hRc.at (by omega)
        obtain ⟨q0, q1⟩ := sp_cells hcp hbp (Below.refl _ _) hlt
        have q2 := in_cells hcc hbc (Below.refl _ _) hfc
        have q3 := own_in_cell hown t htD
        have q4 := hown.frozenAt t
        rw [hf] at q0
        rw [ht] at q1
        have HO := hide (fun u => own_in_set hown t u)
        have HON := hide (show W6.grownBy wo (some g) from hon)
        have HDL := hide hDl
        clear hinv hcp hcc hRp hRc hf ht a1 a3 a2 a4 hx hown hon hDl
        generalize c[f] = xx at *
        generalize D[t] = old at *
        have i0 : (0 : Int) ≤ (K : Int) := by omega
        have i1 : (K : Int) < (p.length : Int) := by omega
        have i2 : (0 : Int) ≤ (f : Int) := by omega
        have i3 : (f : Int) < (c.length : Int) := by omega
        have i4 : (0 : Int) ≤ (t : Int) := by omega
        have i5 : (t : Int) < (d.length : Int) := by have := HDL.out; omega
        go_wp2_with fail
        go_region
        go_wp2_with fail
        go_roundw
        case rel => exact ⟨K + 1, D.set t xx, by omega, by go_num, by rw [List.length_set]; exact HDL.out, (HO.out _), only_drew (only_setCell (p := ⟨g, t, none⟩) HON.out rfl _), HST.out⟩
        case measure => simp [intOf]; omega
      · have hF := HFIN.out D K hinv (by omega) (by rw [hDl]; exact Vx.out)
        have HF := hide hF
        have cr : Below w.heap.size w wo := c6.grown hon s6 (fun k hk => Nat.le_trans s4 (HD1.out k hk))
        have HX := hide (Rx.out.keep hon (ne_before (fun h => by obtain ⟨g, e, h2⟩ := HGX.out h; exact ⟨g, e, Nat.lt_of_lt_of_le h2 u34⟩) HD1.out))
        have HC := hide (Rc.out.keep hon (ne_before HGC.out HD1.out))
        have HDR := hide (show Rd wo (.slice Ad d.length cd) 1 D.length (inVals D) by rw [hDl]; exact Rd.of_own hown)
        clear hinv hon hF hDl Rx Rc Rp
        go_wp2_with fail
        go_returns
        exact ⟨x, c, D, _, _, _, rfl, HF.out, HX.out, HC.out, HDR.out, cr⟩
end Go.Proofs.Ytagembkjmnfidaa
