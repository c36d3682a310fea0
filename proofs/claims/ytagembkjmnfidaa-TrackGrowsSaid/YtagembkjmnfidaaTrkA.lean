import Derived.Test.YtagembkjmnfidaaPrs
import Derived.Test.YtagembkjmnfidaaBaseJ
import Derived.Test.YtagembkjmnfidaaBaseE
import Derived.Test.YtagembkjmnfidaaSpecJ
namespace Go.Proofs.Ytagembkjmnfidaa
open Go.RowKit
open Go.Proofs.Ml
set_option linter.unusedVariables false

def spAgg (s : Spn) : Value := .agg #[.int .i64 s.f, .int .i64 s.t]

/-- The list is filled with -1 up to K. -/
def FlInv (P : List Int) (K : Nat) : Prop := ∀ i (h : i < P.length), i < K → P[i] = -1
theorem FlInv.start (P : List Int) : FlInv P 0 := fun i h hi => by omega
theorem FlInv.step {P : List Int} {K : Nat} (h : FlInv P K) : FlInv (P.set K (-1)) (K + 1) := by
  intro i hi hlt
  rw [List.getElem_set]
  split
  · rfl
  · exact h i (by simpa using hi) (by omega)
theorem FlInv.fin {P : List Int} {K : Nat} (h : FlInv P K) (hK : K = P.length) : P = List.replicate K (-1) := by
  apply List.ext_getElem
  · simp [hK]
  · intro i h1 h2
    rw [h i h1 (by omega)]
    simp

set_option maxRecDepth 100000 in
set_option maxHeartbeats 3200000 in
theorem part80 (v : Value) (l : List Chg) (m n : Int) (s : Spn) (w : World) (hr : Rd w v 4 l.length (chVals l)) (hl : l.length ≤ 900000) :
    Calls Try.prog 80 #[v, .int .i64 m, .int .i64 n, spAgg s] w (RetRowErr w 3 1 (tkRes l m n s).length (inVals (tkRes l m n s)) (tkErr l m n s)) := by
  have HR := hide hr
  clear hr
  have hb0 : Below w.heap.size w (w.alloc (.cells #[.int .i64 s.f, .int .i64 s.t] 35)) := (Below.refl _ _).alloc (Nat.le_refl _) _
  have HR0 := hide (HR.out.below hb0 (Nat.le_refl _))
  cases hv : valid l m n with
  | false =>
    have HE := hide (tk_bad (s := s) hv)
    have HV := hide hv
    clear hv
    obtain ⟨F, T⟩ := s
    simp only at HR0 hb0
    have HB0 := hide hb0
    clear hb0
    unfold spAgg
    go_enter Try.func80, Try.ntmps80
    go_wp2_with fail
    refine (prs39 _ l m n _ HR0.out hl).mono ?_
    rintro e w1 ⟨pv, rfl, hown, hb1⟩
    rw [HV.out]
    simp only [errOf, Bool.false_eq_true, if_false]
    go_wp2_with fail
    go_ret2
    obtain ⟨E1, E2⟩ := HE.out
    exact ret_row_err (n' := 0) (cs' := []) (World.ownsRow_nil _ _ _ _) (HB0.out.trans (hb1.mono HB0.out.size)) (by rw [E2]; rfl) (by rw [E2]; rfl) E1.symm
  | true =>
    have hvv := valid_iff.1 hv
    obtain ⟨m0, m1⟩ := hvv.1
    obtain ⟨n0, n1⟩ := hvv.2.1
    have HV := hide hv
    have hpa := mat_asc hv
    have hpl := mat_len hv
    have hpr := prRes_ok hv
    by_cases hbad : s.f < 0 ∨ s.t ≤ s.f ∨ n < s.t
    · have HE := hide (tk_range hv hbad)
      clear hv hvv hpa hpl hpr
      obtain ⟨F, T⟩ := s
      simp only at HR0 hb0 hbad
      have HB0 := hide hb0
      clear hb0
      unfold spAgg
      have hc : F < 0 ∨ (0 ≤ F ∧ T ≤ F) ∨ (0 ≤ F ∧ F < T ∧ n < T) := by omega
      clear hbad
      rcases hc with hc | ⟨hc, hc'⟩ | ⟨hc, hc', hc''⟩
      all_goals
        go_enter Try.func80, Try.ntmps80
        go_wp2_with fail
        refine (prs39 _ l m n _ HR0.out hl).mono ?_
        rintro e w1 ⟨pv, rfl, hown, hb1⟩
        rw [HV.out]
        simp only [errOf, if_true]
        have htw := (Two.new w 35 (.int .i64 F) (.int .i64 T)).below hb1 (by simp)
        have l0 := htw.c0
        have l1 := htw.c1
        have hh := htw.lt
        clear htw
        go_wp2_with fail
        go_ret2
        obtain ⟨E1, E2⟩ := HE.out
        exact ret_row_err (n' := 0) (cs' := []) (World.ownsRow_nil _ _ _ _) (HB0.out.trans (hb1.mono HB0.out.size)) (by rw [E2]; rfl) (by rw [E2]; rfl) E1.symm
    · have HE := hide (tk_ok hv hbad)
      have HPR := hide hpr
      generalize mat 0 0 l m = p at *
      have HPA := hide hpa
      clear hv hvv hpa hpr
      obtain ⟨F, T⟩ := s
      simp only at HR0 hb0 hbad HE
      have HB0 := hide hb0
      clear hb0
      unfold spAgg
      have g1 : 0 ≤ F := by omega
      have g2 : F < T := by omega
      have g3 : T ≤ n := by omega
      clear hbad
      obtain ⟨k, hk⟩ := Int.eq_ofNat_of_zero_le (show 0 ≤ T - F by omega)
      have hk4 : k ≤ 4096 := by omega
      have HKL : Hid (tkLen ⟨F, T⟩ = k) := hide (by unfold tkLen; simp only; omega)
      have HK := hide hk
      obtain ⟨i0, hi, hz0, hz1, hz2⟩ := info_parts info3
      go_enter Try.func80, Try.ntmps80
      go_wp2_with fail
      refine (prs39 _ l m n _ HR0.out hl).mono ?_
      rintro e w1 ⟨pv, rfl, hown, hb1⟩
      rw [HV.out]
      rw [HPR.out] at hown
      simp only [errOf, if_true]
      have c1 := HB0.out.trans (hb1.mono HB0.out.size)
      have s1 := c1.size
      have htw := (Two.new w 35 (.int .i64 F) (.int .i64 T)).below hb1 (by simp)
      have l0 := htw.c0
      have l1 := htw.c1
      have hh := htw.lt
      have HTW := hide htw
      obtain ⟨Ap, cp, rfl, hgp⟩ := own_open hown
      have RP := hide (Rd.of_own hown)
      have GP := hide (show 0 < p.length → ∃ g, Ap = some ⟨g, 0, none⟩ ∧ g < w1.heap.size from fun h => by obtain ⟨g, e, _, h2⟩ := hgp h; exact ⟨g, e, h2⟩)
      clear htw hgp hown hb1
      go_wp2_with (at_make; go_must (refine wpList_make_full _ rfl _ _ 22 rfl w1.heap.size 3 i0 _ 1 Try.underlying22 hi hz0 hz1 _ _ _ _ k rfl rfl rfl rfl (by rw [hz2]; omega) (by simp only [maxLen]; omega) (Nat.le_refl _) ?_); intro w2 hown2 hg2)
      rw [made_ints] at hown2
      have s12 := hg2.size
      have hgl : w1.heap.size < w2.heap.size := (hown2.lt w1.heap.size rfl).2
      have on2 : w1.grownBy w2 (some w1.heap.size) := ⟨hg2.os, hg2.tape, hg2.output, hg2.size, fun i hi hne => hg2.block i hi (by simp)⟩
      clear hi hz0 hz1 hz2 hg2 hk
      go_loopw [50] (fun i wr => ∃ (K : Nat) (P : List Int), K ≤ k ∧ i = .int .i64 K ∧ P.length = k ∧ wr.ownsRow w1.heap.size 3 1 (.slice (some ⟨w1.heap.size, 0, none⟩) k k) k (inVals P) ∧ w1.grownBy wr (some w1.heap.size) ∧ w1.heap.size < wr.heap.size ∧ FlInv P K)
        (fun i _ => k - (intOf i).toNat)
      case atStart => exact ⟨0, _, by omega, rfl, by simp, hown2, on2, hgl, FlInv.start _⟩
      case round =>
        obtain ⟨K, P, hK, rfl, hPl, hown, hon, hsz, hinv⟩ := hrel
        obtain ⟨wo, rfl⟩ : ∃ wo : World, wo = wr := ⟨_, rfl⟩
        have HPL := hide hPl
        by_cases hlt : K < k
        · have hKP : K < P.length := by omega
          have hcell := own_in_cell hown K hKP
          have hz := hown.frozenAt K
          have HO := hide (own_in_set hown K (-1))
          have HON := hide hon
          have HF := hide hinv.step
          clear hown hon hinv hPl
          generalize P[K] = old at *
          go_wp2_with fail
          go_roundw
          case rel => exact ⟨K + 1, P.set K (-1), by omega, by go_num, by rw [List.length_set]; exact HPL.out, HO.out, only_setCell (p := ⟨w1.heap.size, K, none⟩) HON.out rfl _, by simpa using hsz, HF.out⟩
          case measure => simp [intOf]; omega
        · have hP := hinv.fin (show K = P.length by omega)
          have hK' : K = k := by omega
          rw [hK'] at hP
          have HP0 := hide (show PaInv p F 0 P by rw [hP]; exact PaInv.start p F k)
          clear hinv hP hPl hK'
          go_wp2_with fail
          go_loopw [59] (fun i wr => ∃ (K : Nat) (P : List Int), K ≤ p.length ∧ i = .int .i64 K ∧ P.length = k ∧ wr.ownsRow w1.heap.size 3 1 (.slice (some ⟨w1.heap.size, 0, none⟩) k k) k (inVals P) ∧ w1.grownBy wr (some w1.heap.size) ∧ w1.heap.size < wr.heap.size ∧ PaInv p F K P)
            (fun i _ => p.length - (intOf i).toNat)
          case atStart => exact ⟨0, P, by omega, rfl, HPL.out, hown, hon, hsz, HP0.out⟩
          case round =>
            obtain ⟨K, P, hK, rfl, hPl, hown, hon, hsz, hinv⟩ := hrel
            have HPL := hide hPl
            have hx0 := only_cell hon l0 (show w.heap.size ≠ w1.heap.size by omega)
            have hx1 := only_cell hon l1 (show w.heap.size ≠ w1.heap.size by omega)
            have hh2 : w.heap.size < wr.heap.size := by omega
            by_cases hlt : K < p.length
            · have hRp := RP.out.keep hon (fun hn b off e => by obtain ⟨g, e2, hg⟩ := GP.out hn; rw [e2] at e; injection e with e; injection e with e _ _; intro e3; injection e3 with e3; omega)
              obtain ⟨b, off, rfl, hb, hc⟩ := hRp.at (by omega)
              obtain ⟨q0, q1⟩ := sp_cells hc hb (Below.refl _ _) hlt
              obtain ⟨a1, a2, a3, a4⟩ := HPA.out.mem p[K] (List.getElem_mem _)
              have H1 := hide (fun h => hinv.yes HPA.out hlt h)
              have H2 := hide (fun h => hinv.no HPA.out hlt h)
              clear hinv hc hRp
              generalize p[K] = C at *
              obtain ⟨f, t⟩ := C
              simp only at q0 q1 a1 a2 a3 a4 H1 H2
              have hin := HK.out
              by_cases hcase : F ≤ t ∧ t < T
              · obtain ⟨h1, h2⟩ := hcase
                have HN := hide (H1.out h1)
                obtain ⟨j, hj⟩ := Int.eq_ofNat_of_zero_le (show 0 ≤ t - F by omega)
                have hjP : j < P.length := by omega
                rw [hj, Int.toNat_natCast] at HN
                have hcell := own_in_cell hown j hjP
                have hz := hown.frozenAt j
                have HO := hide (own_in_set hown j f)
                have HON := hide hon
                have hjk : (j : Int) < (k : Int) := by omega
                have hj0 : (0 : Int) ≤ (j : Int) := by omega
                clear hown hon hPl H1 H2 hin
                generalize P[j] = old at *
                go_wp2_with fail
                go_roundw
                case rel => exact ⟨K + 1, P.set j f, by omega, by go_num, by rw [List.length_set]; exact HPL.out, HO.out.alloc _, only_alloc (only_setCell (p := ⟨w1.heap.size, j, none⟩) HON.out rfl _) _, by simp; omega, HN.out⟩
                case measure => simp [intOf]; omega
              · have hcs : t < F ∨ (F ≤ t ∧ T ≤ t) := by omega
                have HN := hide (H2.out (by omega))
                have HO := hide hown
                have HON := hide hon
                clear hown hon hPl H1 H2 hin hcase
                rcases hcs with hcs | ⟨hcs, hcs'⟩
                all_goals
                  go_wp2_with fail
                  go_roundw
                  case rel => exact ⟨K + 1, P, by omega, by go_num, HPL.out, HO.out.alloc _, only_alloc HON.out _, by simp; omega, HN.out⟩
                  case measure => simp [intOf]; omega
            · have HF := hide (hinv.fin (by omega))
              clear hinv hPl
              go_wp2_with fail
              go_ret2
              obtain ⟨E1, E2⟩ := HE.out
              have hF := HF.out
              rw [HPL.out] at hF
              have e3 : tkRes l m n ⟨F, T⟩ = P := by rw [E2, HKL.out, hF]
              exact ret_row_err (own_base hown s1) (c1.trans ((only_below hon (Nat.le_refl _) (Nat.le_refl _)).mono s1)) (by rw [e3, HPL.out]) (by rw [e3]) E1.symm
end Go.Proofs.Ytagembkjmnfidaa
