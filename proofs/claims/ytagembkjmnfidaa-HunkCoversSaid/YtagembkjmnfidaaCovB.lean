import Derived.Test.YtagembkjmnfidaaCovA
namespace Go.Proofs.Ytagembkjmnfidaa
open Go.RowKit
open Go.Proofs.Ml
set_option linter.unusedVariables false

set_option maxRecDepth 100000 in
set_option maxHeartbeats 800000 in
theorem refcover34 (v : Value) (h : List Hnk) (m : Int) (w : World) (hr : Rd w v 6 h.length (hkVals h)) (hl : h.length ≤ 900000) :
    Calls Try.prog 34 #[v, .int .i64 m] w (RetRow w 4 1 (covS h m).length (boVals (covS h m))) := by
  by_cases hx : m < 0 ∨ 4096 < m
  · have HE := hide (covS_bad (h := h) hx)
    rcases hx with hx | hx
    all_goals
      go_enter Try.func34, Try.ntmps34
      go_wp2_with fail
      go_ret
      have HE := HE.out
      exact ret_row (World.ownsRow_nil _ _ _ _) (Below.refl _ _) (by rw [HE]; rfl) (by rw [HE]; rfl)
  have hm0 : 0 ≤ m := by omega
  have hm1 : m ≤ 4096 := by omega
  have HE := hide (covS_ok (h := h) hm0 hm1)
  clear hx
  obtain ⟨M, rfl⟩ := Int.eq_ofNat_of_zero_le hm0
  obtain ⟨A, cap, rfl, hcap, hcap', hlen, hA⟩ := hr
  clear hlen hcap hcap'
  obtain ⟨i0, hi, hz0, hz1, hz2⟩ := info_parts info4
  have hMl : M ≤ 4096 := by omega
  go_enter Try.func34, Try.ntmps34
  go_wp2_with (at_make; go_must (refine wpList_make_full _ rfl _ _ 41 rfl w.heap.size 4 i0 _ 1 Try.underlying41 hi hz0 hz1 _ _ _ _ M rfl rfl rfl rfl (by rw [hz2]; omega) (by simp only [maxLen]; omega) (Nat.le_refl _) ?_); intro w1 hown1 hg1)
  have hb1 : Below w.heap.size w w1 := (Below.refl _ _).grown hg1 (Nat.le_refl _) (by intro k hk; cases hk)
  rw [made_bools] at hown1
  clear hi hz0 hz1 hz2 hg1
  go_loopw [6] (fun k wr => ∃ (K : Nat) (f : Nat → Bool), K ≤ h.length ∧ k = .int .i64 K ∧ wr.ownsRow w.heap.size 4 1 (.slice (some ⟨w.heap.size, 0, none⟩) M M) M (boVals ((List.range M).map f)) ∧ Below w.heap.size w wr ∧ ∀ t, t < M → f t = cvd h K t)
    (fun k _ => h.length - (intOf k).toNat)
  case atStart => exact ⟨0, _, by omega, rfl, hown1, hb1, fun t _ => (cvd_zero h t).symm⟩
  case round =>
    obtain ⟨K, f, hK, rfl, hown, hbel, hf⟩ := hrel
    obtain ⟨wo, rfl⟩ : ∃ wo : World, wo = wr := ⟨_, rfl⟩
    have hbs := hbel.size
    have hgl : w.heap.size < wo.heap.size := (hown.lt w.heap.size rfl).2
    by_cases hlt : K < h.length
    · obtain ⟨b, off, rfl, hb, hc⟩ := hA (by omega)
      have hbw : b < wo.heap.size := by omega
      obtain ⟨c0, c1, c2, c3, c4, c5⟩ := hk_cells hc hb hbel hlt
      have hS := fun t => cvd_succ h K t hlt
      have HF := hide hf
      have HS := hide hS
      have HC2 := hide (fun (wx : World) (hbx : Below w.heap.size w wx) => (hk_cells hc hb hbx hlt).2.2.1)
      have HC3 := hide (fun (wx : World) (hbx : Below w.heap.size w wx) => (hk_cells hc hb hbx hlt).2.2.2.1)
      clear hA hc hf hS
      generalize h[K] = C at *
      obtain ⟨x0, x1, lo, ht, x4, x5⟩ := C
      simp only at c0 c1 c2 c3 c4 c5 HC2 HC3
      clear c0 c1 c2 c3 c4 c5
      go_wp2_with fail
      go_loopw [7] (fun i wr => ∃ (I : Nat) (f' : Nat → Bool), i = .int .i64 I ∧ I ≤ M ∧ wr.ownsRow w.heap.size 4 1 (.slice (some ⟨w.heap.size, 0, none⟩) M M) M (boVals ((List.range M).map f')) ∧ Below w.heap.size w wr ∧ ∀ t, t < M → f' t = (f t || (decide (lo ≤ (t : Int)) && decide ((t : Int) < ht) && decide (t < I))))
        (fun i _ => M - (intOf i).toNat)
      case atStart => exact ⟨0, f, rfl, by omega, hown, hbel, fun t _ => by simp⟩
      case round =>
        obtain ⟨J, f', rfl, hJM, hownI, hbelI, hf'⟩ := hrel
        have HF' := hide hf'
        clear hf'
        have hbI := hbelI.size
        by_cases hJ : J < M
        · have h2 : (J : Int) < (M : Int) := by omega
          have h3 : (0 : Int) ≤ (J : Int) := by omega
          have k3 : (0 : Int) ≤ (K : Int) := by omega
          have k4 : (K : Int) < (h.length : Int) := by omega
          have hcJ : wr.cell? ⟨w.heap.size, J, none⟩ = some (.bool (f' J)) := by
            rw [hownI.cellAt J (by omega)]
            simp [boVals, hJ]
          have hzJ := hownI.frozenAt J
          have d2 : wr.cell? ⟨b, off + K * 6 + 2, none⟩ = some (.int .i64 lo) := HC2.out wr hbelI
          have d3 : wr.cell? ⟨b, off + K * 6 + 3, none⟩ = some (.int .i64 ht) := HC3.out wr hbelI
          go_wp2_with fail
          · go_roundw
            case rel =>
              refine ⟨J + 1, fun t => if t = J then true else f' t, by go_num, by omega, ?_, hbelI.setCell (Nat.le_refl _) _, ?_⟩
              · have := (hownI.stored J (.bool true)).1
                rw [bo_set, range_set] at this
                exact this
              · intro t ht'
                show (if t = J then true else f' t) = _
                have hfj := HF'.out J hJ
                by_cases e : t = J
                · subst e
                  have hfj2 : f' t = f t := by rw [hfj]; simp
                  have : f' t = true := by assumption
                  rw [hfj2] at this; simp [this]
                · rw [if_neg e, HF'.out t ht']
                  congr 1
                  rw [Bool.eq_iff_iff]; simp; omega
            case measure => simp [intOf]; omega
          · go_roundw
            case rel =>
              refine ⟨J + 1, fun t => if t = J then (decide ((J : Int) < ht)) else f' t, by go_num, by omega, ?_, hbelI.setCell (Nat.le_refl _) _, ?_⟩
              · have := (hownI.stored J (.bool (decide ((J : Int) < ht)))).1
                rw [bo_set, range_set] at this
                exact this
              · intro t ht'
                show (if t = J then (decide ((J : Int) < ht)) else f' t) = _
                have hfj := HF'.out J hJ
                by_cases e : t = J
                · subst e
                  have hfj2 : f' t = f t := by rw [hfj]; simp
                  have h1 : ¬ f' t = true := by assumption
                  have h5 : lo ≤ (t : Int) := by assumption
                  rw [hfj2] at h1; simp [h1, h5]
                · rw [if_neg e, HF'.out t ht']
                  congr 1
                  rw [Bool.eq_iff_iff]; simp; omega
            case measure => simp [intOf]; omega
          · go_roundw
            case rel =>
              refine ⟨J + 1, fun t => if t = J then false else f' t, by go_num, by omega, ?_, hbelI.setCell (Nat.le_refl _) _, ?_⟩
              · have := (hownI.stored J (.bool false)).1
                rw [bo_set, range_set] at this
                exact this
              · intro t ht'
                show (if t = J then false else f' t) = _
                have hfj := HF'.out J hJ
                by_cases e : t = J
                · subst e
                  have hfj2 : f' t = f t := by rw [hfj]; simp
                  have h1 : ¬ f' t = true := by assumption
                  have h5 : ¬ lo ≤ (t : Int) := by assumption
                  rw [hfj2] at h1; simp [h1]; omega
                · rw [if_neg e, HF'.out t ht']
                  congr 1
                  rw [Bool.eq_iff_iff]; simp; omega
            case measure => simp [intOf]; omega
        · go_wp2_with fail
          go_roundw
          case rel =>
            refine ⟨K + 1, f', by omega, by go_num, hownI, hbelI, ?_⟩
            intro t htM
            rw [HF'.out t htM, HS.out t, HF.out t htM]
            congr 1
            rw [Bool.eq_iff_iff]; simp [covers]; omega
          case measure => simp [intOf]; omega
    · have HF := hide hf
      clear hA hf
      go_wp2_with fail
      go_ret
      have hcov := cov_of_cvd (M := M) (f := f) (h := h) (fun t ht => by rw [HF.out t ht, show K = h.length by omega])
      have HE := HE.out
      rw [show ((M : Int)).toNat = M by omega] at HE
      refine ret_row hown hbel ?_ ?_
      · rw [HE, ← hcov]; simp
      · rw [HE, ← hcov]
end Go.Proofs.Ytagembkjmnfidaa
