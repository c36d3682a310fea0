import Derived.Test.YtagembkjmnfidaaBaseC
import Derived.Test.YtagembkjmnfidaaSpecD
namespace Go.Proofs.Ytagembkjmnfidaa
open Go.RowKit
open Go.Proofs.Ml
set_option linter.unusedVariables false

theorem bo_set (l : List Bool) (I : Nat) (b : Bool) : (boVals l).set I (.bool b) = boVals (l.set I b) := by simp [boVals, List.map_set]
theorem made_bools (n : Nat) : (madeCells (Value.cells (.bool false)) (n * 1)).toList = boVals ((List.range n).map fun _ => false) := by
  have h : (madeCells #[Value.bool false] n).toList = List.replicate n (Value.bool false) := toList_madeCells_one _ n
  rw [Nat.mul_one]
  show (madeCells #[Value.bool false] n).toList = _
  rw [h]
  simp [boVals, List.map_const']

set_option maxRecDepth 100000 in
set_option maxHeartbeats 800000 in
theorem cover33 (v : Value) (h : List Hnk) (m : Int) (w : World) (hr : Rd w v 6 h.length (hkVals h)) (hl : h.length ≤ 900000) :
    Calls Try.prog 33 #[v, .int .i64 m] w (RetRow w 4 1 (covS h m).length (boVals (covS h m))) := by
  by_cases hx : m < 0 ∨ 4096 < m
  · have HE := hide (covS_bad (h := h) hx)
    rcases hx with hx | hx
    all_goals
      go_enter Try.func33, Try.ntmps33
      go_wp2_with fail
      go_ret
      have HE := HE.out
      exact ret_row (World.ownsRow_nil _ _ _ _) (Below.refl _ _) (by rw [HE]; rfl) (by rw [HE]; rfl)
  have hm0 : 0 ≤ m := by omega
  have hm1 : m ≤ 4096 := by omega
  have HE := hide (covS_ok (h := h) hm0 hm1)
  clear hx
  obtain ⟨M, rfl⟩ := Int.eq_ofNat_of_zero_le hm0
  obtain ⟨A, cap, rfl, hcap, hcap', hlen, hA⟩ := hr
  clear hlen hcap hcap'
  obtain ⟨i0, hi, hz0, hz1, hz2⟩ := info_parts info4
  have hMl : M ≤ 4096 := by omega
  go_enter Try.func33, Try.ntmps33
  go_wp2_with (at_make; go_must (refine wpList_make_full _ rfl _ _ 41 rfl w.heap.size 4 i0 _ 1 Try.underlying41 hi hz0 hz1 _ _ _ _ M rfl rfl rfl rfl (by rw [hz2]; omega) (by simp only [maxLen]; omega) (Nat.le_refl _) ?_); intro w1 hown1 hg1)
  have hb1 : Below w.heap.size w w1 := (Below.refl _ _).grown hg1 (Nat.le_refl _) (by intro k hk; cases hk)
  rw [made_bools] at hown1
  clear hi hz0 hz1 hz2 hg1
  go_loopw [19] (fun k wr => ∃ (K : Nat) (f : Nat → Bool), K ≤ h.length ∧ k = .int .i64 K ∧ wr.ownsRow w.heap.size 4 1 (.slice (some ⟨w.heap.size, 0, none⟩) M M) M (boVals ((List.range M).map f)) ∧ Below w.heap.size w wr ∧ ∀ t, t < M → f t = cvd h K t)
    (fun k _ => h.length - (intOf k).toNat)
  case atStart => exact ⟨0, _, by omega, rfl, hown1, hb1, fun t _ => (cvd_zero h t).symm⟩
  case round =>
    obtain ⟨K, f, hK, rfl, hown, hbel, hf⟩ := hrel
    obtain ⟨wo, rfl⟩ : ∃ wo : World, wo = wr := ⟨_, rfl⟩
    have hbs := hbel.size
    have hgl : w.heap.size < wo.heap.size := (hown.lt w.heap.size rfl).2
    by_cases hlt : K < h.length
    · obtain ⟨b, off, rfl, hb, hc⟩ := hA (by omega)
      have hbw : b < wo.heap.size := by omega
      obtain ⟨c0, c1, c2, c3, c4, c5⟩ := hk_cells hc hb hbel hlt
      have hS := fun t => cvd_succ h K t hlt
      have HF := hide hf
      have HS := hide hS
      clear hA hc hf hS
      generalize h[K] = C at *
      obtain ⟨x0, x1, lo, ht, x4, x5⟩ := C
      simp only at c0 c1 c2 c3 c4 c5
      have hmax : (max lo 0 = lo ∧ 0 ≤ lo) ∨ (max lo 0 = 0 ∧ lo < 0) := by omega
      go_wp2_with fail
      all_goals
        generalize hW1 : wo.alloc _ = W1
        have hcx : W1.cell? ⟨wo.heap.size, 3, none⟩ = some (.int .i64 ht) := by rw [← hW1]; exact new_cell wo _ _ 3
        have hownW : W1.ownsRow w.heap.size 4 1 (.slice (some ⟨w.heap.size, 0, none⟩) M M) M (boVals ((List.range M).map f)) := by rw [← hW1]; exact hown.alloc _
        have hbelW : Below w.heap.size w W1 := by rw [← hW1]; exact hbel.alloc hbs _
        have hszW : wo.heap.size < W1.heap.size := by rw [← hW1]; simp
        clear hW1 c0 c1 c2 c3 c4 c5
        go_loopw [8] (fun i wr => ∃ (I : Int) (f' : Nat → Bool), i = .int .i64 I ∧ max lo 0 ≤ I ∧ I ≤ max (max lo 0) (min ht (M : Int)) ∧ wr.cell? ⟨wo.heap.size, 3, none⟩ = some (.int .i64 ht) ∧ wr.ownsRow w.heap.size 4 1 (.slice (some ⟨w.heap.size, 0, none⟩) M M) M (boVals ((List.range M).map f')) ∧ Below w.heap.size w wr ∧ wo.heap.size < wr.heap.size ∧ ∀ t, t < M → f' t = (f t || (decide (max lo 0 ≤ (t : Int)) && decide ((t : Int) < I))))
          (fun i _ => (M - intOf i).toNat)
        case atStart => exact ⟨_, f, rfl, by omega, by omega, hcx, hownW, hbelW, hszW, fun t _ => by simp; omega⟩
        case round =>
          obtain ⟨I, f', rfl, hI0, hI1, hcx, hownI, hbelI, hszI, hf'⟩ := hrel
          have HF' := hide hf'
          clear hf'
          by_cases hlt2 : I < min ht (M : Int)
          · obtain ⟨J, rfl⟩ := Int.eq_ofNat_of_zero_le (show 0 ≤ I by omega)
            have h1 : (J : Int) < ht := by omega
            have h2 : (J : Int) < (M : Int) := by omega
            have h3 : (0 : Int) ≤ (J : Int) := by omega
            have hJ : J < M := by omega
            have hcJ : wr.cell? ⟨w.heap.size, J, none⟩ = some (.bool (f' J)) := by
              rw [hownI.cellAt J (by omega)]
              simp [boVals, hJ]
            have hzJ := hownI.frozenAt J
            have hmin : min ht (M : Int) = ht ∧ ht ≤ (M : Int) ∨ min ht (M : Int) = (M : Int) ∧ (M : Int) < ht := by omega
            go_wp2_with fail
            all_goals
              go_roundw
              case rel =>
                refine ⟨(J : Int) + 1, fun t => if t = J then true else f' t, rfl, by omega, by omega, ?_, ?_, hbelI.setCell (Nat.le_refl _) _, by simpa [World.setCell] using hszI, ?_⟩
                · rw [World.cell?_setCell_other _ _ _ _ (by intro e; injection e with e1 e2; omega)]; exact hcx
                · have := (hownI.stored J (.bool true)).1
                  rw [bo_set, range_set] at this
                  exact this
                · intro t ht'
                  show (if t = J then true else f' t) = _
                  by_cases e : t = J
                  · subst e; simp; right; omega
                  · rw [if_neg e, HF'.out t ht']
                    congr 1
                    rw [Bool.eq_iff_iff]; simp; omega
              case measure => simp [intOf]; omega
          · have hmin : (ht ≤ (M : Int) ∧ ht ≤ I) ∨ ((M : Int) < ht ∧ (M : Int) ≤ I) := by omega
            rcases hmin with ⟨h1, h2⟩ | ⟨h1, h2⟩
            all_goals
              go_wp2_with fail
              go_roundw
              case rel =>
                refine ⟨K + 1, f', by omega, by go_num, hownI, hbelI, ?_⟩
                intro t htM
                rw [HF'.out t htM, HS.out t, HF.out t htM]
                congr 1
                rw [Bool.eq_iff_iff]; simp [covers]; omega
              case measure => simp [intOf]; omega
    · have HF := hide hf
      clear hA hf
      go_wp2_with fail
      go_ret
      have hcov := cov_of_cvd (M := M) (f := f) (h := h) (fun t ht => by rw [HF.out t ht, show K = h.length by omega])
      have HE := HE.out
      rw [show ((M : Int)).toNat = M by omega] at HE
      refine ret_row hown hbel ?_ ?_
      · rw [HE, ← hcov]; simp
      · rw [HE, ← hcov]
end Go.Proofs.Ytagembkjmnfidaa
