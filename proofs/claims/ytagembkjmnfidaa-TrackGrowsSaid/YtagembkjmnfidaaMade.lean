import Derived.Test.YtagembkjmnfidaaBase
namespace Go.Proofs.Ytagembkjmnfidaa
open Go.RowKit
open Go.Proofs.Ml
set_option linter.unusedVariables false

/-- How far Made has come behind k pairs. -/
def MadeInv (p : List Spn) (m n : Int) (k : Nat) (I J : Int) (L : List Chg) : Prop :=
  (k ≤ p.length → made 0 0 p m n = L ++ made I J (p.drop k) m n) ∧ (k = p.length + 1 → L = made 0 0 p m n)
theorem MadeInv.start (p : List Spn) (m n : Int) : MadeInv p m n 0 0 0 [] := ⟨fun _ => by simp, fun h => by omega⟩
theorem MadeInv.step {p : List Spn} {m n : Int} {k : Nat} {I J : Int} {L : List Chg} (h : MadeInv p m n k I J L) (hk : k < p.length) :
    MadeInv p m n (k + 1) (p[k].f + 1) (p[k].t + 1) (L ++ gap I J p[k].f p[k].t) := by
  refine ⟨fun _ => ?_, fun e => by omega⟩
  rw [h.1 (by omega), List.drop_eq_getElem_cons hk, made, List.append_assoc]
theorem MadeInv.last {p : List Spn} {m n : Int} {k : Nat} {I J : Int} {L : List Chg} (h : MadeInv p m n k I J L) (hk : k = p.length) :
    MadeInv p m n (k + 1) (m + 1) (n + 1) (L ++ gap I J m n) := by
  refine ⟨fun e => by omega, fun _ => ?_⟩
  subst hk
  have := h.1 (Nat.le_refl _)
  rw [List.drop_length, made] at this
  exact this.symm

theorem gap_yes {I J f t : Int} (h : I < f ∨ J < t) : gap I J f t = [⟨I, f - I, J, t - J⟩] := by rw [gap, if_pos h]
theorem gap_no {I J f t : Int} (h : ¬ (I < f ∨ J < t)) : gap I J f t = [] := by rw [gap, if_neg h]

set_option maxHeartbeats 400000 in
set_option maxRecDepth 100000 in
theorem made63 (v : Value) (p : List Spn) (m n : Int) (w : World) (hr : Rd w v 2 p.length (spVals p)) (hl : p.length ≤ 5000)
    (hp : ∀ s ∈ p, 0 ≤ s.f ∧ s.f ≤ 4096 ∧ 0 ≤ s.t ∧ s.t ≤ 4096) (hm : 0 ≤ m ∧ m ≤ 4096) (hn : 0 ≤ n ∧ n ≤ 4096) :
    Calls Try.prog 63 #[v, .int .i64 m, .int .i64 n] w (RetRow w 45 4 (made 0 0 p m n).length (chVals (made 0 0 p m n))) := by
  obtain ⟨A, cap, rfl, hcap, hcap', hlen, hA⟩ := hr
  clear hlen hcap hcap'
  go_enter Try.func63, Try.ntmps63
  go_wp2_with fail
  go_loopw [7, 8, 9, 10] (fun v i j k wr => ∃ (K : Nat) (I J : Int) (L : List Chg), K ≤ p.length + 1 ∧ k = .int .i64 K ∧ i = .int .i64 I ∧ j = .int .i64 J ∧ 0 ≤ I ∧ I ≤ 5000 ∧ 0 ≤ J ∧ J ≤ 5000 ∧ L.length ≤ K ∧ wr.ownsRow w.heap.size 45 4 v L.length (chVals L) ∧ Below w.heap.size w wr ∧ MadeInv p m n K I J L)
    (fun _ _ _ k _ => p.length + 1 - (intOf k).toNat)
  case atStart => exact ⟨0, 0, 0, [], by omega, rfl, rfl, rfl, by omega, by omega, by omega, by omega, by simp, World.ownsRow_nil _ _ _ _, Below.refl _ _, MadeInv.start p m n⟩
  case round =>
    obtain ⟨K, I, J, L, hK, rfl, rfl, rfl, hI0, hI1, hJ0, hJ1, hL, hown, hbel, hinv⟩ := hrel
    have hbs := hbel.size
    by_cases hlt : K < p.length
    · obtain ⟨b, off, rfl, hb, hc⟩ := hA (by omega)
      have hbw : b < wr.heap.size := by omega
      have c0 : wr.cell? ⟨b, off + K * 2, none⟩ = some (.int .i64 p[K].f) := (hbel.cell (p := ⟨b, off + K * 2, none⟩) hb).trans (hc (K * 2 + 0) _ (flatMap_get spCells 2 (fun _ => rfl) p K 0 hlt (by omega)))
      have c1 : wr.cell? ⟨b, off + K * 2 + 1, none⟩ = some (.int .i64 p[K].t) := by
        rw [Nat.add_assoc]; exact (hbel.cell (p := ⟨b, off + (K * 2 + 1), none⟩) hb).trans (hc (K * 2 + 1) _ (flatMap_get spCells 2 (fun _ => rfl) p K 1 hlt (by omega)))
      have hps := hp p[K] (List.getElem_mem hlt)
      have hinv' := hinv.step hlt
      generalize p[K].f = F at *
      generalize p[K].t = T at *
      obtain ⟨hF0, hF1, hT0, hT1⟩ := hps
      have H1 := hide hinv
      have H2 := hide hinv'
      clear hinv hinv' hp hc hA
      have hcase : I < F ∨ (F ≤ I ∧ J < T) ∨ (F ≤ I ∧ T ≤ J) := by omega
      rcases hcase with hg | ⟨hg, hg'⟩ | ⟨hg, hg'⟩
      · go_wp2_with (at_builtin; go_must (refine wp_app1 rfl (.tmp 39) (.tmp 51) 23 45 4 32 _ rfl Try.underlying23 info45 rfl (by omega) (by omega) wr _ w.heap.size L.length _ (chVals L) rfl _ _ rfl (by simp) hown (hown.alloc _) (by simp) rfl rfl (by omega) hbs ?_); intro v1 w1 hown1 hb1 hold hsz1)
        have cx0 : w1.cell? ⟨wr.heap.size, 0, none⟩ = some (.int .i64 F) := (hold _ 0 (Nat.le_refl _) (by simp)).trans (new_cell wr _ _ 0)
        have cx1 : w1.cell? ⟨wr.heap.size, 1, none⟩ = some (.int .i64 T) := (hold _ 1 (Nat.le_refl _) (by simp)).trans (new_cell wr _ _ 1)
        clear hold c0 c1 hown
        go_quiet (fail)
        go_wp2_with fail
        go_roundw
        case rel => exact ⟨K + 1, F + 1, T + 1, L ++ [⟨I, F - I, J, T - J⟩], by omega, by go_num, rfl, rfl, by omega, by omega, by omega, by omega, by simp; omega, own_drewN (own_ch hown1) _, below_drewN ((hbel.alloc hbs _).trans hb1) _, gap_yes (.inl hg) ▸ H2.out⟩
        case measure => simp [intOf]; omega
      · go_wp2_with (at_builtin; go_must (refine wp_app1 rfl (.tmp 39) (.tmp 51) 23 45 4 32 _ rfl Try.underlying23 info45 rfl (by omega) (by omega) wr _ w.heap.size L.length _ (chVals L) rfl _ _ rfl (by simp) hown (hown.alloc _) (by simp) rfl rfl (by omega) hbs ?_); intro v1 w1 hown1 hb1 hold hsz1)
        have cx0 : w1.cell? ⟨wr.heap.size, 0, none⟩ = some (.int .i64 F) := (hold _ 0 (Nat.le_refl _) (by simp)).trans (new_cell wr _ _ 0)
        have cx1 : w1.cell? ⟨wr.heap.size, 1, none⟩ = some (.int .i64 T) := (hold _ 1 (Nat.le_refl _) (by simp)).trans (new_cell wr _ _ 1)
        clear hold c0 c1 hown
        go_quiet (fail)
        go_wp2_with fail
        go_roundw
        case rel => exact ⟨K + 1, F + 1, T + 1, L ++ [⟨I, F - I, J, T - J⟩], by omega, by go_num, rfl, rfl, by omega, by omega, by omega, by omega, by simp; omega, own_drewN (own_ch hown1) _, below_drewN ((hbel.alloc hbs _).trans hb1) _, gap_yes (.inr hg') ▸ H2.out⟩
        case measure => simp [intOf]; omega
      · go_wp2_with fail
        go_quiet (fail)
        go_wp2_with fail
        go_roundw
        case rel => exact ⟨K + 1, F + 1, T + 1, L, by omega, by go_num, rfl, rfl, by omega, by omega, by omega, by omega, by omega, hown.alloc _, below_drewN (hbel.alloc hbs _) _, (by have := H2.out; rw [gap_no (by omega), List.append_nil] at this; exact this)⟩
        case measure => simp [intOf]; omega
    · by_cases he : K = p.length
      · have hinv' := hinv.last he
        have H2 := hide hinv'
        have HE := hide he
        have he1 : K ≤ p.length := by omega
        clear hinv hinv' hp hA he
        have hcase : I < m ∨ (m ≤ I ∧ J < n) ∨ (m ≤ I ∧ n ≤ J) := by omega
        rcases hcase with hg | ⟨hg, hg'⟩ | ⟨hg, hg'⟩
        · go_wp2_with (at_builtin; go_must (refine wp_app1 rfl (.tmp 39) (.tmp 51) 23 45 4 32 _ rfl Try.underlying23 info45 rfl (by omega) (by omega) wr _ w.heap.size L.length _ (chVals L) rfl _ _ rfl (by simp) hown (hown.alloc _) (by simp) rfl rfl (by omega) hbs ?_); intro v1 w1 hown1 hb1 hold hsz1)
          have cx0 : w1.cell? ⟨wr.heap.size, 0, none⟩ = some (.int .i64 m) := (hold _ 0 (Nat.le_refl _) (by simp)).trans (new_cell wr _ _ 0)
          have cx1 : w1.cell? ⟨wr.heap.size, 1, none⟩ = some (.int .i64 n) := (hold _ 1 (Nat.le_refl _) (by simp)).trans (new_cell wr _ _ 1)
          clear hold hown
          go_quiet (fail)
          go_wp2_with fail
          go_roundw
          case rel => exact ⟨K + 1, m + 1, n + 1, L ++ [⟨I, m - I, J, n - J⟩], by omega, by go_num, rfl, rfl, by omega, by omega, by omega, by omega, by simp; omega, own_drewN (own_ch hown1) _, below_drewN ((hbel.alloc hbs _).trans hb1) _, gap_yes (.inl hg) ▸ H2.out⟩
          case measure => simp [intOf]; omega
        · go_wp2_with (at_builtin; go_must (refine wp_app1 rfl (.tmp 39) (.tmp 51) 23 45 4 32 _ rfl Try.underlying23 info45 rfl (by omega) (by omega) wr _ w.heap.size L.length _ (chVals L) rfl _ _ rfl (by simp) hown (hown.alloc _) (by simp) rfl rfl (by omega) hbs ?_); intro v1 w1 hown1 hb1 hold hsz1)
          have cx0 : w1.cell? ⟨wr.heap.size, 0, none⟩ = some (.int .i64 m) := (hold _ 0 (Nat.le_refl _) (by simp)).trans (new_cell wr _ _ 0)
          have cx1 : w1.cell? ⟨wr.heap.size, 1, none⟩ = some (.int .i64 n) := (hold _ 1 (Nat.le_refl _) (by simp)).trans (new_cell wr _ _ 1)
          clear hold hown
          go_quiet (fail)
          go_wp2_with fail
          go_roundw
          case rel => exact ⟨K + 1, m + 1, n + 1, L ++ [⟨I, m - I, J, n - J⟩], by omega, by go_num, rfl, rfl, by omega, by omega, by omega, by omega, by simp; omega, own_drewN (own_ch hown1) _, below_drewN ((hbel.alloc hbs _).trans hb1) _, gap_yes (.inr hg') ▸ H2.out⟩
          case measure => simp [intOf]; omega
        · go_wp2_with fail
          go_quiet (fail)
          go_wp2_with fail
          go_roundw
          case rel => exact ⟨K + 1, m + 1, n + 1, L, by omega, by go_num, rfl, rfl, by omega, by omega, by omega, by omega, by omega, hown.alloc _, below_drewN (hbel.alloc hbs _) _, (by have := H2.out; rw [gap_no (by omega), List.append_nil] at this; exact this)⟩
          case measure => simp [intOf]; omega
      · have hE := hide (hinv.2 (by omega))
        clear hinv hp hA
        go_wp2_with fail
        go_ret
        have hE := hE.out
        exact ret_row hown hbel (by rw [hE]) (by rw [hE])
end Go.Proofs.Ytagembkjmnfidaa
