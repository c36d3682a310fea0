import Derived.Test.YtagembkjmnfidaaFrmA
namespace Go.Proofs.Ytagembkjmnfidaa
open Go.RowKit
open Go.Proofs.Ml
set_option linter.unusedVariables false

theorem sp_get_l (p : List Spn) (x : Spn) (K : Nat) (h : K < p.length) (h' : K < (p ++ [x]).length) : (p ++ [x])[K] = p[K] := List.getElem_append_left h
theorem sp_get_r (p : List Spn) (x : Spn) (K : Nat) (h : K = p.length) (h' : K < (p ++ [x]).length) : (p ++ [x])[K] = x := by subst h; simp
theorem MadeInv.any {p : List Spn} {m n : Int} {k : Nat} {I J : Int} {L : List Chg} (h : MadeInv p m n k I J L) (hk : k < (p ++ [(⟨m, n⟩ : Spn)]).length) :
    MadeInv p m n (k + 1) ((p ++ [(⟨m, n⟩ : Spn)])[k].f + 1) ((p ++ [(⟨m, n⟩ : Spn)])[k].t + 1) (L ++ gap I J (p ++ [(⟨m, n⟩ : Spn)])[k].f (p ++ [(⟨m, n⟩ : Spn)])[k].t) := by
  by_cases h1 : k < p.length
  · rw [sp_get_l p _ k h1]; exact h.step h1
  · have h2 : k = p.length := by simp at hk; omega
    rw [sp_get_r p _ k h2]; exact h.last h2

set_option maxHeartbeats 400000 in
set_option maxRecDepth 100000 in
theorem from79 (v : Value) (p : List Spn) (m n : Int) (w : World) (hr : Rd w v 2 p.length (spVals p)) (hl : p.length ≤ 5000)
    (hp : ∀ s ∈ p, 0 ≤ s.f ∧ s.f ≤ 4096 ∧ 0 ≤ s.t ∧ s.t ≤ 4096) (hm : 0 ≤ m ∧ m ≤ 4096) (hn : 0 ≤ n ∧ n ≤ 4096) :
    Calls Try.prog 79 #[v, .int .i64 m, .int .i64 n] w (RetRow w 45 4 (made 0 0 p m n).length (chVals (made 0 0 p m n))) := by
  have hr2 := hr
  obtain ⟨A, cap, rfl, hcap, hcap', hlen, hA⟩ := hr2
  have hA2 : 0 < p.length → ∃ b off, A = some ⟨b, off, none⟩ := fun h => by obtain ⟨b, off, e, _⟩ := hA h; exact ⟨b, off, e⟩
  have HR := hide (show Rd w (.slice A p.length p.length) 2 p.length (spVals p) from ⟨A, p.length, rfl, Nat.le_refl _, by omega, hlen, hA⟩)
  have HQ := hide (show ∀ s ∈ p ++ [(⟨m, n⟩ : Spn)], 0 ≤ s.f ∧ s.f ≤ 4096 ∧ 0 ≤ s.t ∧ s.t ≤ 4096 from fun s hs => by
    rcases List.mem_append.1 hs with h | h
    · exact hp s h
    · rw [List.mem_singleton] at h; subst h; exact ⟨hm.1, hm.2, hn.1, hn.2⟩)
  clear hr hA hp hlen hcap'
  have HC := hide (clip92 A p.length cap w hcap hA2)
  clear hA2
  go_enter Try.func79, Try.ntmps79
  go_wp2_with fail
  refine HC.out.mono ?_
  rintro e w' ⟨rfl, rfl⟩
  obtain ⟨q, hq⟩ : ∃ q, q = p ++ [(⟨m, n⟩ : Spn)] := ⟨_, rfl⟩
  have hql : q.length = p.length + 1 := by rw [hq]; simp
  have HST := hide (fun (K : Nat) (I J : Int) (L : List Chg) (h : MadeInv p m n K I J L) (hk : K < q.length) => show MadeInv p m n (K + 1) (q[K].f + 1) (q[K].t + 1) (L ++ gap I J q[K].f q[K].t) by subst hq; exact h.any hk)
  rw [← hq] at HQ
  have HAPP := hide (fun (v : Value) (W : World) (h : W.ownsRow w.heap.size 35 2 v (p.length + 1) (spVals p ++ [.int .i64 m, .int .i64 n])) => show Rd W v 2 q.length (spVals q) by subst hq; exact Rd.of_own (own_sp h))
  clear hq HC
  go_wp2_with (at_builtin; go_must (refine wp_grow1 rfl (.tmp 13) (.tmp 17) 50 35 2 16 _ rfl Try.underlying50 info35 rfl (by omega) (by omega) w p.length A (spVals p) rfl HR.out _ _ rfl rfl rfl rfl rfl (by omega) ?_); intro v1 w1 hown1 hb1; obtain ⟨A1, cap1, rfl, hc1, hc1', hl1, hA1⟩ := HAPP.out v1 w1 hown1; clear hl1 hc1 hc1' hown1)
  have hb1s := hb1.size
  go_loopw [7, 8, 9, 20] (fun v i j k wr => ∃ (K : Nat) (I J : Int) (L : List Chg), K ≤ q.length ∧ k = .int .i64 K ∧ i = .int .i64 I ∧ j = .int .i64 J ∧ 0 ≤ I ∧ I ≤ 5000 ∧ 0 ≤ J ∧ J ≤ 5000 ∧ L.length ≤ K ∧ wr.ownsRow w1.heap.size 45 4 v L.length (chVals L) ∧ Below w1.heap.size w1 wr ∧ MadeInv p m n K I J L)
    (fun _ _ _ k _ => q.length - (intOf k).toNat)
  case atStart => exact ⟨0, 0, 0, [], by omega, rfl, rfl, rfl, by omega, by omega, by omega, by omega, by simp, World.ownsRow_nil _ _ _ _, Below.refl _ _, MadeInv.start p m n⟩
  case round =>
    obtain ⟨K, I, J, L, hK, rfl, rfl, rfl, hI0, hI1, hJ0, hJ1, hL, hown, hbel, hinv⟩ := hrel
    have hbs := hbel.size
    by_cases hlt : K < q.length
    · obtain ⟨b, off, rfl, hb, hc⟩ := hA1 (by omega)
      have hbw : b < wr.heap.size := by omega
      obtain ⟨c0, c1⟩ := sp_cells hc hb hbel hlt
      obtain ⟨hF0, hF1, hT0, hT1⟩ := HQ.out q[K] (List.getElem_mem hlt)
      have H2 := hide (HST.out K I J L hinv hlt)
      clear hinv hc hA1 HST
      generalize q[K].f = F at *
      generalize q[K].t = T at *
      have hcase : I < F ∨ (F ≤ I ∧ J < T) ∨ (F ≤ I ∧ T ≤ J) := by omega
      rcases hcase with hg | ⟨hg, hg'⟩ | ⟨hg, hg'⟩
      · go_wp2_with (at_builtin; go_must (refine wp_app1 rfl (.tmp 34) (.tmp 46) 23 45 4 32 _ rfl Try.underlying23 info45 rfl (by omega) (by omega) wr _ w1.heap.size L.length _ (chVals L) rfl _ _ rfl (by simp) hown (hown.alloc _) (by simp) rfl rfl (by omega) hbs ?_); intro v1 w2 hown1 hb2 hold hsz1)
        have cx0 : w2.cell? ⟨wr.heap.size, 0, none⟩ = some (.int .i64 F) := (hold _ 0 (Nat.le_refl _) (by simp)).trans (new_cell wr _ _ 0)
        have cx1 : w2.cell? ⟨wr.heap.size, 1, none⟩ = some (.int .i64 T) := (hold _ 1 (Nat.le_refl _) (by simp)).trans (new_cell wr _ _ 1)
        clear hold c0 c1 hown
        go_quiet (fail)
        go_wp2_with fail
        go_roundw
        case rel => exact ⟨K + 1, F + 1, T + 1, L ++ [⟨I, F - I, J, T - J⟩], by omega, by go_num, rfl, rfl, by omega, by omega, by omega, by omega, by simp; omega, own_drewN (own_ch hown1) _, below_drewN ((hbel.alloc hbs _).trans hb2) _, gap_yes (.inl hg) ▸ H2.out⟩
        case measure => simp [intOf]; omega
      · go_wp2_with (at_builtin; go_must (refine wp_app1 rfl (.tmp 34) (.tmp 46) 23 45 4 32 _ rfl Try.underlying23 info45 rfl (by omega) (by omega) wr _ w1.heap.size L.length _ (chVals L) rfl _ _ rfl (by simp) hown (hown.alloc _) (by simp) rfl rfl (by omega) hbs ?_); intro v1 w2 hown1 hb2 hold hsz1)
        have cx0 : w2.cell? ⟨wr.heap.size, 0, none⟩ = some (.int .i64 F) := (hold _ 0 (Nat.le_refl _) (by simp)).trans (new_cell wr _ _ 0)
        have cx1 : w2.cell? ⟨wr.heap.size, 1, none⟩ = some (.int .i64 T) := (hold _ 1 (Nat.le_refl _) (by simp)).trans (new_cell wr _ _ 1)
        clear hold c0 c1 hown
        go_quiet (fail)
        go_wp2_with fail
        go_roundw
        case rel => exact ⟨K + 1, F + 1, T + 1, L ++ [⟨I, F - I, J, T - J⟩], by omega, by go_num, rfl, rfl, by omega, by omega, by omega, by omega, by simp; omega, own_drewN (own_ch hown1) _, below_drewN ((hbel.alloc hbs _).trans hb2) _, gap_yes (.inr hg') ▸ H2.out⟩
        case measure => simp [intOf]; omega
      · go_wp2_with fail
        go_quiet (fail)
        go_wp2_with fail
        go_roundw
        case rel => exact ⟨K + 1, F + 1, T + 1, L, by omega, by go_num, rfl, rfl, by omega, by omega, by omega, by omega, by omega, hown.alloc _, below_drewN (hbel.alloc hbs _) _, (by have := H2.out; rw [gap_no (by omega), List.append_nil] at this; exact this)⟩
        case measure => simp [intOf]; omega
    · have hE := hide (hinv.2 (by omega))
      clear hinv hA1
      go_wp2_with fail
      go_ret
      have hE := hE.out
      exact ret_row (own_base hown hb1s) ((hb1.trans (hbel.mono hb1s))) (by rw [hE]) (by rw [hE])
end Go.Proofs.Ytagembkjmnfidaa
