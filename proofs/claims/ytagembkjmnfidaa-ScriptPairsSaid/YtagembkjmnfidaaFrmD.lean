import Derived.Test.YtagembkjmnfidaaFrmB
import Derived.Test.YtagembkjmnfidaaGrpA
import Derived.Test.YtagembkjmnfidaaSpecH
import Derived.IntWalk
namespace Go.Proofs.Ytagembkjmnfidaa
open Go.RowKit
open Go.Proofs.Ml
set_option linter.unusedVariables false

set_option maxHeartbeats 1600000 in
set_option maxRecDepth 100000 in
theorem from42 (v : Value) (p : List Spn) (m n : Int) (w : World) (hr : Rd w v 2 p.length (spVals p)) (hl : p.length ≤ 5000) :
    Calls Try.prog 42 #[v, .int .i64 m, .int .i64 n] w (RetRowErr w 45 4 (fpRes p m n).length (chVals (fpRes p m n)) (fpErr p m n)) := by
  have HR := hide hr
  obtain ⟨A, cap, rfl, hcap, hcap', hlen, hA⟩ := hr
  clear hlen hcap hcap'
  by_cases hm : inL m = false
  · have HE := hide (fp_bad (p := p) (m := m) (n := n) (.inl hm))
    clear hA
    go_enter Try.func42, Try.ntmps42
    go_wp2_with (go_at_call 75; refine (in75 _ _).mono ?_; rintro e w' ⟨rfl, rfl⟩)
    go_ret2
    obtain ⟨E1, E2⟩ := HE.out
    exact ret_row_err (n' := 0) (cs' := []) (World.ownsRow_nil _ _ _ _) (Below.refl _ _) (by rw [E2]; rfl) (by rw [E2]; rfl) E1.symm
  by_cases hn : inL n = false
  · have HE := hide (fp_bad (p := p) (m := m) (n := n) (.inr hn))
    rw [Bool.not_eq_false] at hm
    clear hA
    go_enter Try.func42, Try.ntmps42
    go_wp2_with (go_at_call 75; refine (in75 _ _).mono ?_; rintro e w' ⟨rfl, rfl⟩)
    go_ret2
    obtain ⟨E1, E2⟩ := HE.out
    exact ret_row_err (n' := 0) (cs' := []) (World.ownsRow_nil _ _ _ _) (Below.refl _ _) (by rw [E2]; rfl) (by rw [E2]; rfl) E1.symm
  rw [Bool.not_eq_false] at hm hn
  obtain ⟨hm0, hm1⟩ := inL_iff.1 hm
  obtain ⟨hn0, hn1⟩ := inL_iff.1 hn
  have HBAD := hide (fp_range (p := p) hm hn)
  have HOK := hide (fp_ok (p := p) hm hn)
  go_enter Try.func42, Try.ntmps42
  go_wp2_with (go_at_call 75; refine (in75 _ _).mono ?_; rintro e w' ⟨rfl, rfl⟩)
  go_loopw [8] (fun k wr => ∃ (K : Nat) (F T : Int), K ≤ p.length ∧ k = .int .i64 K ∧ FpInv p m n K F T ∧ Below w.heap.size w wr)
    (fun k _ => p.length - (intOf k).toNat)
  case atStart => exact ⟨0, -1, -1, by omega, rfl, FpInv.start hm0 hn0, Below.refl _ _⟩
  case round =>
    obtain ⟨K, F, T, hK, rfl, hinv, hbel⟩ := hrel
    have hbs := hbel.size
    by_cases hlt : K < p.length
    · obtain ⟨b, off, rfl, hb, hc⟩ := hA (by omega)
      have hbw : b < wr.heap.size := by omega
      obtain ⟨c0, c1⟩ := sp_cells hc hb hbel hlt
      have i0 : (0 : Int) ≤ (K : Int) := by omega
      have i1 : (K : Int) < (p.length : Int) := by omega
      obtain ⟨b1, b2, b3, b4, b5, b6⟩ := hinv.2
      have H1 := hide (fun h => HBAD.out (hinv.bad hlt h))
      have H2 := hide (hinv.step hlt)
      have HP := hide (fun (P : Nat) (e : K = P + 1) (h : P < p.length) => (⟨b6 P e h, sp_cells hc hb hbel h⟩ : (F = p[P].f ∧ T = p[P].t) ∧ _))
      clear hinv hc hA b6
      generalize p[K].f = f at *
      generalize p[K].t = t at *
      by_cases g1 : f < 0
      · have HE := hide (H1.out (.inl (by omega)))
        clear H1 H2
        have g1' : decide (f < 0) = true := by simp; omega
        go_wp2_with fail
        go_quiet (fail)
        go_wp2_with fail
        go_ret2
        obtain ⟨E1, E2⟩ := HE.out
        exact ret_row_err (n' := 0) (cs' := []) (World.ownsRow_nil _ _ _ _) (below_drewN hbel _) (by rw [E2]; rfl) (by rw [E2]; rfl) E1.symm
      have g1' : decide (f < 0) = false := by simp; omega
      have g1n : 0 ≤ f := by omega
      clear g1
      by_cases g2 : m ≤ f
      · have HE := hide (H1.out (.inr (.inl g2)))
        clear H1 H2
        have g2' : decide (m ≤ f) = true := by simp; omega
        go_wp2_with fail
        go_quiet (fail)
        go_wp2_with fail
        go_ret2
        obtain ⟨E1, E2⟩ := HE.out
        exact ret_row_err (n' := 0) (cs' := []) (World.ownsRow_nil _ _ _ _) (below_drewN hbel _) (by rw [E2]; rfl) (by rw [E2]; rfl) E1.symm
      have g2' : decide (m ≤ f) = false := by simp; omega
      have g2n : f < m := by omega
      clear g2
      by_cases g3 : t < 0
      · have HE := hide (H1.out (.inr (.inr (.inl (by omega)))))
        clear H1 H2
        have g3' : decide (t < 0) = true := by simp; omega
        go_wp2_with fail
        go_quiet (fail)
        go_wp2_with fail
        go_ret2
        obtain ⟨E1, E2⟩ := HE.out
        exact ret_row_err (n' := 0) (cs' := []) (World.ownsRow_nil _ _ _ _) (below_drewN hbel _) (by rw [E2]; rfl) (by rw [E2]; rfl) E1.symm
      have g3' : decide (t < 0) = false := by simp; omega
      have g3n : 0 ≤ t := by omega
      clear g3
      by_cases g4 : n ≤ t
      · have HE := hide (H1.out (.inr (.inr (.inr g4))))
        clear H1 H2
        have g4' : decide (n ≤ t) = true := by simp; omega
        go_wp2_with fail
        go_quiet (fail)
        go_wp2_with fail
        go_ret2
        obtain ⟨E1, E2⟩ := HE.out
        exact ret_row_err (n' := 0) (cs' := []) (World.ownsRow_nil _ _ _ _) (below_drewN hbel _) (by rw [E2]; rfl) (by rw [E2]; rfl) E1.symm
      have g4' : decide (n ≤ t) = false := by simp; omega
      have g4n : t < n := by omega
      clear g4
      by_cases hK0 : K = 0
      · obtain ⟨rfl, rfl⟩ := b5 hK0
        have hd : decide ((0 : Int) < (K : Int)) = false := by simp; omega
        have hd2 : decide (0 < K) = false := by simp; omega
        clear b5 HP
        have H3 := hide (H2.out (by omega) (by omega) (by omega) (by omega))
        clear H1 H2 hK0
        go_wp2_with fail
        go_quiet (fail)
        go_wp2_with fail
        go_roundw
        case rel => exact ⟨K + 1, f, t, by omega, by go_num, H3.out, below_drewN hbel _⟩
        case measure => simp [intOf]; omega
      · obtain ⟨P, hP⟩ : ∃ P, K = P + 1 := ⟨K - 1, by omega⟩
        have hPl : P < p.length := by omega
        obtain ⟨⟨e1, e2⟩, d0, d1⟩ := HP.out P hP hPl
        rw [← e1] at d0
        rw [← e2] at d1
        have hd : decide ((0 : Int) < (K : Int)) = true := by simp; omega
        have hd2 : decide (0 < K) = true := by simp; omega
        have m1 : (0 : Int) ≤ (P : Int) := by omega
        have m2 : (P : Int) < (p.length : Int) := by omega
        have e7 : IntKind.i64.wrap ((K : Int) - 1) = (P : Int) := by rw [IntWalk.i64_in _ (by omega)]; omega
        clear b5 HP hK0 hP e1 e2
        by_cases g5 : f ≤ F
        · have HE := hide (H1.out (.inl g5))
          clear H1 H2
          go_wp2_with fail
          go_quiet (fail)
          go_wp2_with fail
          go_ret2
          obtain ⟨E1, E2⟩ := HE.out
          exact ret_row_err (n' := 0) (cs' := []) (World.ownsRow_nil _ _ _ _) (below_drewN hbel _) (by rw [E2]; rfl) (by rw [E2]; rfl) E1.symm
        have g5' : decide (f ≤ F) = false := by simp; omega
        by_cases g6 : t ≤ T
        · have HE := hide (H1.out (.inr (.inr (.inl g6))))
          clear H1 H2
          go_wp2_with fail
          go_quiet (fail)
          go_wp2_with fail
          go_ret2
          obtain ⟨E1, E2⟩ := HE.out
          exact ret_row_err (n' := 0) (cs' := []) (World.ownsRow_nil _ _ _ _) (below_drewN hbel _) (by rw [E2]; rfl) (by rw [E2]; rfl) E1.symm
        have g6' : decide (t ≤ T) = false := by simp; omega
        have H3 := hide (H2.out (by omega) (by omega) (by omega) (by omega))
        clear H1 H2
        go_wp2_with fail
        go_quiet (fail)
        go_wp2_with fail
        go_roundw
        case rel => exact ⟨K + 1, f, t, by omega, by go_num, H3.out, below_drewN hbel _⟩
        case measure => simp [intOf]; omega
    · have hasc := hinv.fin (show K = p.length by omega)
      have HE := hide (HOK.out hasc)
      have hmem := hasc.mem
      have HF := hide (made63 (.slice A p.length cap) p m n wr (HR.out.below hbel (Nat.le_refl _)) hl (fun s hs => by have := hmem s hs; omega) (by omega) (by omega))
      clear hinv hA hasc hmem
      go_wp2_with fail
      refine HF.out.mono ?_
      rintro e w2 ⟨v, rfl, hown, hb2⟩
      go_wp2_with fail
      go_ret2
      obtain ⟨E1, E2⟩ := HE.out
      exact ret_row_err (own_base hown hbs) (hbel.trans (hb2.mono hbs)) (by rw [E2]) (by rw [E2]) E1.symm
end Go.Proofs.Ytagembkjmnfidaa
