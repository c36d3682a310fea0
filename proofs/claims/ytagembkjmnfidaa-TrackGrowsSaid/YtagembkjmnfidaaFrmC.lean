import Derived.Test.YtagembkjmnfidaaFrmB
import Derived.Test.YtagembkjmnfidaaBaseE
import Derived.Test.YtagembkjmnfidaaGrpA
import Derived.Test.YtagembkjmnfidaaSpecH
namespace Go.Proofs.Ytagembkjmnfidaa
open Go.RowKit
open Go.Proofs.Ml
set_option linter.unusedVariables false

set_option maxHeartbeats 800000 in
set_option maxRecDepth 100000 in
theorem from41 (v : Value) (p : List Spn) (m n : Int) (w : World) (hr : Rd w v 2 p.length (spVals p)) (hl : p.length ≤ 5000) :
    Calls Try.prog 41 #[v, .int .i64 m, .int .i64 n] w (RetRowErr w 45 4 (fpRes p m n).length (chVals (fpRes p m n)) (fpErr p m n)) := by
  have HR := hide hr
  obtain ⟨A, cap, rfl, hcap, hcap', hlen, hA⟩ := hr
  clear hlen hcap hcap'
  by_cases hm : inL m = false
  · have HE := hide (fp_bad (p := p) (m := m) (n := n) (.inl hm))
    clear hA
    go_enter Try.func41, Try.ntmps41
    go_wp2_with (go_at_call 77; refine (length77 _ _).mono ?_; rintro e w' ⟨rfl, rfl⟩)
    go_ret2
    obtain ⟨E1, E2⟩ := HE.out
    exact ret_row_err (n' := 0) (cs' := []) (World.ownsRow_nil _ _ _ _) (Below.refl _ _) (by rw [E2]; rfl) (by rw [E2]; rfl) E1.symm
  by_cases hn : inL n = false
  · have HE := hide (fp_bad (p := p) (m := m) (n := n) (.inr hn))
    rw [Bool.not_eq_false] at hm
    clear hA
    go_enter Try.func41, Try.ntmps41
    go_wp2_with (go_at_call 77; refine (length77 _ _).mono ?_; rintro e w' ⟨rfl, rfl⟩)
    go_ret2
    obtain ⟨E1, E2⟩ := HE.out
    exact ret_row_err (n' := 0) (cs' := []) (World.ownsRow_nil _ _ _ _) (Below.refl _ _) (by rw [E2]; rfl) (by rw [E2]; rfl) E1.symm
  rw [Bool.not_eq_false] at hm hn
  obtain ⟨hm0, hm1⟩ := inL_iff.1 hm
  obtain ⟨hn0, hn1⟩ := inL_iff.1 hn
  have HBAD := hide (fp_range (p := p) hm hn)
  have HOK := hide (fp_ok (p := p) hm hn)
  go_enter Try.func41, Try.ntmps41
  go_wp2_with (go_at_call 77; refine (length77 _ _).mono ?_; rintro e w' ⟨rfl, rfl⟩)
  go_loopw [22] (fun k wr => ∃ (K : Nat) (F T : Int), K ≤ p.length ∧ k = .int .i64 K ∧ FpInv p m n K F T ∧ Two wr w.heap.size 35 (.int .i64 F) (.int .i64 T) ∧ Below w.heap.size w wr)
    (fun k _ => p.length - (intOf k).toNat)
  case atStart => exact ⟨0, -1, -1, by omega, rfl, FpInv.start hm0 hn0, Two.new w 35 _ _, (Below.refl _ _).alloc (Nat.le_refl _) _⟩
  case round =>
    obtain ⟨K, F, T, hK, rfl, hinv, htwo, hbel⟩ := hrel
    have hbs := hbel.size
    have hsz := htwo.lt
    have l0 := htwo.c0
    have l1 := htwo.c1
    have z0 := htwo.z 0
    have z1 := htwo.z 1
    by_cases hlt : K < p.length
    · obtain ⟨b, off, rfl, hb, hc⟩ := hA (by omega)
      have hbw : b < wr.heap.size := by omega
      obtain ⟨c0, c1⟩ := sp_cells hc hb hbel hlt
      obtain ⟨b1, b2, b3, b4, b5⟩ := hinv.2
      have H1 := hide (fun h => HBAD.out (hinv.bad hlt h))
      have H2 := hide (hinv.step hlt)
      clear hinv hc hA b5
      generalize p[K].f = f at *
      generalize p[K].t = t at *
      by_cases g1 : f ≤ F
      · have HE := hide (H1.out (.inl g1))
        clear H1 H2
        go_wp2_with fail
        go_ret2
        obtain ⟨E1, E2⟩ := HE.out
        exact ret_row_err (n' := 0) (cs' := []) (World.ownsRow_nil _ _ _ _) (hbel.alloc hbs _) (by rw [E2]; rfl) (by rw [E2]; rfl) E1.symm
      by_cases g2 : m ≤ f
      · have HE := hide (H1.out (.inr (.inl g2)))
        clear H1 H2
        go_wp2_with fail
        go_ret2
        obtain ⟨E1, E2⟩ := HE.out
        exact ret_row_err (n' := 0) (cs' := []) (World.ownsRow_nil _ _ _ _) (hbel.alloc hbs _) (by rw [E2]; rfl) (by rw [E2]; rfl) E1.symm
      by_cases g3 : t ≤ T
      · have HE := hide (H1.out (.inr (.inr (.inl g3))))
        clear H1 H2
        go_wp2_with fail
        go_ret2
        obtain ⟨E1, E2⟩ := HE.out
        exact ret_row_err (n' := 0) (cs' := []) (World.ownsRow_nil _ _ _ _) (hbel.alloc hbs _) (by rw [E2]; rfl) (by rw [E2]; rfl) E1.symm
      by_cases g4 : n ≤ t
      · have HE := hide (H1.out (.inr (.inr (.inr g4))))
        clear H1 H2
        go_wp2_with fail
        go_ret2
        obtain ⟨E1, E2⟩ := HE.out
        exact ret_row_err (n' := 0) (cs' := []) (World.ownsRow_nil _ _ _ _) (hbel.alloc hbs _) (by rw [E2]; rfl) (by rw [E2]; rfl) E1.symm
      have H3 := hide (H2.out (by omega) (by omega) (by omega) (by omega))
      have HT := hide htwo
      clear H1 H2 htwo
      go_wp2_with fail
      go_roundw
      case rel => exact ⟨K + 1, f, t, by omega, by go_num, H3.out, (HT.out.set _ _).alloc _, ((hbel.setCell (p := ⟨w.heap.size, 0, none⟩) (Nat.le_refl _) _).setCell (p := ⟨w.heap.size, 1, none⟩) (Nat.le_refl _) _).alloc (by simp; omega) _⟩
      case measure => simp [intOf]; omega
    · have hasc := hinv.fin (show K = p.length by omega)
      have HE := hide (HOK.out hasc)
      have hmem := hasc.mem
      have HF := hide (from79 (.slice A p.length cap) p m n wr (HR.out.below hbel (Nat.le_refl _)) hl (fun s hs => by have := hmem s hs; omega) (by omega) (by omega))
      clear hinv hA hasc hmem htwo
      go_wp2_with fail
      refine HF.out.mono ?_
      rintro e w2 ⟨v, rfl, hown, hb2⟩
      go_wp2_with fail
      go_ret2
      obtain ⟨E1, E2⟩ := HE.out
      exact ret_row_err (own_base hown hbs) (hbel.trans (hb2.mono hbs)) (by rw [E2]) (by rw [E2]) E1.symm
end Go.Proofs.Ytagembkjmnfidaa
