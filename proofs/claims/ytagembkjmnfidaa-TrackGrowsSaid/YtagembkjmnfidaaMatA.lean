import Derived.Test.YtagembkjmnfidaaSmall
import Derived.Test.YtagembkjmnfidaaBaseB
import Derived.Test.YtagembkjmnfidaaSpecG
import Derived.Test.YtagembkjmnfidaaSpecB
namespace Go.Proofs.Ytagembkjmnfidaa
open Go.RowKit
open Go.Proofs.Ml
set_option linter.unusedVariables false

set_option maxRecDepth 100000 in
set_option maxHeartbeats 800000 in
theorem matched46 (v : Value) (l : List Chg) (m n : Int) (w : World) (hr : Rd w v 4 l.length (chVals l)) (hv : valid l m n = true) (hl : l.length ≤ 900000) :
    Calls Try.prog 46 #[v, .int .i64 m] w (RetRow w 35 2 (mat 0 0 l m).length (spVals (mat 0 0 l m))) := by
  have hvv := valid_iff.1 hv
  obtain ⟨hm0, hm1⟩ := hvv.1
  obtain ⟨hn0, hn1⟩ := hvv.2.1
  have HB := hide hvv.2.2.bounds
  have hI0 := MtInv.start hv
  clear hvv hv
  obtain ⟨A, cap, rfl, hcap, hcap', hlen, hA⟩ := hr
  clear hlen hcap hcap'
  go_enter Try.func46, Try.ntmps46
  go_wp2_with fail
  go_loopw [5, 6, 7, 8] (fun v i j k wr => ∃ (K : Nat) (I J : Int) (L : List Spn), K ≤ l.length ∧ k = .int .i64 K ∧ i = .int .i64 I ∧ j = .int .i64 J ∧ 0 ≤ I ∧ I ≤ m ∧ 0 ≤ J ∧ J ≤ n ∧ L.length ≤ I ∧ wr.ownsRow w.heap.size 35 2 v L.length (spVals L) ∧ Below w.heap.size w wr ∧ MtInv l m n K I J L)
    (fun _ _ _ k _ => l.length - (intOf k).toNat)
  case atStart => exact ⟨0, 0, 0, [], by omega, rfl, rfl, rfl, by omega, by omega, by omega, by omega, by simp, World.ownsRow_nil _ _ _ _, Below.refl _ _, hI0⟩
  case round =>
    obtain ⟨K, I, J, L, hK, rfl, rfl, rfl, hi0, hi1, hj0, hj1, hL, hown, hbel, hinv⟩ := hrel
    obtain ⟨wo, rfl⟩ : ∃ wo : World, wo = wr := ⟨_, rfl⟩
    have hbs := hbel.size
    by_cases hlt : K < l.length
    · obtain ⟨b, off, rfl, hb, hc⟩ := hA (by omega)
      obtain ⟨q1, q2, q3, q4, q5, q6⟩ := hinv.run hlt
      have hbK := HB.out l[K] (List.getElem_mem _)
      have HR := hide q5
      have HN := hide q6
      have HC := hide (fun (wx : World) (hbx : Below w.heap.size w wx) => ch_cells hc hb hbx hlt)
      clear hA hc hinv q5 q6
      generalize l[K] = C at *
      obtain ⟨O, OL, N, NL⟩ := C
      simp only at q1 q2 q3 q4 hbK HC HR HN
      have k0 : (0 : Int) ≤ (K : Int) := by omega
      have k1 : (K : Int) < (l.length : Int) := by omega
      go_wp2_with fail
      go_loopw [5, 6, 7] (fun v i j wr => ∃ (I' J' : Int) (L' : List Spn), i = .int .i64 I' ∧ j = .int .i64 J' ∧ I ≤ I' ∧ I' ≤ O ∧ J' - J = I' - I ∧ L'.length ≤ I' ∧ wr.ownsRow w.heap.size 35 2 v L'.length (spVals L') ∧ Below w.heap.size w wr ∧ MtRun (mat 0 0 l m) (mat (O + OL) (N + NL) (l.drop (K + 1)) m) O I' J' L')
        (fun _ i _ _ => (O - intOf i).toNat)
      case atStart => exact ⟨I, J, L, rfl, rfl, by omega, by omega, by omega, hL, hown, hbel, HR.out⟩
      case round =>
        obtain ⟨I', J', L', rfl, rfl, r1, r2, r3, r4, hown', hbel', hrun⟩ := hrel
        have hbs' := hbel'.size
        have hbw : b < wr.heap.size := by omega
        obtain ⟨c0, c1, c2, c3⟩ := HC.out wr hbel'
        by_cases hlt2 : I' < O
        · have HS := hide (hrun.step hlt2)
          clear hrun
          go_wp2_with (at_builtin; go_must (refine wp_app1 rfl (.tmp 22) (.tmp 26) 50 35 2 16 _ rfl Try.underlying50 info35 rfl (by omega) (by omega) wr _ w.heap.size L'.length _ (spVals L') rfl _ _ rfl rfl hown' hown' (Nat.le_refl _) rfl rfl (by omega) hbs' ?_); intro v1 w1 hown1 hb1 hold hsz1; clear hold)
          go_roundw
          case rel => exact ⟨I' + 1, J' + 1, L' ++ [⟨I', J'⟩], rfl, rfl, by omega, by omega, by omega, by simp; omega, own_sp (c := ⟨I', J'⟩) hown1, hbel'.trans hb1, HS.out⟩
          case measure => simp [intOf]; omega
        · have HD := hide (HN.out L' (hrun.done (by omega)))
          clear hrun
          go_wp2_with fail
          go_quiet (fail)
          go_wp2_with fail
          go_roundw
          case rel => exact ⟨K + 1, O + OL, N + NL, L', by omega, by go_num, by first | rfl | go_num, by first | rfl | go_num, by omega, by omega, by omega, by omega, by omega, own_drewN hown' _, below_drewN hbel' _, HD.out⟩
          case measure => simp [intOf]; omega
    · obtain ⟨q1, q2, q3⟩ := hinv.last (by omega)
      have HR := hide q1
      clear hA hinv q1
      go_wp2_with fail
      go_loopw [5, 6, 7] (fun v i j wr => ∃ (I' J' : Int) (L' : List Spn), i = .int .i64 I' ∧ j = .int .i64 J' ∧ I ≤ I' ∧ I' ≤ m ∧ J' - J = I' - I ∧ L'.length ≤ I' ∧ wr.ownsRow w.heap.size 35 2 v L'.length (spVals L') ∧ Below w.heap.size w wr ∧ MtRun (mat 0 0 l m) [] m I' J' L')
        (fun _ i _ _ => (m - intOf i).toNat)
      case atStart => exact ⟨I, J, L, rfl, rfl, by omega, by omega, by omega, hL, hown, hbel, HR.out⟩
      case round =>
        obtain ⟨I', J', L', rfl, rfl, r1, r2, r3, r4, hown', hbel', hrun⟩ := hrel
        have hbs' := hbel'.size
        by_cases hlt2 : I' < m
        · have HS := hide (hrun.step hlt2)
          clear hrun
          go_wp2_with (at_builtin; go_must (refine wp_app1 rfl (.tmp 49) (.tmp 53) 50 35 2 16 _ rfl Try.underlying50 info35 rfl (by omega) (by omega) wr _ w.heap.size L'.length _ (spVals L') rfl _ _ rfl rfl hown' hown' (Nat.le_refl _) rfl rfl (by omega) hbs' ?_); intro v1 w1 hown1 hb1 hold hsz1; clear hold)
          go_roundw
          case rel => exact ⟨I' + 1, J' + 1, L' ++ [⟨I', J'⟩], rfl, rfl, by omega, by omega, by omega, by simp; omega, own_sp (c := ⟨I', J'⟩) hown1, hbel'.trans hb1, HS.out⟩
          case measure => simp [intOf]; omega
        · have HD := hide (hrun.done (by omega))
          clear hrun
          go_wp2_with fail
          go_ret
          have hD := HD.out
          rw [List.append_nil] at hD
          exact ret_row hown' hbel' (by rw [hD]) (by rw [hD])
end Go.Proofs.Ytagembkjmnfidaa
