import Derived.Test.YtagembkjmnfidaaCovB
import Derived.Test.YtagembkjmnfidaaAwkH
namespace Go.Proofs.Ytagembkjmnfidaa
open Go.RowKit
open Go.Proofs.Ml
set_option linter.unusedVariables false

theorem covS_len (h : List Hnk) (m : Int) : (covS h m).length ≤ 4096 := by
  unfold covS
  split
  · simp
  · simp [cov]; omega

set_option maxRecDepth 100000 in
set_option maxHeartbeats 800000 in
theorem walk5 (w : World) (v : Value) (h : List Hnk) (hr : Rd w v 6 h.length (hkVals h)) (hl : h.length ≤ 9223372036854775807) (m : Int) (hm : -9223372036854775808 ≤ m ∧ m ≤ 9223372036854775807) :
    Calls Try.prog 5 #[v, .int .i64 m] w fun e w' => e = .returned (.bool true) ∧ Below w.heap.size w w' := by
  have HR := hide hr
  obtain ⟨A, cap, rfl, hcap, hcap', hlen, hA⟩ := hr
  clear hlen hcap hcap' hA
  obtain ⟨hm0, hm1⟩ := hm
  by_cases hx : 8 < h.length
  · go_enter Try.func5, Try.ntmps5
    go_wp2_with fail
    refine (awake26 _).mono ?_
    rintro e w' ⟨rfl, hb⟩
    go_wp2_with fail
    go_ret
    exact ⟨rfl, hb⟩
  by_cases hy : 200 < m ∧ m ≤ 4096
  · obtain ⟨hy0, hy1⟩ := hy
    go_enter Try.func5, Try.ntmps5
    go_wp2_with fail
    refine (awake26 _).mono ?_
    rintro e w' ⟨rfl, hb⟩
    go_wp2_with fail
    go_ret
    exact ⟨rfl, hb⟩
  have hy' : m ≤ 200 ∨ 4096 < m := by omega
  clear hy
  rcases hy' with hy | hy
  all_goals
    go_enter Try.func5, Try.ntmps5
    go_wp2_with fail
    refine (cover33 _ h m _ HR.out (by omega)).mono ?_
    rintro e w1 ⟨va, rfl, hownA, hb1⟩
    go_wp2_with fail
    refine (refcover34 _ h m _ (HR.out.below hb1 (Nat.le_refl _)) (by omega)).mono ?_
    rintro e w2 ⟨vb, rfl, hownB, hb2⟩
    have hRA := (Rd.of_own hownA).below hb2 (Nat.le_refl _)
    have hRB := Rd.of_own hownB
    have hb12 : Below w.heap.size w w2 := hb1.trans (hb2.mono hb1.size)
    have hbs2 := hb12.size
    have hcl : (covS h m).length ≤ 4096 := covS_len h m
    generalize covS h m = L at *
    obtain ⟨A1, cap1, rfl, hcap1, _, _, hA1⟩ := hRA
    obtain ⟨A2, cap2, rfl, hcap2, _, _, hA2⟩ := hRB
    clear hownA hownB hb1 hb2 HR hcap1 hcap2
    have hll : ((L.length : Int) != (L.length : Int)) = false := by simp
    go_wp2_with fail
    go_loopw [7] (fun k wr => ∃ (K : Nat), K ≤ L.length ∧ k = .int .i64 K ∧ Below w2.heap.size w2 wr)
      (fun k _ => L.length - (intOf k).toNat)
    case atStart => exact ⟨0, by omega, rfl, Below.refl _ _⟩
    case round =>
      obtain ⟨K, hK, rfl, hbel⟩ := hrel
      have hbs := hbel.size
      by_cases hlt : K < L.length
      · obtain ⟨b, off, rfl, hb, hc⟩ := hA1 (by omega)
        obtain ⟨b2, off2, rfl, hb2, hc2⟩ := hA2 (by omega)
        have hbw : b < wr.heap.size := by omega
        have hbw2 : b2 < wr.heap.size := by omega
        have c0 := bo_cells hc hb hbel hlt
        have d0 := bo_cells hc2 hb2 hbel hlt
        clear hA1 hA2 hc hc2
        generalize L[K] = x at *
        have h0 : (0 : Int) ≤ (K : Int) := by omega
        have h1 : (K : Int) < (L.length : Int) := by omega
        cases x
        all_goals
          go_wp2_with fail
          go_quiet (fail)
          go_wp2_with fail
          go_roundw
          case rel => exact ⟨K + 1, by omega, by go_num, below_drewN hbel _⟩
          case measure => simp [intOf]; omega
      · clear hA1 hA2
        go_wp2_with fail
        refine (awake26 _).mono ?_
        rintro e w' ⟨rfl, hb⟩
        go_wp2_with fail
        go_ret
        exact ⟨rfl, hb12.trans ((hbel.trans (hb.mono hbs)).mono hbs2)⟩
end Go.Proofs.Ytagembkjmnfidaa
