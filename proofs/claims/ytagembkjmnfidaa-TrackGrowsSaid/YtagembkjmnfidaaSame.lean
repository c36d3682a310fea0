import Derived.Test.YtagembkjmnfidaaSmall
namespace Go.Proofs.Ytagembkjmnfidaa
open Go.RowKit
open Go.Proofs.Ml
set_option linter.unusedVariables false

set_option maxRecDepth 100000 in
set_option maxHeartbeats 400000 in
theorem same44 (v v' : Value) (l : List Chg) (w : World) (hr : Rd w v 4 l.length (chVals l)) (hr' : Rd w v' 4 l.length (chVals l)) (hl : l.length ≤ 1000000) :
    Calls Try.prog 44 #[v, v'] w fun e w' => e = .returned (.bool true) ∧ Below w.heap.size w w' := by
  obtain ⟨A, cap, rfl, hcap, hcap', hlen, hA⟩ := hr
  obtain ⟨A', cap2, rfl, hcap2, hcap2', hlen2, hA'⟩ := hr'
  clear hlen hcap hcap' hlen2 hcap2 hcap2'
  have hll : ((l.length : Int) != (l.length : Int)) = false := by simp
  go_enter Try.func44, Try.ntmps44
  go_wp2_with fail
  go_loopw [5] (fun k wr => ∃ (K : Nat), K ≤ l.length ∧ k = .int .i64 K ∧ Below w.heap.size w wr)
    (fun k _ => l.length - (intOf k).toNat)
  case atStart => exact ⟨0, by omega, rfl, Below.refl _ _⟩
  case round =>
    obtain ⟨K, hK, rfl, hbel⟩ := hrel
    have hbs := hbel.size
    by_cases hlt : K < l.length
    · obtain ⟨b, off, rfl, hb, hc⟩ := hA (by omega)
      obtain ⟨b2, off2, rfl, hb2, hc2⟩ := hA' (by omega)
      have hbw : b < wr.heap.size := by omega
      have hbw2 : b2 < wr.heap.size := by omega
      obtain ⟨c0, c1, c2, c3⟩ := ch_cells hc hb hbel hlt
      obtain ⟨d0, d1, d2, d3⟩ := ch_cells hc2 hb2 hbel hlt
      clear hA hc hA' hc2
      generalize l[K] = C at *
      obtain ⟨O, OL, N, NL⟩ := C
      simp only at c0 d0 c1 d1 c2 d2 c3 d3
      have h0 : (0 : Int) ≤ (K : Int) := by omega
      have h1 : (K : Int) < (l.length : Int) := by omega
      go_wp2_with fail
      go_quiet (fail)
      go_wp2_with fail
      go_roundw
      case rel => exact ⟨K + 1, by omega, by go_num, below_drewN hbel _⟩
      case measure => simp [intOf]; omega
    · clear hA hA'
      go_wp2_with fail
      go_ret
      exact ⟨rfl, hbel⟩

set_option maxRecDepth 100000 in
set_option maxHeartbeats 400000 in
theorem same43 (v v' : Value) (l : List Spn) (w : World) (hr : Rd w v 2 l.length (spVals l)) (hr' : Rd w v' 2 l.length (spVals l)) (hl : l.length ≤ 1000000) :
    Calls Try.prog 43 #[v, v'] w fun e w' => e = .returned (.bool true) ∧ Below w.heap.size w w' := by
  obtain ⟨A, cap, rfl, hcap, hcap', hlen, hA⟩ := hr
  obtain ⟨A', cap2, rfl, hcap2, hcap2', hlen2, hA'⟩ := hr'
  clear hlen hcap hcap' hlen2 hcap2 hcap2'
  have hll : ((l.length : Int) != (l.length : Int)) = false := by simp
  go_enter Try.func43, Try.ntmps43
  go_wp2_with fail
  go_loopw [5] (fun k wr => ∃ (K : Nat), K ≤ l.length ∧ k = .int .i64 K ∧ Below w.heap.size w wr)
    (fun k _ => l.length - (intOf k).toNat)
  case atStart => exact ⟨0, by omega, rfl, Below.refl _ _⟩
  case round =>
    obtain ⟨K, hK, rfl, hbel⟩ := hrel
    have hbs := hbel.size
    by_cases hlt : K < l.length
    · obtain ⟨b, off, rfl, hb, hc⟩ := hA (by omega)
      obtain ⟨b2, off2, rfl, hb2, hc2⟩ := hA' (by omega)
      have hbw : b < wr.heap.size := by omega
      have hbw2 : b2 < wr.heap.size := by omega
      obtain ⟨c0, c1⟩ := sp_cells hc hb hbel hlt
      obtain ⟨d0, d1⟩ := sp_cells hc2 hb2 hbel hlt
      clear hA hc hA' hc2
      generalize l[K] = C at *
      obtain ⟨F, T⟩ := C
      simp only at c0 d0 c1 d1
      have h0 : (0 : Int) ≤ (K : Int) := by omega
      have h1 : (K : Int) < (l.length : Int) := by omega
      go_wp2_with fail
      go_quiet (fail)
      go_wp2_with fail
      go_roundw
      case rel => exact ⟨K + 1, by omega, by go_num, below_drewN hbel _⟩
      case measure => simp [intOf]; omega
    · clear hA hA'
      go_wp2_with fail
      go_ret
      exact ⟨rfl, hbel⟩

set_option maxRecDepth 100000 in
set_option maxHeartbeats 400000 in
theorem same31 (v v' : Value) (l : List Hnk) (w : World) (hr : Rd w v 6 l.length (hkVals l)) (hr' : Rd w v' 6 l.length (hkVals l)) (hl : l.length ≤ 1000000) :
    Calls Try.prog 31 #[v, v'] w fun e w' => e = .returned (.bool true) ∧ Below w.heap.size w w' := by
  obtain ⟨A, cap, rfl, hcap, hcap', hlen, hA⟩ := hr
  obtain ⟨A', cap2, rfl, hcap2, hcap2', hlen2, hA'⟩ := hr'
  clear hlen hcap hcap' hlen2 hcap2 hcap2'
  have hll : ((l.length : Int) != (l.length : Int)) = false := by simp
  go_enter Try.func31, Try.ntmps31
  go_wp2_with fail
  go_loopw [5] (fun k wr => ∃ (K : Nat), K ≤ l.length ∧ k = .int .i64 K ∧ Below w.heap.size w wr)
    (fun k _ => l.length - (intOf k).toNat)
  case atStart => exact ⟨0, by omega, rfl, Below.refl _ _⟩
  case round =>
    obtain ⟨K, hK, rfl, hbel⟩ := hrel
    have hbs := hbel.size
    by_cases hlt : K < l.length
    · obtain ⟨b, off, rfl, hb, hc⟩ := hA (by omega)
      obtain ⟨b2, off2, rfl, hb2, hc2⟩ := hA' (by omega)
      have hbw : b < wr.heap.size := by omega
      have hbw2 : b2 < wr.heap.size := by omega
      obtain ⟨c0, c1, c2, c3, c4, c5⟩ := hk_cells hc hb hbel hlt
      obtain ⟨d0, d1, d2, d3, d4, d5⟩ := hk_cells hc2 hb2 hbel hlt
      clear hA hc hA' hc2
      generalize l[K] = C at *
      obtain ⟨a, b1, c, d, e, f⟩ := C
      simp only at c0 d0 c1 d1 c2 d2 c3 d3 c4 d4 c5 d5
      have h0 : (0 : Int) ≤ (K : Int) := by omega
      have h1 : (K : Int) < (l.length : Int) := by omega
      go_wp2_with fail
      go_quiet (fail)
      go_wp2_with fail
      go_roundw
      case rel => exact ⟨K + 1, by omega, by go_num, below_drewN hbel _⟩
      case measure => simp [intOf]; omega
    · clear hA hA'
      go_wp2_with fail
      go_ret
      exact ⟨rfl, hbel⟩
end Go.Proofs.Ytagembkjmnfidaa
