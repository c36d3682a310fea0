import Derived.Test.YtagembkjmnfidaaSmall
import Derived.Test.YtagembkjmnfidaaSpecE
namespace Go.Proofs.Ytagembkjmnfidaa
open Go.RowKit
open Go.Proofs.Ml
set_option linter.unusedVariables false

set_option maxHeartbeats 400000 in
theorem counted76 (n : Int) (w : World) : Calls Try.prog 76 #[.int .i64 n] w fun e w' => e = .returned (.int .i64 (cnt n)) ∧ w = w' := by
  rcases Bool.eq_false_or_eq_true (inL n) with h | h
  all_goals
    have HE : Hid (cnt n = if inL n then n else 0) := hide rfl
    go_enter Try.func76, Try.ntmps76
    go_wp2_with (go_at_call 77; refine (length77 _ _).mono ?_; rintro e w' ⟨rfl, rfl⟩)
    go_ret
    exact ⟨ret_int (by rw [HE.out, h]; rfl), rfl⟩

set_option maxRecDepth 100000 in
set_option maxHeartbeats 800000 in
theorem size36 (v : Value) (l : List Chg) (w : World) (hr : Rd w v 4 l.length (chVals l)) (hl : l.length ≤ 1000000) :
    Calls Try.prog 36 #[v] w fun e w' => e = .returned (.tuple #[.int .i64 (szO l), .int .i64 (szN l)]) ∧ Below w.heap.size w w' := by
  obtain ⟨A, cap, rfl, hcap, hcap', hlen, hA⟩ := hr
  clear hlen hcap hcap'
  go_enter Try.func36, Try.ntmps36
  go_wp2_with fail
  go_loopw [4, 5, 10] (fun x y k wr => ∃ (K : Nat) (X Y : Int), K ≤ l.length ∧ k = .int .i64 K ∧ x = .int .i64 X ∧ y = .int .i64 Y ∧ 0 ≤ X ∧ X ≤ 4096 * K ∧ 0 ≤ Y ∧ Y ≤ 4096 * K ∧ Below w.heap.size w wr ∧ X = szO (l.take K) ∧ Y = szN (l.take K))
    (fun _ _ k _ => l.length - (intOf k).toNat)
  case atStart => exact ⟨0, 0, 0, by omega, rfl, rfl, rfl, by omega, by omega, by omega, by omega, Below.refl _ _, by simp [szO], by simp [szN]⟩
  case round =>
    obtain ⟨K, X, Y, hK, rfl, rfl, rfl, hX0, hX1, hY0, hY1, hbel, hX, hY⟩ := hrel
    have hbs := hbel.size
    by_cases hlt : K < l.length
    · obtain ⟨b, off, rfl, hb, hc⟩ := hA (by omega)
      have hbw : b < wr.heap.size := by omega
      obtain ⟨c0, c1, c2, c3⟩ := ch_cells hc hb hbel hlt
      have hX2 := szO_take l K hlt
      have hY2 := szN_take l K hlt
      rw [← hX] at hX2
      rw [← hY] at hY2
      have HX := hide hX2
      have HY := hide hY2
      clear hA hc hX hY hX2 hY2
      generalize l[K] = C at *
      obtain ⟨O, OL, N, NL⟩ := C
      simp only at c0 c1 c2 c3 HX HY
      obtain ⟨r1, r2⟩ := cnt_range OL
      obtain ⟨r3, r4⟩ := cnt_range NL
      go_wp2_with (go_at_call 76; refine (counted76 _ _).mono ?_; rintro e w' ⟨rfl, rfl⟩)
      go_roundw
      case rel => exact ⟨K + 1, X + cnt OL, Y + cnt NL, by omega, by go_num, rfl, rfl, by omega, by omega, by omega, by omega, hbel.alloc hbs _, HX.out.symm, HY.out.symm⟩
      case measure => simp [intOf]; omega
    · have HX := hide hX
      have HY := hide hY
      clear hA hX hY
      go_wp2_with fail
      go_ret2
      have HX := HX.out
      have HY := HY.out
      rw [List.take_of_length_le (by omega)] at HX HY
      exact ⟨by rw [← HX, ← HY]; rfl, hbel⟩
end Go.Proofs.Ytagembkjmnfidaa
