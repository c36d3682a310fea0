import Derived.Test.YtagembkjmnfidaaSmall
import Derived.Test.YtagembkjmnfidaaSpecE
namespace Go.Proofs.Ytagembkjmnfidaa
open Go.RowKit
open Go.Proofs.Ml
set_option linter.unusedVariables false

set_option maxRecDepth 100000 in
set_option maxHeartbeats 800000 in
theorem size32 (v : Value) (l : List Chg) (w : World) (hr : Rd w v 4 l.length (chVals l)) (hl : l.length ≤ 1000000) :
    Calls Try.prog 32 #[v] w fun e w' => e = .returned (.tuple #[.int .i64 (szO l), .int .i64 (szN l)]) ∧ Below w.heap.size w w' := by
  obtain ⟨A, cap, rfl, hcap, hcap', hlen, hA⟩ := hr
  clear hlen hcap hcap'
  go_enter Try.func32, Try.ntmps32
  go_wp2_with fail
  go_loopw [4, 5, 6] (fun x y k wr => ∃ (K : Nat) (X Y : Int), K ≤ l.length ∧ k = .int .i64 K ∧ x = .int .i64 X ∧ y = .int .i64 Y ∧ 0 ≤ X ∧ X ≤ 4096 * K ∧ 0 ≤ Y ∧ Y ≤ 4096 * K ∧ Below w.heap.size w wr ∧ X = szO (l.take K) ∧ Y = szN (l.take K))
    (fun _ _ k _ => l.length - (intOf k).toNat)
  case atStart => exact ⟨0, 0, 0, by omega, rfl, rfl, rfl, by omega, by omega, by omega, by omega, Below.refl _ _, by simp [szO], by simp [szN]⟩
  case round =>
    obtain ⟨K, X, Y, hK, rfl, rfl, rfl, hX0, hX1, hY0, hY1, hbel, hX, hY⟩ := hrel
    have hbs := hbel.size
    by_cases hlt : K < l.length
    · obtain ⟨b, off, rfl, hb, hc⟩ := hA (by omega)
      have hbw : b < wr.heap.size := by omega
      obtain ⟨c0, c1, c2, c3⟩ := ch_cells hc hb hbel hlt
      have hX2 := szO_take l K hlt
      have hY2 := szN_take l K hlt
      rw [← hX] at hX2
      rw [← hY] at hY2
      have HX := hide hX2
      have HY := hide hY2
      clear hA hc hX hY hX2 hY2
      generalize l[K] = C at *
      obtain ⟨O, OL, N, NL⟩ := C
      simp only at c0 c1 c2 c3 HX HY
      obtain ⟨r1, r2⟩ := cnt_range OL
      obtain ⟨r3, r4⟩ := cnt_range NL
      rcases Bool.eq_false_or_eq_true (inL OL) with h1 | h1 <;> rcases Bool.eq_false_or_eq_true (inL NL) with h2 | h2
      · have e1 : cnt OL = OL := by simp [cnt, h1]
        have e2 : cnt NL = NL := by simp [cnt, h2]
        rw [e1] at HX r1 r2
        rw [e2] at HY r3 r4
        clear e1 e2
        go_wp2_with (go_at_call 75; refine (in75 _ _).mono ?_; rintro e w' ⟨rfl, rfl⟩)
        go_roundw
        case rel => exact ⟨K + 1, X + OL, Y + NL, by omega, by go_num, by first | rfl | go_num, by first | rfl | go_num, by omega, by omega, by omega, by omega, hbel, HX.out.symm, HY.out.symm⟩
        case measure => simp [intOf]; omega
      · have e1 : cnt OL = OL := by simp [cnt, h1]
        have e2 : cnt NL = 0 := by simp [cnt, h2]
        rw [e1] at HX r1 r2
        rw [e2] at HY r3 r4
        clear e1 e2
        go_wp2_with (go_at_call 75; refine (in75 _ _).mono ?_; rintro e w' ⟨rfl, rfl⟩)
        go_roundw
        case rel => exact ⟨K + 1, X + OL, Y + 0, by omega, by go_num, by first | rfl | go_num, by first | rfl | go_num, by omega, by omega, by omega, by omega, hbel, HX.out.symm, HY.out.symm⟩
        case measure => simp [intOf]; omega
      · have e1 : cnt OL = 0 := by simp [cnt, h1]
        have e2 : cnt NL = NL := by simp [cnt, h2]
        rw [e1] at HX r1 r2
        rw [e2] at HY r3 r4
        clear e1 e2
        go_wp2_with (go_at_call 75; refine (in75 _ _).mono ?_; rintro e w' ⟨rfl, rfl⟩)
        go_roundw
        case rel => exact ⟨K + 1, X + 0, Y + NL, by omega, by go_num, by first | rfl | go_num, by first | rfl | go_num, by omega, by omega, by omega, by omega, hbel, HX.out.symm, HY.out.symm⟩
        case measure => simp [intOf]; omega
      · have e1 : cnt OL = 0 := by simp [cnt, h1]
        have e2 : cnt NL = 0 := by simp [cnt, h2]
        rw [e1] at HX r1 r2
        rw [e2] at HY r3 r4
        clear e1 e2
        go_wp2_with (go_at_call 75; refine (in75 _ _).mono ?_; rintro e w' ⟨rfl, rfl⟩)
        go_roundw
        case rel => exact ⟨K + 1, X + 0, Y + 0, by omega, by go_num, by first | rfl | go_num, by first | rfl | go_num, by omega, by omega, by omega, by omega, hbel, HX.out.symm, HY.out.symm⟩
        case measure => simp [intOf]; omega
    · have HX := hide hX
      have HY := hide hY
      clear hA hX hY
      go_wp2_with fail
      go_ret2
      have HX := HX.out
      have HY := HY.out
      rw [List.take_of_length_le (by omega)] at HX HY
      exact ⟨by rw [← HX, ← HY]; rfl, hbel⟩
end Go.Proofs.Ytagembkjmnfidaa
