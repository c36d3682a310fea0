import Derived.Test.YtbjbcfiieacamaaGreatDoorUC
namespace Go.Proofs.YtbjbcfiieacamaaGreatDoor
open Go.RowKit
set_option linter.unusedVariables false

set_option maxRecDepth 100000 in
set_option maxHeartbeats 400000 in
theorem blob10 (v : Value) (zs : List Int) (k n m : Int) (w : World) (hr : Rd w v 1 zs.length (inVals zs)) (hz : zs.length ≤ 9223372036854775807) (h0 : 0 ≤ k) (h2 : k ≤ 10000) (n0 : 0 ≤ n) (n1 : n ≤ 100) (m0 : 1 ≤ m) (m1 : m ≤ 100) :
    Calls Tryz.prog 10 #[v, .int .i64 k, .int .i64 n, .int .i64 m] w fun e w' => ∃ s : ByteArray, s.size ≤ 400 ∧ e = .returned (.string s) ∧ Below w.heap.size w w' := by
  have HR := hide hr
  clear hr
  have e1 : IntKind.i64.wrap (n + 1) = n + 1 := IntWalk.i64_in _ ⟨by omega, by omega⟩
  have e2 : IntKind.i64.wrap (k + 1) = k + 1 := IntWalk.i64_in _ ⟨by omega, by omega⟩
  have e3 : IntKind.i64.wrap (k + 90) = k + 90 := IntWalk.i64_in _ ⟨by omega, by omega⟩
  go_enter Tryz.func10, Tryz.ntmps10
  go_wp2_with fail
  refine (at11 v zs k w HR.out hz h0 (by omega)).mono ?_
  rintro e w' ⟨y, hy0, hy1, rfl, rfl⟩
  go_wp2_with fail
  refine (mod5 y (n + 1) w (by omega) (by omega)).mono ?_
  rintro e w' ⟨x, hx0, hx1, rfl, rfl⟩
  go_wp2_with fail
  go_loopw [9, 10] (fun t i wr => ∃ (s : ByteArray) (I : Int), t = .string s ∧ i = .int .i64 I ∧ 0 ≤ I ∧ I ≤ x ∧ s.size ≤ 4 * I.toNat ∧ Below w.heap.size w wr)
    (fun _ i _ => (x - intOf i).toNat)
  case atStart => exact ⟨⟨#[]⟩, 0, rfl, rfl, by omega, by omega, by decide, Below.refl _ _⟩
  case round =>
    obtain ⟨s, I, rfl, rfl, hI0, hI1, hs, hbel⟩ := hrel
    by_cases hlt : I < x
    · have e4 : IntKind.i64.wrap (k + 1 + I) = k + 1 + I := IntWalk.i64_in _ ⟨by omega, by omega⟩
      have e5 : IntKind.i64.wrap (I + 1) = I + 1 := IntWalk.i64_in _ ⟨by omega, by omega⟩
      go_wp2_with fail
      refine (at11 _ zs _ _ (HR.out.below hbel (Nat.le_refl _)) hz (by omega) (by omega)).mono ?_
      rintro e w' ⟨z, hz0, hz1, rfl, rfl⟩
      go_wp2_with fail
      refine (mod5 z m _ (by omega) (by omega)).mono ?_
      rintro e w' ⟨x2, hy0', hy1', rfl, rfl⟩
      go_wp2_with fail
      refine (line23 _ _).mono ?_
      rintro e w3 ⟨l, hl, rfl, hb3⟩
      go_wp2_with fail
      refine ⟨⟨s ++ l ++ ⟨#[10]⟩, I + 1, rfl, rfl, by omega, by omega, ?_, hbel.trans (hb3.mono hbel.size)⟩, by simp [intOf]; omega⟩
      have : (⟨#[10]⟩ : ByteArray).size = 1 := rfl
      rw [ByteArray.size_append, ByteArray.size_append]
      omega
    · go_wp2_with fail
      refine (at11 _ zs _ _ (HR.out.below hbel (Nat.le_refl _)) hz (by omega) (by omega)).mono ?_
      rintro e w' ⟨q, hq0, hq1, rfl, rfl⟩
      have e6 : IntKind.i64.wrap (q.tmod 4) = q.tmod 4 := IntWalk.i64_in _ ⟨by have := Int.tmod_nonneg 4 hq0; omega, by have := Int.tmod_lt_of_pos q (show (0 : Int) < 4 by omega); omega⟩
      have hss : s.size ≤ 400 := by omega
      have e7 : IntKind.i64.wrap ((s.size : Int) - 2) = (s.size : Int) - 2 := IntWalk.i64_in _ ⟨by omega, by omega⟩
      have e8 : IntKind.i64.wrap ((s.size : Int) - 1) = (s.size : Int) - 1 := IntWalk.i64_in _ ⟨by omega, by omega⟩
      have hxt : (s.extract 0 (s.size - 1)).size ≤ 400 := by rw [ByteArray.size_extract]; omega
      by_cases hl : 1 < (s.size : Int)
      · have hl' : decide (1 < (s.size : Int)) = true := decide_eq_true hl
        go_wp2_with fail
        all_goals
          go_ret
          first
          | exact ⟨s, hss, rfl, hbel⟩
          | exact ⟨_, hxt, rfl, hbel⟩
      · have hl' : decide (1 < (s.size : Int)) = false := decide_eq_false hl
        go_wp2_with fail
        all_goals
          go_ret
          exact ⟨s, hss, rfl, hbel⟩
end Go.Proofs.YtbjbcfiieacamaaGreatDoor
