import Derived.Test.YtbjbcfiieacamaaGreatDoorUF
namespace Go.Proofs.YtbjbcfiieacamaaGreatDoor
open Go.RowKit
set_option linter.unusedVariables false

set_option maxRecDepth 100000 in
set_option maxHeartbeats 400000 in
theorem blobs4 (v : Value) (zs : List Int) (w : World) (hr : Rd w v 1 zs.length (inVals zs)) (hz : zs.length ≤ 9223372036854775807) :
    Calls Tryz.prog 4 #[v, .int .i64 3, .int .i64 4] w fun e w' => ∃ (u : Value) (xs : List ByteArray), e = .returned u ∧ xs.length = 3 ∧ (∀ x ∈ xs, x.size ≤ 2000) ∧ Rd w' u 1 xs.length (xs.map .string) ∧ Below w.heap.size w w' := by
  have HR := hide hr
  clear hr
  go_enter Tryz.func4, Tryz.ntmps4
  go_wp2_with fail
  refine (blob10 v zs 0 4 5 w HR.out hz (by decide) (by decide) (by decide) (by decide) (by decide) (by decide)).mono ?_
  rintro e w1 ⟨s, hs, rfl, hb1⟩
  have HR1 := hide (HR.out.below hb1 (Nat.le_refl _))
  have HB1 := hide hb1
  clear hb1
  go_wp2_with fail
  go_loopw [8, 9] (fun o i wr => ∃ (xs : List ByteArray) (I : Int), i = .int .i64 I ∧ 0 ≤ I ∧ I ≤ 3 ∧ (xs.length : Int) = I ∧ (∀ x ∈ xs, x.size ≤ 2000) ∧ wr.ownsRow w.heap.size 9 1 o xs.length (xs.map .string) ∧ Below w.heap.size w wr)
    (fun _ i _ => (3 - intOf i).toNat)
  case atStart => exact ⟨[], 0, rfl, by omega, by omega, rfl, by simp, ⟨rfl, .inr ⟨w1.heap.size, 0, #[], rfl, HB1.out.size, Blk.new w1 9 #[], Nat.le_refl _, by simp, rfl, rfl⟩⟩, HB1.out.alloc HB1.out.size _⟩
  case round =>
    obtain ⟨xs, I, rfl, hI0, hI1, hxl, hxs, hown, hbel⟩ := hrel
    have hbs := hbel.size
    have HX := hide hxs
    clear hxs
    by_cases hlt : I < 3
    · have e5 : IntKind.i64.wrap (I + 1) = I + 1 := IntWalk.i64_in _ ⟨by omega, by omega⟩
      have e6 : IntKind.i64.wrap (500 + I) = 500 + I := IntWalk.i64_in _ ⟨by omega, by omega⟩
      have e7 : IntKind.i64.wrap (50 * I) = 50 * I := IntWalk.i64_in _ ⟨by omega, by omega⟩
      have e8 : IntKind.i64.wrap (600 + 50 * I) = 600 + 50 * I := IntWalk.i64_in _ ⟨by omega, by omega⟩
      go_wp2_with fail
      refine (at11 _ zs _ _ (HR.out.below hbel (Nat.le_refl _)) hz (by omega) (by omega)).mono ?_
      rintro e w' ⟨z, hz0, hz1, rfl, rfl⟩
      go_wp2_with (at_builtin; go_must (refine wp_app1 rfl (.tmp 46) (.tmp 48) 24 9 1 16 _ rfl Tryz.underlying24 info9 rfl (by omega) (by omega) wr _ w.heap.size xs.length _ (xs.map .string) rfl _ _ rfl rfl hown hown (Nat.le_refl _) rfl rfl (by omega) hbs ?_); intro v1 w9 hown1 hb9 hold hsz1; clear hold)
      · refine (blob10 v zs _ 4 4 _ (HR.out.below hbel (Nat.le_refl _)) hz (by omega) (by omega) (by decide) (by decide) (by decide) (by decide)).mono ?_
        rintro e w3 ⟨y, hy, rfl, hb3⟩
        have hown3 := own_below hown hb3 (Nat.le_refl _)
        have hbs3 := Nat.le_trans hbs hb3.size
        go_wp2_with (at_builtin; go_must (refine wp_app1 rfl (.tmp 35) (.tmp 42) 24 9 1 16 _ rfl Tryz.underlying24 info9 rfl (by omega) (by omega) w3 _ w.heap.size xs.length _ (xs.map .string) rfl _ _ rfl rfl hown3 hown3 (Nat.le_refl _) rfl rfl (by omega) hbs3 ?_); intro v1 w9 hown1 hb9 hold hsz1; clear hold)
        refine ⟨⟨xs ++ [y], I + 1, rfl, by omega, by omega, by simp; omega, fun x hx => ?_, ?_, (hbel.trans (hb3.mono hbs)).trans hb9⟩, by simp [intOf]; omega⟩
        · rcases List.mem_append.1 hx with h | h
          · exact HX.out x h
          · rw [List.mem_singleton.1 h]; omega
        · rw [List.length_append, List.map_append]
          exact hown1
      · refine ⟨⟨xs ++ [s], I + 1, rfl, by omega, by omega, by simp; omega, fun x hx => ?_, ?_, hbel.trans hb9⟩, by simp [intOf]; omega⟩
        · rcases List.mem_append.1 hx with h | h
          · exact HX.out x h
          · rw [List.mem_singleton.1 h]; omega
        · rw [List.length_append, List.map_append]
          exact hown1
      · refine (near12 s v zs _ _ hs (HR.out.below hbel (Nat.le_refl _)) hz (by omega) (by omega)).mono ?_
        rintro e w3 ⟨y, hy, rfl, hb3⟩
        have hown3 := own_below hown hb3 (Nat.le_refl _)
        have hbs3 := Nat.le_trans hbs hb3.size
        go_wp2_with (at_builtin; go_must (refine wp_app1 rfl (.tmp 24) (.tmp 31) 24 9 1 16 _ rfl Tryz.underlying24 info9 rfl (by omega) (by omega) w3 _ w.heap.size xs.length _ (xs.map .string) rfl _ _ rfl rfl hown3 hown3 (Nat.le_refl _) rfl rfl (by omega) hbs3 ?_); intro v1 w9 hown1 hb9 hold hsz1; clear hold)
        refine ⟨⟨xs ++ [y], I + 1, rfl, by omega, by omega, by simp; omega, fun x hx => ?_, ?_, (hbel.trans (hb3.mono hbs)).trans hb9⟩, by simp [intOf]; omega⟩
        · rcases List.mem_append.1 hx with h | h
          · exact HX.out x h
          · rw [List.mem_singleton.1 h]; omega
        · rw [List.length_append, List.map_append]
          exact hown1
    · go_wp2_with fail
      go_ret
      exact ⟨_, rfl, xs, by omega, HX.out, Rd.of_own hown, hbel⟩
end Go.Proofs.YtbjbcfiieacamaaGreatDoor
