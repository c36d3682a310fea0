import Derived.Test.YtbjbcfiieacamaaGreatDoorTB
namespace Go.Proofs.YtbjbcfiieacamaaGreatDoor
open Go.RowKit
set_option linter.unusedVariables false

abbrev nl : ByteArray := ⟨#[10]⟩
theorem suffix70 (s : ByteArray) (w : World) (hs : s.size ≤ 9223372036854775807) : Calls Tryz.prog 70 #[.string s, .string ⟨#[10]⟩] w fun e w' => e = .returned (.bool (Lib.hasSuffix s.data.toList [10])) ∧ w = w' :=
  (Tryz.strings_HasSuffix s nl w hs).mono fun _ _ ⟨a, b⟩ => ⟨a, b.symm⟩
theorem count51 (s : ByteArray) (w : World) : Calls Tryz.prog 51 #[.string s, .string ⟨#[10]⟩] w fun e w' => e = .returned (.int .i64 (Lib.countByte s.data.toList 10)) ∧ w = w' :=
  (Tryz.strings_Count_one s 10 w).mono fun _ _ ⟨a, b⟩ => ⟨a, b.symm⟩
theorem bare81 (s : ByteArray) (w : World) (hs : s.size ≤ 9223372036854775807) : Calls Tryz.prog 81 #[.string s, .string ⟨#[10]⟩] w fun e w' => e = .returned (.string ⟨(Lib.trimSuffix s.data.toList [10]).toArray⟩) ∧ w = w' :=
  (Tryz.strings_TrimSuffix s nl w hs).mono fun _ _ ⟨a, b⟩ => ⟨a, b.symm⟩
theorem contains60 (s : ByteArray) (w : World) : Calls Tryz.prog 60 #[.string s, .string ⟨#[10]⟩] w fun e w' => e = .returned (.bool (decide (0 ≤ Lib.indexByte s.data.toList 10))) ∧ w = w' :=
  (Tryz.strings_Contains_one s 10 w).mono fun _ _ ⟨a, b⟩ => ⟨a, b.symm⟩

set_option maxRecDepth 100000 in
set_option maxHeartbeats 400000 in
theorem ended52 (s : ByteArray) (w : World) (hs : s.size ≤ 9223372036854775807) :
    Calls Tryz.prog 52 #[.string s] w fun e w' => e = .returned (.bool (Lib.hasSuffix s.data.toList [10])) ∧ w = w' := by
  go_enter Tryz.func52, Tryz.ntmps52
  go_wp2_with fail
  refine (suffix70 _ _ hs).mono ?_
  rintro e w' ⟨rfl, rfl⟩
  go_wp2_with fail
  go_ret
  exact ⟨rfl, rfl⟩

set_option maxRecDepth 100000 in
set_option maxHeartbeats 400000 in
theorem bare61 (s : ByteArray) (w : World) (hs : s.size ≤ 9223372036854775807) :
    Calls Tryz.prog 61 #[.string s] w fun e w' => e = .returned (.string ⟨(Lib.trimSuffix s.data.toList [10]).toArray⟩) ∧ w = w' := by
  go_enter Tryz.func61, Tryz.ntmps61
  go_wp2_with fail
  refine (bare81 _ _ hs).mono ?_
  rintro e w' ⟨rfl, rfl⟩
  go_wp2_with fail
  go_ret
  exact ⟨rfl, rfl⟩

set_option maxRecDepth 100000 in
set_option maxHeartbeats 400000 in
theorem len72 (n : Int) (w : World) (h0 : 0 ≤ n) (h1 : n ≤ 4096) :
    Calls Tryz.prog 72 #[.int .i64 n] w fun e w' => e = .returned (.bool true) ∧ w = w' := by
  go_enter Tryz.func72, Tryz.ntmps72
  go_wp2_with fail
  go_ret
  exact ⟨rfl, rfl⟩

set_option maxRecDepth 100000 in
set_option maxHeartbeats 400000 in
theorem mod5 (a n : Int) (w : World) (h1 : 1 ≤ n) (h2 : n ≤ 100000) :
    Calls Tryz.prog 5 #[.int .i64 a, .int .i64 n] w fun e w' => ∃ x : Int, 0 ≤ x ∧ x < n ∧ e = .returned (.int .i64 x) ∧ w = w' := by
  have key : 0 ≤ wrap64 ((IntKind.u64.wrap a).tmod n) ∧ wrap64 ((IntKind.u64.wrap a).tmod n) < n := by
    have h0 : 0 ≤ IntKind.u64.wrap a := by rw [IntKind.wrap_u64]; omega
    have h3 := Int.tmod_nonneg n h0
    have h4 := Int.tmod_lt_of_pos (IntKind.u64.wrap a) (show 0 < n by omega)
    rw [IntWalk.wrap64_in _ ⟨by omega, by omega⟩]
    exact ⟨h3, h4⟩
  have K := hide key
  clear key
  go_enter Tryz.func5, Tryz.ntmps5
  go_wp2
  go_ret
  exact ⟨_, K.out.1, K.out.2, rfl, rfl⟩

set_option maxRecDepth 100000 in
set_option maxHeartbeats 400000 in
theorem named13 (w : World) :
    Calls Tryz.prog 13 #[.string ⟨#[120]⟩] w fun e w' => e = .returned (.bool true) ∧ w = w' := by
  go_enter Tryz.func13, Tryz.ntmps13
  go_wp2_with fail
  go_ret
  exact ⟨rfl, rfl⟩


/-- The row of the example: a line of the result that the parent lacks. -/
abbrev rowA : Value := .agg #[.bool false, .int .u32 1, .string ⟨#[97]⟩]

set_option maxRecDepth 100000 in
set_option maxHeartbeats 400000 in
theorem marked42 (w : World) :
    Calls Tryz.prog 42 #[rowA, .int .i64 1] w fun e w' => e = .returned (.bool true) ∧ Below w.heap.size w w' := by
  go_enter Tryz.func42, Tryz.ntmps42
  go_wp2_with fail
  go_ret
  exact ⟨rfl, (Below.refl _ _).alloc (Nat.le_refl _) _⟩

set_option maxRecDepth 100000 in
set_option maxHeartbeats 400000 in
theorem single43 (w : World) :
    Calls Tryz.prog 43 #[rowA] w fun e w' => e = .returned (.bool true) ∧ Below w.heap.size w w' := by
  go_enter Tryz.func43, Tryz.ntmps43
  go_wp2_with fail
  refine (bare61 _ _ (by decide)).mono ?_
  rintro e w' ⟨rfl, rfl⟩
  go_wp2_with fail
  refine (contains60 _ _).mono ?_
  rintro e w' ⟨rfl, rfl⟩
  rw [show decide (0 ≤ Lib.indexByte (Lib.trimSuffix [97] [10]).toArray.toList 10) = false by decide]
  go_wp2_with fail
  go_ret
  exact ⟨rfl, (Below.refl _ _).alloc (Nat.le_refl _) _⟩

set_option maxRecDepth 100000 in
set_option maxHeartbeats 400000 in
theorem visible45 (w : World) :
    Calls Tryz.prog 45 #[rowA, .int .i64 0] w fun e w' => e = .returned (.bool false) ∧ Below w.heap.size w w' := by
  go_enter Tryz.func45, Tryz.ntmps45
  go_wp2_with fail
  go_quiet (fail)
  go_wp2_with fail
  go_ret
  exact ⟨rfl, below_drewN ((Below.refl _ _).alloc (Nat.le_refl _) _) _⟩

set_option maxRecDepth 100000 in
set_option maxHeartbeats 400000 in
theorem visible45r (w : World) :
    Calls Tryz.prog 45 #[rowA, .int .i64 (-1)] w fun e w' => e = .returned (.bool true) ∧ Below w.heap.size w w' := by
  go_enter Tryz.func45, Tryz.ntmps45
  go_wp2_with fail
  go_ret
  exact ⟨rfl, (Below.refl _ _).alloc (Nat.le_refl _) _⟩

set_option maxRecDepth 100000 in
set_option maxHeartbeats 400000 in
theorem add44 (w : World) (g : Nat) (hg : Blk w g 104 #[.bool false, .int .u32 0]) :
    Calls Tryz.prog 44 #[.pointer (some ⟨g, 0, none⟩), rowA] w fun e w' => e = .returned (.bool true) ∧ ∀ B, B ≤ g → B ≤ w.heap.size → Below B w w' := by
  have g0 : w.cell? ⟨g, 0, none⟩ = some (.bool false) := hg.cell 0
  have g1 : w.cell? ⟨g, 1, none⟩ = some (.int .u32 0) := hg.cell 1
  have f0 := hg.frozen 0
  have f1 := hg.frozen 1
  have gl := hg.lt
  have b1 : bits BinOp.and IntKind.u32 0 (bits BinOp.xor IntKind.u32 IntKind.u32.max 1) = 0 := by decide
  have b2 : (!Lib.hasSuffix [97] [10]) = true := by decide
  go_enter Tryz.func44, Tryz.ntmps44
  go_wp2_with fail
  refine (ended52 _ _ (by decide)).mono ?_
  rintro e w' ⟨rfl, rfl⟩
  go_wp2_with fail
  go_ret
  exact ⟨rfl, fun B hB hw => ((((Below.refl B w).setCell hB _).setCell hB _).alloc (by simpa using hw) _)⟩
end Go.Proofs.YtbjbcfiieacamaaGreatDoor
