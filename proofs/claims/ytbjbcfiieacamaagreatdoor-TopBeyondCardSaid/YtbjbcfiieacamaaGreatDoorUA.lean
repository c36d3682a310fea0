import Derived.Test.YtbjbcfiieacamaaGreatDoorTZ
namespace Go.Proofs.YtbjbcfiieacamaaGreatDoor
open Go.RowKit
set_option linter.unusedVariables false

set_option maxRecDepth 100000 in
set_option maxHeartbeats 400000 in
theorem make8_none (r : ByteArray) (w : World) :
    Calls Tryz.prog 8 #[.string r, .slice none 0 0] w fun e w' => e = .returned (.tuple #[.agg #[.int .i64 0, .slice none 0 0], .int .i64 2]) ∧ Below w.heap.size w w' := by
  go_enter Tryz.func8, Tryz.ntmps8
  go_wp2_with fail
  have n0 := (Blk.new w 37 #[.int .i64 0, .slice none 0 0]).cell 0
  have n1 := (Blk.new w 37 #[.int .i64 0, .slice none 0 0]).cell 1
  refine bodyPost_ret (v := .tuple #[.agg #[.int .i64 0, .slice none 0 0], .int .i64 2]) (by simp [results, Tryz.results8, go_sem]) rfl ⟨rfl, (Below.refl _ _).alloc (Nat.le_refl _) _⟩

set_option maxRecDepth 100000 in
set_option maxHeartbeats 800000 in
theorem make7_bad1 (r : ByteArray) (A : Option Addr) (n c : Nat) (m : Int) (u : Bool) (w : World) (h8 : ∀ x, Below w.heap.size w x → Calls Tryz.prog 8 #[.string r, .slice A n c] x fun e x' => e = .returned (.tuple #[.agg #[.int .i64 0, .slice none 0 0], .int .i64 1]) ∧ Below x.heap.size x x') :
    Calls Tryz.prog 7 #[.string ⟨#[120]⟩, .string r, .slice A n c, .int .i64 m, .bool u] w fun e w' => e = .returned (.tuple #[.agg #[.string ⟨#[]⟩, .bool false, .int .i64 0, .slice none 0 0], .int .i64 1]) ∧ Below w.heap.size w w' := by
  have H8 := hide h8
  clear h8
  go_enter Tryz.func7, Tryz.ntmps7
  go_wp2_with fail
  refine (named13 _).mono ?_
  rintro e w' ⟨rfl, rfl⟩
  go_wp2_with fail
  refine (H8.out _ ((Below.refl _ _).alloc (Nat.le_refl _) _)).mono ?_
  rintro e w1 ⟨rfl, hb1⟩
  have HO := hide ((Blk.new w 30 #[.string ⟨#[]⟩, .bool false, .int .i64 0, .slice none 0 0]).below hb1 (by simp))
  have HB := hide (((Below.refl w.heap.size w).alloc (Nat.le_refl _) (.cells #[.string ⟨#[]⟩, .bool false, .int .i64 0, .slice none 0 0] 30)).trans (hb1.mono (by simp)))
  obtain ⟨O, hO⟩ : ∃ O, O = w.heap.size := ⟨_, rfl⟩
  rw [← hO] at HO ⊢
  have hwO : w.heap.size ≤ O := by omega
  have lO := HO.out.lt
  have lO1 : O < w1.heap.size + 1 := by omega
  have z0 : w1.cell? ⟨O, 0, none⟩ = some (.string ⟨#[]⟩) := HO.out.cell 0
  have z1 : w1.cell? ⟨O, 1, none⟩ = some (.bool false) := HO.out.cell 1
  have z2 : w1.cell? ⟨O, 2, none⟩ = some (.int .i64 0) := HO.out.cell 2
  have z3 : w1.cell? ⟨O, 3, none⟩ = some (.slice none 0 0) := HO.out.cell 3
  have of0 := HO.out.frozen 0
  have of1 := HO.out.frozen 1
  have of2 := HO.out.frozen 2
  have of3 := HO.out.frozen 3
  clear hO hb1
  go_wp2_with fail
  obtain ⟨wF, hF⟩ : ∃ wF, wF = ((((w1.setCell ⟨O, 0, none⟩ (.string ⟨#[]⟩)).setCell ⟨O, 1, none⟩ (.bool false)).setCell ⟨O, 2, none⟩ (.int .i64 0)).setCell ⟨O, 3, none⟩ (.slice none 0 0)).alloc (.cells #[.int .i64 0, .slice none 0 0] 37) := ⟨_, rfl⟩
  rw [← hF]
  have HOF : Blk wF O 30 #[.string ⟨#[]⟩, .bool false, .int .i64 0, .slice none 0 0] := by rw [hF]; exact ((((HO.out.set_ 0 _).set_ 1 _).set_ 2 _).set_ 3 _).alloc _
  have BF : Below w.heap.size w wF := by
    rw [hF]; exact ((((HB.out.setCell (p := ⟨O, 0, none⟩) hwO _).setCell (p := ⟨O, 1, none⟩) hwO _).setCell (p := ⟨O, 2, none⟩) hwO _).setCell (p := ⟨O, 3, none⟩) hwO _).alloc (by simpa [World.setCell] using HB.out.size) _
  have n0 : wF.cell? ⟨O, 0, none⟩ = some (.string ⟨#[]⟩) := HOF.cell 0
  have n1 : wF.cell? ⟨O, 1, none⟩ = some (.bool false) := HOF.cell 1
  have n2 : wF.cell? ⟨O, 2, none⟩ = some (.int .i64 0) := HOF.cell 2
  have n3 : wF.cell? ⟨O, 3, none⟩ = some (.slice none 0 0) := HOF.cell 3
  clear hF
  refine bodyPost_ret (v := .tuple #[.agg #[.string ⟨#[]⟩, .bool false, .int .i64 0, .slice none 0 0], .int .i64 1]) (by simp [results, Tryz.results7, go_sem, n0, n1, n2, n3]) rfl ⟨rfl, BF⟩
end Go.Proofs.YtbjbcfiieacamaaGreatDoor
