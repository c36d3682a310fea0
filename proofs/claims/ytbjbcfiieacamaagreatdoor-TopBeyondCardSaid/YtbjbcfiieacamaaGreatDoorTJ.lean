import Derived.Test.YtbjbcfiieacamaaGreatDoorTL
namespace Go.Proofs.YtbjbcfiieacamaaGreatDoor
open Go.RowKit
set_option linter.unusedVariables false

abbrev rowL : List Value := [.bool false, .int .u32 1, .string ⟨#[97]⟩]
theorem make22_2 (w : World) : (Instr.makeSlice 22 (.int .i64 2) (.int .i64 2)).run Tryz.prog w = .ok (.slice (some ⟨w.heap.size, 0, none⟩) 2 2) (w.alloc (.cells #[.int .i64 0, .int .i64 0] 3)) := by kernel_rfl
/-- A list of two numbers, new. -/
def Two2 (x y : Int) (w : World) (e : Ending) (w' : World) : Prop := ∃ D, e = .returned (.slice (some ⟨D, 0, none⟩) 2 2) ∧ Blk w' D 3 #[.int .i64 x, .int .i64 y] ∧ w.heap.size ≤ D ∧ Below w.heap.size w w'

set_option maxRecDepth 100000 in
set_option maxHeartbeats 400000 in
theorem counts28_0 (A : Option Addr) (c : Nat) (w : World) :
    Calls Tryz.prog 28 #[.slice A 0 c, .int .i64 1] w (Two2 0 0 w) := by
  have hmk := make22_2
  go_enter Tryz.func28, Tryz.ntmps28
  go_wp2_with fail
  refine wp_loop_rounds 1 ?_
  rw [rounds_succ]
  go_wp2_with fail
  go_ret
  exact ⟨_, rfl, Blk.new w 3 _, Nat.le_refl _, (Below.refl _ _).alloc (Nat.le_refl _) _⟩

set_option maxRecDepth 100000 in
set_option maxHeartbeats 800000 in
theorem counts28_1 (A : Option Addr) (c : Nat) (w : World) (hr : Rd w (.slice A 1 c) 3 1 rowL) :
    Calls Tryz.prog 28 #[.slice A 1 c, .int .i64 1] w (Two2 0 1 w) := by
  obtain ⟨b, off, rfl, hb, hc⟩ := hr.at (by omega)
  have r0 : w.cell? ⟨b, off, none⟩ = some (.bool false) := hc 0 _ rfl
  have r1 : w.cell? ⟨b, off + 1, none⟩ = some (.int .u32 1) := hc 1 _ rfl
  have r2 : w.cell? ⟨b, off + 2, none⟩ = some (.string ⟨#[97]⟩) := hc 2 _ rfl
  clear hc hr
  have hmk := make22_2
  go_enter Tryz.func28, Tryz.ntmps28
  go_wp2_with fail
  refine wp_loop_rounds 2 ?_
  rw [rounds_succ]
  go_wp2_with fail
  refine wp_loop_rounds 2 ?_
  rw [rounds_succ]
  go_wp2_with fail
  refine (visible45 _).mono ?_
  rintro e w1 ⟨rfl, hb1⟩
  have HD := hide (((Blk.new w 3 #[.int .i64 0, .int .i64 0]).alloc (.cells #[.bool false, .int .u32 1, .string ⟨#[97]⟩] 79)).below hb1 (by simp; omega))
  have HT := hide ((Blk.new (w.alloc (.cells #[.int .i64 0, .int .i64 0] 3)) 79 #[.bool false, .int .u32 1, .string ⟨#[97]⟩]).below hb1 (by simp))
  have HB := hide ((((Below.refl w.heap.size w).alloc (Nat.le_refl _) (.cells #[.int .i64 0, .int .i64 0] 3)).alloc (by simp) (.cells #[.bool false, .int .u32 1, .string ⟨#[97]⟩] 79)).trans (hb1.mono (by simp; omega)))
  rw [show (w.alloc (.cells #[.int .i64 0, .int .i64 0] 3)).heap.size = w.heap.size + 1 by simp] at HT
  obtain ⟨T, hT⟩ : ∃ T, T = w.heap.size + 1 := ⟨_, rfl⟩
  obtain ⟨D, hD⟩ : ∃ D, D = w.heap.size := ⟨_, rfl⟩
  rw [← hT] at HT ⊢
  rw [← hD] at HD ⊢
  have hwD : w.heap.size ≤ D := by omega
  have t0 : w1.cell? ⟨T, 0, none⟩ = some (.bool false) := HT.out.cell 0
  have d1 : w1.cell? ⟨D, 1, none⟩ = some (.int .i64 0) := HD.out.cell 1
  have f1 := HD.out.frozen 1
  clear hb1 hT hD r0 r1 r2 hmk
  go_wp2_with fail
  rw [rounds_succ]
  go_wp2_with fail
  rw [rounds_succ]
  go_wp2_with fail
  go_ret
  exact ⟨D, rfl, HD.out.set_ 1 _, hwD, HB.out.setCell (p := ⟨D, 1, none⟩) hwD _⟩

set_option maxRecDepth 100000 in
set_option maxHeartbeats 800000 in
theorem check25 (A : Option Addr) (c : Nat) (w : World) (hr : Rd w (.slice A 1 c) 3 1 rowL) :
    Calls Tryz.prog 25 #[.agg #[.int .i64 1, .slice A 1 c]] w fun e w' => e = .returned (.int .i64 0) ∧ Below w.heap.size w w' := by
  have HR := hide hr
  obtain ⟨b, off, rfl, hb, hc⟩ := hr.at (by omega)
  have r0 : w.cell? ⟨b, off, none⟩ = some (.bool false) := hc 0 _ rfl
  have r1 : w.cell? ⟨b, off + 1, none⟩ = some (.int .u32 1) := hc 1 _ rfl
  have r2 : w.cell? ⟨b, off + 2, none⟩ = some (.string ⟨#[97]⟩) := hc 2 _ rfl
  clear hc hr
  go_enter Tryz.func25, Tryz.ntmps25
  go_wp2_with fail
  refine wp_loop_rounds 2 ?_
  rw [rounds_succ]
  go_wp2_with fail
  refine (marked42 _).mono ?_
  rintro e w1 ⟨rfl, hb1⟩
  have HT := hide (((Blk.new w 37 #[.int .i64 1, .slice (some ⟨b, off, none⟩) 1 c]).alloc (.cells #[.bool false, .int .u32 1, .string ⟨#[97]⟩] 79)).below hb1 (by simp; omega))
  have HB := hide ((((Below.refl w.heap.size w).alloc (Nat.le_refl _) (.cells #[.int .i64 1, .slice (some ⟨b, off, none⟩) 1 c] 37)).alloc (by simp) (.cells #[.bool false, .int .u32 1, .string ⟨#[97]⟩] 79)).trans (hb1.mono (by simp; omega)))
  have q0 := (HB.out.cell (p := ⟨b, off, none⟩) hb).trans r0
  have q1 := (HB.out.cell (p := ⟨b, off + 1, none⟩) hb).trans r1
  have q2 := (HB.out.cell (p := ⟨b, off + 2, none⟩) hb).trans r2
  have t1 : w1.cell? ⟨w.heap.size, 1, none⟩ = some (.slice (some ⟨b, off, none⟩) 1 c) := HT.out.cell 1
  have lt := HT.out.lt
  have lb : b < w1.heap.size := by have := HB.out.size; omega
  have lb1 : b < w1.heap.size + 1 := by omega
  clear hb1 r0 r1 r2
  go_wp2_with fail
  rw [rounds_succ]
  go_wp2_with fail
  refine wp_loop_rounds 2 ?_
  rw [rounds_succ]
  go_wp2_with fail
  refine (single43 _).mono ?_
  rintro e w2 ⟨rfl, hb2⟩
  have HE := hide (((Blk.new w1 104 #[.bool false, .int .u32 0]).alloc (.cells #[.bool false, .int .u32 1, .string ⟨#[97]⟩] 79)).below hb2 (by simp; omega))
  have HZ := hide ((Blk.new (w1.alloc (.cells #[.bool false, .int .u32 0] 104)) 79 #[.bool false, .int .u32 1, .string ⟨#[97]⟩]).below hb2 (by simp))
  rw [show (w1.alloc (.cells #[.bool false, .int .u32 0] 104)).heap.size = w1.heap.size + 1 by simp] at HZ
  have z0 : w2.cell? ⟨w1.heap.size + 1, 0, none⟩ = some (.bool false) := HZ.out.cell 0
  have z1 : w2.cell? ⟨w1.heap.size + 1, 1, none⟩ = some (.int .u32 1) := HZ.out.cell 1
  have z2 : w2.cell? ⟨w1.heap.size + 1, 2, none⟩ = some (.string ⟨#[97]⟩) := HZ.out.cell 2
  have zw1 := HB.out.size
  have HB2 := hide ((HB.out.trans (((Below.refl w1.heap.size w1).alloc (Nat.le_refl _) (.cells #[.bool false, .int .u32 0] 104)).mono zw1)).trans ((((Below.refl _ _).alloc (Nat.le_refl _) (.cells #[.bool false, .int .u32 1, .string ⟨#[97]⟩] 79)).trans (hb2.mono (by simp))).mono (by simp; omega)))
  clear hb2
  go_wp2_with fail
  refine (add44 _ _ HE.out).mono ?_
  rintro e w3 ⟨rfl, hb3⟩
  have HB3 := hide (HB2.out.trans (hb3 w.heap.size zw1 HB2.out.size))
  clear hb3
  go_wp2_with fail
  rw [rounds_succ]
  go_wp2_with fail
  go_ret
  exact ⟨rfl, HB3.out⟩

set_option maxRecDepth 100000 in
set_option maxHeartbeats 400000 in
theorem ordered26 (A : Option Addr) (c : Nat) (w : World) (hr : Rd w (.slice A 1 c) 2 1 [.int .i64 0, .int .i64 1]) :
    Calls Tryz.prog 26 #[.slice A 1 c, .int .i64 1] w fun e w' => e = .returned (.bool true) ∧ Below w.heap.size w w' := by
  obtain ⟨b, off, rfl, hb, hc⟩ := hr.at (by omega)
  have r0 : w.cell? ⟨b, off, none⟩ = some (.int .i64 0) := hc 0 _ rfl
  have r1 : w.cell? ⟨b, off + 1, none⟩ = some (.int .i64 1) := hc 1 _ rfl
  clear hc hr
  go_enter Tryz.func26, Tryz.ntmps26
  go_wp2_with fail
  refine wp_loop_rounds 2 ?_
  rw [rounds_succ]
  go_wp2_with fail
  rw [rounds_succ]
  go_wp2_with fail
  go_ret
  exact ⟨rfl, (Below.refl _ _).alloc (Nat.le_refl _) _⟩
end Go.Proofs.YtbjbcfiieacamaaGreatDoor
