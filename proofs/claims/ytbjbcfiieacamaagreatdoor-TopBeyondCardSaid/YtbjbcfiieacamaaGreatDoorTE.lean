import Derived.Test.YtbjbcfiieacamaaGreatDoorTD
namespace Go.Proofs.YtbjbcfiieacamaaGreatDoor
open Go.RowKit
set_option linter.unusedVariables false

def OneRet2 (w : World) (e : Ending) (w' : World) : Prop := ∃ A c, e = .returned (.tuple #[.slice A 1 c, .int .i64 0]) ∧ Rd w' (.slice A 1 c) 4 1 [.int .i64 0, .int .i64 0, .int .i64 0, .int .i64 1] ∧ Below w.heap.size w w'
def NilRet2 (w : World) (e : Ending) (w' : World) : Prop := e = .returned (.tuple #[.slice none 0 0, .int .i64 0]) ∧ Below w.heap.size w w'

set_option maxRecDepth 100000 in
set_option maxHeartbeats 400000 in
theorem from56_0 (w : World) :
    Calls Tryz.prog 56 #[.slice none 0 0, .int .i64 0, .int .i64 0] w (NilRet2 w) := by
  go_enter Tryz.func56, Tryz.ntmps56
  go_wp2_with (go_at_call 72; refine (len72 _ _ (by omega) (by omega)).mono ?_; rintro e w' ⟨rfl, rfl⟩)
  refine wp_loop_rounds 1 ?_
  rw [rounds_succ]
  go_wp2_with fail
  refine (from73_0 _).mono ?_
  rintro e w1 ⟨rfl, hb⟩
  have HB := hide (((Below.refl w.heap.size w).alloc (Nat.le_refl _) (.cells #[.int .i64 (-1), .int .i64 (-1)] 49)).trans (hb.mono (by simp)))
  clear hb
  skip
  go_wp2_with fail
  go_returns
  exact ⟨rfl, HB.out⟩

set_option maxRecDepth 100000 in
set_option maxHeartbeats 400000 in
theorem script38_0 (w : World) :
    Calls Tryz.prog 38 #[.slice none 0 0, (.slice none 0 0)] w (NilRet2 w) := by
  go_enter Tryz.func38, Tryz.ntmps38
  go_wp2_with fail
  refine (limited55 _ _ _ _ (by omega)).mono ?_
  rintro e w' ⟨rfl, rfl⟩
  go_wp2_with fail
  refine (walk57_0 _).mono ?_
  rintro e w1 ⟨rfl, hb1⟩
  have HB1 := hide hb1
  clear hb1
  go_wp2_with fail
  refine (from56_0 _).mono ?_
  rintro e w2 ⟨rfl, hb⟩
  have HB := hide (HB1.out.trans (hb.mono HB1.out.size))
  clear hb
  skip
  go_wp2_with fail
  go_returns
  exact ⟨rfl, HB.out⟩

set_option maxRecDepth 100000 in
set_option maxHeartbeats 400000 in
theorem from56_1 (w : World) :
    Calls Tryz.prog 56 #[.slice none 0 0, .int .i64 0, .int .i64 1] w (OneRet2 w) := by
  go_enter Tryz.func56, Tryz.ntmps56
  go_wp2_with (go_at_call 72; refine (len72 _ _ (by omega) (by omega)).mono ?_; rintro e w' ⟨rfl, rfl⟩)
  refine wp_loop_rounds 1 ?_
  rw [rounds_succ]
  go_wp2_with fail
  refine (from73_1 _).mono ?_
  rintro e w1 ⟨A, c, rfl, hr, hb⟩
  have HB := hide (((Below.refl w.heap.size w).alloc (Nat.le_refl _) (.cells #[.int .i64 (-1), .int .i64 (-1)] 49)).trans (hb.mono (by simp)))
  clear hb
  have HR := hide hr; clear hr
  go_wp2_with fail
  go_returns
  exact ⟨A, c, rfl, HR.out, HB.out⟩

set_option maxRecDepth 100000 in
set_option maxHeartbeats 400000 in
theorem script38_1 (bb oo c0 : Nat) (h1 : 1 ≤ c0) (w : World) :
    Calls Tryz.prog 38 #[.slice none 0 0, (.slice (some ⟨bb, oo, none⟩) 1 c0)] w (OneRet2 w) := by
  go_enter Tryz.func38, Tryz.ntmps38
  go_wp2_with fail
  refine (limited55 _ _ _ _ (by omega)).mono ?_
  rintro e w' ⟨rfl, rfl⟩
  go_wp2_with fail
  refine (walk57_1 _ _ _ h1 _).mono ?_
  rintro e w1 ⟨rfl, hb1⟩
  have HB1 := hide hb1
  clear hb1
  go_wp2_with fail
  refine (from56_1 _).mono ?_
  rintro e w2 ⟨A, c, rfl, hr, hb⟩
  have HB := hide (HB1.out.trans (hb.mono HB1.out.size))
  clear hb
  have HR := hide hr; clear hr
  go_wp2_with fail
  go_returns
  exact ⟨A, c, rfl, HR.out, HB.out⟩

set_option maxRecDepth 100000 in
set_option maxHeartbeats 400000 in
theorem numbers77 (w : World) : Calls Tryz.prog 77 #[.slice none 0 0] w fun e w' => e = .returned (.slice none 0 0) ∧ w = w' := by
  go_enter Tryz.func77, Tryz.ntmps77
  go_wp2_with fail
  refine wp_loop_rounds 1 ?_
  rw [rounds_succ]
  go_wp2_with fail
  go_ret
  exact ⟨rfl, rfl⟩

set_option maxRecDepth 100000 in
set_option maxHeartbeats 800000 in
theorem merge58 (w : World) : Calls Tryz.prog 58 #[.slice none 0 0, .slice none 0 0, .int .u32 1] w (NilRet2 w) := by
  go_enter Tryz.func58, Tryz.ntmps58
  go_wp2_with fail
  refine (numbers77 _).mono ?_
  rintro e w' ⟨rfl, rfl⟩
  go_wp2_with fail
  refine (script38_0 _).mono ?_
  rintro e w1 ⟨rfl, hb1⟩
  have HB := hide ((((Below.refl w.heap.size w).alloc (Nat.le_refl _) (.cells #[.slice none 0 0] 96)).alloc (by simp) (.cells #[.int .u32 1] 77)).trans (hb1.mono (by simp; omega)))
  have HP := hide (((Blk.new w 96 #[.slice none 0 0]).alloc (.cells #[.int .u32 1] 77)).below hb1 (by simp; omega))
  have y0 : w1.cell? ⟨w.heap.size, 0, none⟩ = some (.slice none 0 0) := HP.out.cell 0
  have l0 := HP.out.lt
  clear hb1
  go_wp2_with fail
  refine wp_loop_rounds 1 ?_
  rw [rounds_succ]
  go_wp2_with go_in
  refine wp_loop_rounds 1 ?_
  rw [rounds_succ]
  go_wp2_with fail
  go_returns
  exact ⟨rfl, (HB.out.alloc HB.out.size _).alloc (by have := HB.out.size; simp; omega) _⟩

set_option maxRecDepth 100000 in
set_option maxHeartbeats 800000 in
theorem coal39 (A : Option Addr) (c : Nat) (w : World) (hr : Rd w (.slice A 1 c) 1 1 [.slice none 0 0]) : Calls Tryz.prog 39 #[.slice A 1 c] w (NilRet2 w) := by
  obtain ⟨b, off, rfl, hb, hc⟩ := hr.at (by omega)
  have y0 : w.cell? ⟨b, off, none⟩ = some (.slice none 0 0) := hc 0 _ rfl
  clear hc hr
  go_enter Tryz.func39, Tryz.ntmps39
  go_wp2_with fail
  refine wp_loop_rounds 2 ?_
  rw [rounds_succ]
  go_wp2_with fail
  refine (merge58 _).mono ?_
  rintro e w1 ⟨rfl, hb1⟩
  have HB := hide hb1
  clear hb1
  go_wp2_with fail
  rw [rounds_succ]
  go_wp2_with fail
  go_returns
  exact ⟨rfl, HB.out⟩
end Go.Proofs.YtbjbcfiieacamaaGreatDoor
