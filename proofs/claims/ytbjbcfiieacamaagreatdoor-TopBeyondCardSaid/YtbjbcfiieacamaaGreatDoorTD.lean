import Derived.Test.YtbjbcfiieacamaaGreatDoorTN
namespace Go.Proofs.YtbjbcfiieacamaaGreatDoor
open Go.RowKit
set_option linter.unusedVariables false

theorem make134_1 (w : World) : (Instr.makeSlice 134 (.int .i64 1) (.int .i64 1)).run Tryz.prog w = .ok (.slice (some ⟨w.heap.size, 0, none⟩) 1 1) (w.alloc (.cells #[.int .u16 0] 136)) := by kernel_rfl
theorem make134_2 (w : World) : (Instr.makeSlice 134 (.int .i64 2) (.int .i64 2)).run Tryz.prog w = .ok (.slice (some ⟨w.heap.size, 0, none⟩) 2 2) (w.alloc (.cells #[.int .u16 0, .int .u16 0] 136)) := by kernel_rfl

set_option maxRecDepth 100000 in
set_option maxHeartbeats 400000 in
theorem limited55 (A : Option Addr) (n c : Nat) (w : World) (hn : n ≤ 1) :
    Calls Tryz.prog 55 #[.slice none 0 0, .slice A n c] w fun e w' => e = .returned (.bool true) ∧ w = w' := by
  have d0 : decide ((n : Int) ≤ 4096) = true := decide_eq_true (by omega)
  go_enter Tryz.func55, Tryz.ntmps55
  go_wp2_with fail
  go_ret
  exact ⟨rfl, rfl⟩

set_option maxRecDepth 100000 in
set_option maxHeartbeats 400000 in
theorem begin74 (A : Option Addr) (n c : Nat) (w : World) :
    Calls Tryz.prog 74 #[.slice none 0 0, .slice A n c] w fun e w' => e = .returned (.int .i64 0) ∧ Below w.heap.size w w' := by
  go_enter Tryz.func74, Tryz.ntmps74
  go_wp2_with fail
  refine wp_loop_rounds 1 ?_
  rw [rounds_succ]
  go_wp2_with fail
  go_quiet (fail)
  go_wp2_with fail
  go_ret
  exact ⟨rfl, below_drewN (Below.refl _ _) _⟩

set_option maxRecDepth 100000 in
set_option maxHeartbeats 400000 in
theorem dist75_0 (A : Option Addr) (c : Nat) (w : World) :
    Calls Tryz.prog 75 #[.slice none 0 0, .slice A 0 c] w fun e w' => e = .returned (.slice (some ⟨w.heap.size, 0, none⟩) 1 1) ∧ Below w.heap.size w w' := by
  have hmk := make134_1
  go_enter Tryz.func75, Tryz.ntmps75
  go_wp2_with fail
  refine wp_loop_rounds 1 ?_
  rw [rounds_succ]
  go_wp2_with fail
  refine wp_loop_rounds 1 ?_
  rw [rounds_succ]
  go_wp2_with fail
  go_ret
  exact ⟨rfl, (Below.refl _ _).alloc (Nat.le_refl _) _⟩

set_option maxRecDepth 100000 in
set_option maxHeartbeats 400000 in
theorem dist75_1 (A : Option Addr) (c : Nat) (w : World) :
    Calls Tryz.prog 75 #[.slice none 0 0, .slice A 1 c] w fun e w' => e = .returned (.slice (some ⟨w.heap.size, 0, none⟩) 2 2) ∧ Below w.heap.size w w' := by
  have hmk := make134_2
  go_enter Tryz.func75, Tryz.ntmps75
  go_wp2_with fail
  refine wp_loop_rounds 2 ?_
  rw [rounds_succ]
  go_wp2_with fail
  rw [rounds_succ]
  go_wp2_with fail
  refine wp_loop_rounds 1 ?_
  rw [rounds_succ]
  go_wp2_with fail
  go_ret
  exact ⟨rfl, (Below.refl _ _).alloc (Nat.le_refl _) _⟩

set_option maxRecDepth 100000 in
set_option maxHeartbeats 400000 in
theorem clip91 (w : World) : Calls Tryz.prog 91 #[.slice none 0 0] w fun e w' => e = .returned (.slice none 0 0) ∧ w = w' := by
  go_enter Tryz.func91, Tryz.ntmps91
  go_wp2_with fail
  go_ret
  exact ⟨rfl, rfl⟩

set_option maxRecDepth 100000 in
set_option maxHeartbeats 800000 in
theorem walk57_0 (w : World) :
    Calls Tryz.prog 57 #[.slice none 0 0, (.slice none 0 0)] w fun e w' => e = .returned (.slice none 0 0) ∧ Below w.heap.size w w' := by
  go_enter Tryz.func57, Tryz.ntmps57
  go_wp2_with fail
  refine (begin74 _ _ _ _).mono ?_
  rintro e w1 ⟨rfl, hb1⟩
  have HP := hide ((Blk.new w 22 #[(.slice none 0 0)]).below hb1 (by simp))
  have cB : Below w.heap.size w w1 := ((Below.refl _ _).alloc (Nat.le_refl _) _).trans (hb1.mono (by simp))
  obtain ⟨P, hP⟩ : ∃ P, P = w.heap.size := ⟨_, rfl⟩
  rw [← hP] at HP ⊢
  have hP1 : w.heap.size ≤ P := by omega
  have y0 : w1.cell? ⟨P, 0, none⟩ = some (.slice none 0 0) := HP.out.cell 0
  have z0 := HP.out.frozen 0
  have l0 := HP.out.lt
  clear hb1 hP
  go_wp2_with fail
  refine wp_loop_rounds 1 ?_
  rw [rounds_succ]
  go_wp2_with fail
  go_region
  go_wp2_with fail
  refine (dist75_0 _ _ _).mono ?_
  rintro e w2 ⟨rfl, hb2⟩
  have HP2 : Blk w2 P 22 #[(.slice none 0 0)] := (hb2.block P (by simpa [World.setCell] using l0)).trans (HP.out.set_ 0 (.slice none 0 0))
  have cB2 : Below w.heap.size w w2 := Below.trans (by first | exact (cB.setCell (p := ⟨P, 0, none⟩) hP1 _).drew | exact (cB.drew).setCell (p := ⟨P, 0, none⟩) hP1 _) (hb2.mono (by simpa [World.setCell] using cB.size))
  have y1 : w2.cell? ⟨P, 0, none⟩ = some (.slice none 0 0) := HP2.cell 0
  have z1 := HP2.frozen 0
  have l1 := HP2.lt
  have s2 := cB2.size
  clear hb2 y0 z0 HP2
  go_wp2_with fail
  refine wp_loop_rounds 1 ?_
  rw [rounds_succ]
  go_wp2_with fail
  go_ret
  exact ⟨rfl, cB2.alloc s2 _⟩

set_option maxRecDepth 100000 in
set_option maxHeartbeats 800000 in
theorem walk57_1 (bb oo c : Nat) (h1 : 1 ≤ c) (w : World) :
    Calls Tryz.prog 57 #[.slice none 0 0, (.slice (some ⟨bb, oo, none⟩) 1 c)] w fun e w' => e = .returned (.slice none 0 0) ∧ Below w.heap.size w w' := by
  go_enter Tryz.func57, Tryz.ntmps57
  go_wp2_with fail
  refine (begin74 _ _ _ _).mono ?_
  rintro e w1 ⟨rfl, hb1⟩
  have HP := hide ((Blk.new w 22 #[(.slice (some ⟨bb, oo, none⟩) 1 c)]).below hb1 (by simp))
  have cB : Below w.heap.size w w1 := ((Below.refl _ _).alloc (Nat.le_refl _) _).trans (hb1.mono (by simp))
  obtain ⟨P, hP⟩ : ∃ P, P = w.heap.size := ⟨_, rfl⟩
  rw [← hP] at HP ⊢
  have hP1 : w.heap.size ≤ P := by omega
  have y0 : w1.cell? ⟨P, 0, none⟩ = some (.slice (some ⟨bb, oo, none⟩) 1 c) := HP.out.cell 0
  have z0 := HP.out.frozen 0
  have l0 := HP.out.lt
  clear hb1 hP
  go_wp2_with fail
  refine wp_loop_rounds 1 ?_
  rw [rounds_succ]
  go_wp2_with fail
  go_region
  go_wp2_with fail
  refine (dist75_1 _ _ _).mono ?_
  rintro e w2 ⟨rfl, hb2⟩
  have HP2 : Blk w2 P 22 #[(.slice (some ⟨bb, oo, none⟩) 1 c)] := (hb2.block P (by simpa [World.setCell] using l0)).trans (HP.out.set_ 0 (.slice (some ⟨bb, oo, none⟩) 1 c))
  have cB2 : Below w.heap.size w w2 := Below.trans (by first | exact (cB.setCell (p := ⟨P, 0, none⟩) hP1 _).drew | exact (cB.drew).setCell (p := ⟨P, 0, none⟩) hP1 _) (hb2.mono (by simpa [World.setCell] using cB.size))
  have y1 : w2.cell? ⟨P, 0, none⟩ = some (.slice (some ⟨bb, oo, none⟩) 1 c) := HP2.cell 0
  have z1 := HP2.frozen 0
  have l1 := HP2.lt
  have s2 := cB2.size
  clear hb2 y0 z0 HP2
  go_wp2_with fail
  refine wp_loop_rounds 2 ?_
  rw [rounds_succ]
  go_wp2_with fail
  go_quiet (fail)
  go_wp2_with fail
  rw [rounds_succ]
  go_wp2_with fail
  go_ret
  exact ⟨rfl, below_drewN (cB2.alloc s2 _) _⟩


/-- The script that adds one line to an empty text. -/
def OneRet (w : World) (e : Ending) (w' : World) : Prop := ∃ A c, e = .returned (.slice A 1 c) ∧ Rd w' (.slice A 1 c) 4 1 [.int .i64 0, .int .i64 0, .int .i64 0, .int .i64 1] ∧ Below w.heap.size w w'
def NilRet (w : World) (e : Ending) (w' : World) : Prop := e = .returned (.slice none 0 0) ∧ Below w.heap.size w w'

set_option maxRecDepth 100000 in
set_option maxHeartbeats 800000 in
theorem from73_0 (w : World) :
    Calls Tryz.prog 73 #[.slice none 0 0, .int .i64 0, .int .i64 0] w (NilRet w) := by
  go_enter Tryz.func73, Tryz.ntmps73
  go_wp2_with fail
  refine (clip91 _).mono ?_
  rintro e w' ⟨rfl, rfl⟩
  go_wp2_with (at_builtin; go_must (refine wp_app1k rfl (.tmp 13) (.tmp 17) 47 49 2 16 _ rfl Tryz.underlying47 info49 rfl (by omega) (by omega) w _ w.heap.size 0 _ [] rfl _ _ rfl rfl (World.ownsRow_nil _ _ _ _) (World.ownsRow_nil _ _ _ _) (Nat.le_refl _) rfl rfl (by omega) (Nat.le_refl _) ?_); intro v2 w2 hown2 hb2 hk2 hs2; have HB2 := hide hb2; have HO2 := hide (Rd.of_own hown2); obtain ⟨A2, c2, rfl, hg2⟩ := own_open hown2; obtain ⟨g2, rfl, hg3, hg4⟩ := hg2 (by omega); clear hown2 hb2 hk2)
  obtain ⟨b2, off2, e2, _, hc2⟩ := HO2.out.at (by omega)
  injection e2 with e2
  injection e2 with e2 e3 _
  subst e2
  subst e3
  have y0 : w2.cell? ⟨g2, 0, none⟩ = some (.int .i64 0) := hc2 0 _ rfl
  have y1 : w2.cell? ⟨g2, 1, none⟩ = some (.int .i64 0) := hc2 1 _ rfl
  clear hc2
  refine wp_loop_rounds 2 ?_
  rw [rounds_succ]
  go_wp2_with fail
  go_quiet (fail)
  go_wp2_with fail
  rw [rounds_succ]
  go_wp2_with fail
  go_ret
  exact ⟨rfl, below_drewN (HB2.out.alloc HB2.out.size _) _⟩

set_option maxRecDepth 100000 in
set_option maxHeartbeats 800000 in
theorem from73_1 (w : World) :
    Calls Tryz.prog 73 #[.slice none 0 0, .int .i64 0, .int .i64 1] w (OneRet w) := by
  go_enter Tryz.func73, Tryz.ntmps73
  go_wp2_with fail
  refine (clip91 _).mono ?_
  rintro e w' ⟨rfl, rfl⟩
  go_wp2_with (at_builtin; go_must (refine wp_app1k rfl (.tmp 13) (.tmp 17) 47 49 2 16 _ rfl Tryz.underlying47 info49 rfl (by omega) (by omega) w _ w.heap.size 0 _ [] rfl _ _ rfl rfl (World.ownsRow_nil _ _ _ _) (World.ownsRow_nil _ _ _ _) (Nat.le_refl _) rfl rfl (by omega) (Nat.le_refl _) ?_); intro v2 w2 hown2 hb2 hk2 hs2; have HB2 := hide hb2; have HO2 := hide (Rd.of_own hown2); obtain ⟨A2, c2, rfl, hg2⟩ := own_open hown2; obtain ⟨g2, rfl, hg3, hg4⟩ := hg2 (by omega); clear hown2 hb2 hk2)
  obtain ⟨b2, off2, e2, _, hc2⟩ := HO2.out.at (by omega)
  injection e2 with e2
  injection e2 with e2 e3 _
  subst e2
  subst e3
  have y0 : w2.cell? ⟨g2, 0, none⟩ = some (.int .i64 0) := hc2 0 _ rfl
  have y1 : w2.cell? ⟨g2, 1, none⟩ = some (.int .i64 1) := hc2 1 _ rfl
  clear hc2
  refine wp_loop_rounds 2 ?_
  rw [rounds_succ]
  go_wp2_with (at_builtin; go_must (refine wp_app1k rfl (.tmp 34) (.tmp 46) 91 95 4 32 _ rfl Tryz.underlying91 info95 rfl (by omega) (by omega) (w2.alloc (.cells #[.int .i64 0, .int .i64 1] 49)) _ (w2.alloc (.cells #[.int .i64 0, .int .i64 1] 49)).heap.size 0 _ [] rfl _ _ rfl (by simp) (World.ownsRow_nil _ _ _ _) (World.ownsRow_nil _ _ _ _) (Nat.le_refl _) rfl rfl (by omega) (Nat.le_refl _) ?_); intro v3 w3 hown3 hb3 hk3 hs3; have HB3 := hide hb3; have HO3 := hide (Rd.of_own hown3); obtain ⟨A3, c3, rfl, hg3'⟩ := own_open hown3; have HT := hide ((Blk.new w2 49 #[.int .i64 0, .int .i64 1]).below hb3 (by simp)); have t0 : w3.cell? ⟨w2.heap.size, 0, none⟩ = some (.int .i64 0) := HT.out.cell 0; have t1 : w3.cell? ⟨w2.heap.size, 1, none⟩ = some (.int .i64 1) := HT.out.cell 1; have t2 := HT.out.lt; clear hown3 hb3 hk3 hg3')
  go_quiet (fail)
  go_wp2_with fail
  rw [rounds_succ]
  go_wp2_with fail
  go_ret
  exact ⟨A3, c3, rfl, HO3.out, below_drewN ((HB2.out.alloc HB2.out.size _).trans (HB3.out.mono (by have := HB2.out.size; simp; omega))) _⟩
end Go.Proofs.YtbjbcfiieacamaaGreatDoor
