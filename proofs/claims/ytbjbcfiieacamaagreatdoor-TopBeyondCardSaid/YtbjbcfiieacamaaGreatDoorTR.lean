import Derived.Test.YtbjbcfiieacamaaGreatDoorTQ
namespace Go.Proofs.YtbjbcfiieacamaaGreatDoor
open Go.RowKit
set_option linter.unusedVariables false

def RowsRet (w : World) (e : Ending) (w' : World) : Prop := ∃ A c, e = .returned (.slice A 1 c) ∧ Rd w' (.slice A 1 c) 3 1 rowL ∧ Below w.heap.size w w' ∧ ∀ b o, A = some ⟨b, o, none⟩ → w.heap.size ≤ b

set_option maxRecDepth 100000 in
set_option maxHeartbeats 400000 in
theorem clone30 (A : Option Addr) (c : Nat) (w : World) (hr : Rd w (.slice A 1 c) 3 1 rowL) :
    Calls Tryz.prog 30 #[.slice A 1 c] w (RowsRet w) := by
  obtain ⟨b, off, rfl, hb, hc⟩ := hr.at (by omega)
  have r0 : w.cell? ⟨b, off, none⟩ = some (.bool false) := hc 0 _ rfl
  have r1 : w.cell? ⟨b, off + 1, none⟩ = some (.int .u32 1) := hc 1 _ rfl
  have r2 : w.cell? ⟨b, off + 2, none⟩ = some (.string ⟨#[97]⟩) := hc 2 _ rfl
  clear hc hr
  have hcp : ¬ 281474976710656 < Builtin.nextslicecap 1 0 * Tryz.t79.bytes := of_decide_eq_false (by kernel_rfl)
  have qT : ∀ (w : World), (binOp .eql 35 (.slice (some ⟨b, off, none⟩) 1 c) (.slice none 0 0)).run Tryz.prog w = .ok (.bool false) w := fun w => by kernel_rfl
  go_enter Tryz.func30, Tryz.ntmps30
  go_wp2_with fail
  go_ret
  obtain ⟨cp, hcd⟩ : ∃ cp, cp = (Question.appendCap 1 0 79).cut (w.tape w.drawn (Question.appendCap 1 0 79)) := ⟨_, rfl⟩
  have c1 : 1 ≤ cp := by rw [hcd]; exact grownCap_ge w 1 0 79
  have c2 : cp ≤ maxLen := by rw [hcd]; exact grownCap_le_maxLen w 1 0 79 (by decide)
  rw [← hcd]
  refine ⟨some ⟨w.heap.size + 1, 0, none⟩, cp, rfl, ?_, ?_, fun b' o' e => by injection e with e; injection e with e; omega⟩
  · exact Rd.drewN (Rd.grown (news := #[.bool false, .int .u32 1, .string ⟨#[97]⟩]) (by simp) rfl c1 c2) 1
  · exact below_drewN (((Below.refl w.heap.size w).alloc (Nat.le_refl _) _).alloc (by simp) _) 1


theorem Blk.ne {w : World} {a b : Nat} {t u : TypeId} {cs ds : Array Value} (ha : Blk w a t cs) (hb : Blk w b u ds) (h : t ≠ u ∨ cs.size ≠ ds.size) : a ≠ b := by
  rintro rfl
  unfold Blk at ha hb
  rw [ha] at hb
  injection hb with hb
  injection hb with h1 h2
  rcases h with h | h
  · exact h h2
  · exact h (by rw [h1])
/-- What a call of Cut's function value leaves: the slice at and the end. -/
def CutRet (w : World) (N D : Nat) (x : Int) (w' : World) : Prop := w.heap.size ≤ w'.heap.size ∧ (∀ g, g < w.heap.size → g ≠ N → g ≠ D → w'.heap[g]? = w.heap[g]?) ∧ Blk w' N 3 #[.int .i64 x] ∧ Blk w' D 3 #[.int .i64 0, .int .i64 x] ∧ ∀ B, B ≤ N → B ≤ D → B ≤ w.heap.size → Below B w w'

set_option maxRecDepth 100000 in
set_option maxHeartbeats 800000 in
theorem cut27_0 (T N P D : Nat) (A : Option Addr) (c : Nat) (w : World) (hT : Blk w T 37 #[.int .i64 1, .slice A 1 c]) (hN : Blk w N 3 #[.int .i64 0]) (hP : Blk w P 22 #[.slice (some ⟨D, 0, none⟩) 2 2]) (hD : Blk w D 3 #[.int .i64 0, .int .i64 0]) (hr : Rd w (.slice A 1 c) 3 1 rowL) :
    Calls Tryz.prog 27 #[.int .i64 0, .pointer (some ⟨T, 0, none⟩), .pointer (some ⟨N, 0, none⟩), .pointer (some ⟨P, 0, none⟩)] w fun e w' => e = .returned (.tuple #[]) ∧ CutRet w N D 0 w' := by
  have HRL := hide (show ∀ X, Below w.heap.size w X → Calls Tryz.prog 28 #[.slice A 1 c, .int .i64 1] X (Two2 0 1 X) from fun X hX => counts28_1 A c X (hr.below hX (Nat.le_refl _)))
  have hcap : 1 ≤ c ∧ c ≤ maxLen := by
    obtain ⟨A', c', hv, h1, h2, _⟩ := hr
    injection hv with _ _ hc
    subst hc
    exact ⟨h1, h2⟩
  have k0 : (0 : Int) ≤ (c : Int) := by omega
  have k1 : (1 : Int) ≤ (c : Int) := by omega
  obtain ⟨b, off, rfl, hb, hc⟩ := hr.at (by omega)
  clear hc hr
  have HT := hide hT
  have HN := hide hN
  have HP := hide hP
  have HD := hide hD
  have t0 : w.cell? ⟨T, 0, none⟩ = some (.int .i64 1) := hT.cell 0
  have t1 : w.cell? ⟨T, 1, none⟩ = some (.slice (some ⟨b, off, none⟩) 1 c) := hT.cell 1
  have n0 : w.cell? ⟨N, 0, none⟩ = some (.int .i64 0) := hN.cell 0
  have lT := hT.lt
  have lN := hN.lt
  have SS := hide (show ∀ X, Below w.heap.size w X → Below w.heap.size w X ∧ X.cell? ⟨T, 0, none⟩ = some (.int .i64 1) ∧ X.cell? ⟨T, 1, none⟩ = some (.slice (some ⟨b, off, none⟩) 1 c) ∧ X.cell? ⟨N, 0, none⟩ = some (.int .i64 0) from fun X hX => ⟨hX, (hX.cell (p := ⟨T, 0, none⟩) lT).trans t0, (hX.cell (p := ⟨T, 1, none⟩) lT).trans t1, (hX.cell (p := ⟨N, 0, none⟩) lN).trans n0⟩)
  clear hT hN hP hD
  go_enter Tryz.func27, Tryz.ntmps27
  go_wp2_with fail
  go_region_held3 (fun X => Below w.heap.size w X ∧ X.cell? ⟨T, 0, none⟩ = some (.int .i64 1) ∧ X.cell? ⟨T, 1, none⟩ = some (.slice (some ⟨b, off, none⟩) 1 c) ∧ X.cell? ⟨N, 0, none⟩ = some (.int .i64 0))
    (first | exact SS.out _ (Below.refl _ _).drew | exact SS.out _ hbk | exact SS.out _ (‹Below w.heap.size w _ ∧ _›).1)
    (first | (go_at_call 28; refine (counts28_0 _ _ _).mono ?_; rintro e w1 ⟨E, rfl, hE, hwE, hb1⟩; have hbk := (‹Below w.heap.size w _ ∧ _›).1.trans (hb1.mono (‹Below w.heap.size w _ ∧ _›).1.size); have HE := hide hE; have hlE := Nat.le_trans (‹Below w.heap.size w _ ∧ _›).1.size hwE; clear hE hwE hb1))
  have HNw := hide (HN.out.below hbk HN.out.lt)
  have HDw := hide (HD.out.below hbk HD.out.lt)
  have HPw := hide (HP.out.below hbk HP.out.lt)
  have p0 : w1.cell? ⟨P, 0, none⟩ = some (.slice (some ⟨D, 0, none⟩) 2 2) := HPw.out.cell 0
  have d0 : w1.cell? ⟨D, 0, none⟩ = some (.int .i64 0) := HDw.out.cell 0
  have d1 : w1.cell? ⟨D, 1, none⟩ = some (.int .i64 0) := HDw.out.cell 1
  have e0 : w1.cell? ⟨E, 0, none⟩ = some (.int .i64 0) := HE.out.cell 0
  have e1 : w1.cell? ⟨E, 1, none⟩ = some (.int .i64 0) := HE.out.cell 1
  have m0 : w1.cell? ⟨N, 0, none⟩ = some (.int .i64 0) := HNw.out.cell 0
  have fD0 := HDw.out.frozen 0
  have fD1 := HDw.out.frozen 1
  have fN0 := HNw.out.frozen 0
  have lD := HD.out.lt
  have lP := HP.out.lt
  have q1 : D ≠ E := by omega
  have q2 : D ≠ P := HDw.out.ne HPw.out (Or.inl (by decide))
  have q3 : D ≠ N := HDw.out.ne HNw.out (by decide)
  have q4 : E ≠ D := Ne.symm q1
  have q5 : P ≠ D := Ne.symm q2
  have q6 : N ≠ D := Ne.symm q3
  clear ‹Below w.heap.size w w1 ∧ _›
  have HBK := hide hbk
  clear hbk t0 t1 n0 SS HRL
  go_wp2_with fail
  refine wp_loop_rounds 3 ?_
  rw [rounds_succ]
  go_wp2_with fail
  rw [rounds_succ]
  go_wp2_with fail
  rw [rounds_succ]
  go_wp2_with fail
  refine bodyPost_end (v := .tuple #[]) (by simp [results, Tryz.results27, go_sem]) rfl ?_
  have hDx := ((HDw.out.set_ 0 (.int .i64 0)).set_ 1 (.int .i64 0)).far (p := ⟨N, 0, none⟩) (by exact q3) (.int .i64 0)
  have hNx := ((HNw.out.far (p := ⟨D, 0, none⟩) (by exact q6) (.int .i64 0)).far (p := ⟨D, 1, none⟩) (by exact q6) (.int .i64 0)).set_ 0 (.int .i64 0)
  refine ⟨rfl, by simpa [World.setCell] using HBK.out.size, fun g hg gN gD => ?_, hNx, hDx, fun B h1 h2 h3 => ?_⟩
  · rw [Below.heap_setCell _ ⟨N, 0, none⟩ _ g gN, Below.heap_setCell _ ⟨D, 1, none⟩ _ g gD, Below.heap_setCell _ ⟨D, 0, none⟩ _ g gD]
    exact HBK.out.block g hg
  · exact (((HBK.out.mono h3).setCell (p := ⟨D, 0, none⟩) h2 _).setCell (p := ⟨D, 1, none⟩) h2 _).setCell (p := ⟨N, 0, none⟩) h1 _

set_option maxRecDepth 100000 in
set_option maxHeartbeats 800000 in
theorem cut27_1 (T N P D : Nat) (A : Option Addr) (c : Nat) (w : World) (hT : Blk w T 37 #[.int .i64 1, .slice A 1 c]) (hN : Blk w N 3 #[.int .i64 0]) (hP : Blk w P 22 #[.slice (some ⟨D, 0, none⟩) 2 2]) (hD : Blk w D 3 #[.int .i64 0, .int .i64 0]) (hr : Rd w (.slice A 1 c) 3 1 rowL) :
    Calls Tryz.prog 27 #[.int .i64 1, .pointer (some ⟨T, 0, none⟩), .pointer (some ⟨N, 0, none⟩), .pointer (some ⟨P, 0, none⟩)] w fun e w' => e = .returned (.tuple #[]) ∧ CutRet w N D 1 w' := by
  have HRL := hide (show ∀ X, Below w.heap.size w X → Calls Tryz.prog 28 #[.slice A 1 c, .int .i64 1] X (Two2 0 1 X) from fun X hX => counts28_1 A c X (hr.below hX (Nat.le_refl _)))
  have hcap : 1 ≤ c ∧ c ≤ maxLen := by
    obtain ⟨A', c', hv, h1, h2, _⟩ := hr
    injection hv with _ _ hc
    subst hc
    exact ⟨h1, h2⟩
  have k0 : (0 : Int) ≤ (c : Int) := by omega
  have k1 : (1 : Int) ≤ (c : Int) := by omega
  obtain ⟨b, off, rfl, hb, hc⟩ := hr.at (by omega)
  clear hc hr
  have HT := hide hT
  have HN := hide hN
  have HP := hide hP
  have HD := hide hD
  have t0 : w.cell? ⟨T, 0, none⟩ = some (.int .i64 1) := hT.cell 0
  have t1 : w.cell? ⟨T, 1, none⟩ = some (.slice (some ⟨b, off, none⟩) 1 c) := hT.cell 1
  have n0 : w.cell? ⟨N, 0, none⟩ = some (.int .i64 0) := hN.cell 0
  have lT := hT.lt
  have lN := hN.lt
  have SS := hide (show ∀ X, Below w.heap.size w X → Below w.heap.size w X ∧ X.cell? ⟨T, 0, none⟩ = some (.int .i64 1) ∧ X.cell? ⟨T, 1, none⟩ = some (.slice (some ⟨b, off, none⟩) 1 c) ∧ X.cell? ⟨N, 0, none⟩ = some (.int .i64 0) from fun X hX => ⟨hX, (hX.cell (p := ⟨T, 0, none⟩) lT).trans t0, (hX.cell (p := ⟨T, 1, none⟩) lT).trans t1, (hX.cell (p := ⟨N, 0, none⟩) lN).trans n0⟩)
  clear hT hN hP hD
  go_enter Tryz.func27, Tryz.ntmps27
  go_wp2_with fail
  go_region_held3 (fun X => Below w.heap.size w X ∧ X.cell? ⟨T, 0, none⟩ = some (.int .i64 1) ∧ X.cell? ⟨T, 1, none⟩ = some (.slice (some ⟨b, off, none⟩) 1 c) ∧ X.cell? ⟨N, 0, none⟩ = some (.int .i64 0))
    (first | exact SS.out _ (Below.refl _ _).drew | exact SS.out _ hbk | exact SS.out _ (‹Below w.heap.size w _ ∧ _›).1)
    (first | (go_at_call 28; refine (HRL.out _ (‹Below w.heap.size w _ ∧ _›).1).mono ?_; rintro e w1 ⟨E, rfl, hE, hwE, hb1⟩; have hbk := (‹Below w.heap.size w _ ∧ _›).1.trans (hb1.mono (‹Below w.heap.size w _ ∧ _›).1.size); have HE := hide hE; have hlE := Nat.le_trans (‹Below w.heap.size w _ ∧ _›).1.size hwE; clear hE hwE hb1))
  have HNw := hide (HN.out.below hbk HN.out.lt)
  have HDw := hide (HD.out.below hbk HD.out.lt)
  have HPw := hide (HP.out.below hbk HP.out.lt)
  have p0 : w1.cell? ⟨P, 0, none⟩ = some (.slice (some ⟨D, 0, none⟩) 2 2) := HPw.out.cell 0
  have d0 : w1.cell? ⟨D, 0, none⟩ = some (.int .i64 0) := HDw.out.cell 0
  have d1 : w1.cell? ⟨D, 1, none⟩ = some (.int .i64 0) := HDw.out.cell 1
  have e0 : w1.cell? ⟨E, 0, none⟩ = some (.int .i64 0) := HE.out.cell 0
  have e1 : w1.cell? ⟨E, 1, none⟩ = some (.int .i64 1) := HE.out.cell 1
  have m0 : w1.cell? ⟨N, 0, none⟩ = some (.int .i64 0) := HNw.out.cell 0
  have fD0 := HDw.out.frozen 0
  have fD1 := HDw.out.frozen 1
  have fN0 := HNw.out.frozen 0
  have lD := HD.out.lt
  have lP := HP.out.lt
  have q1 : D ≠ E := by omega
  have q2 : D ≠ P := HDw.out.ne HPw.out (Or.inl (by decide))
  have q3 : D ≠ N := HDw.out.ne HNw.out (by decide)
  have q4 : E ≠ D := Ne.symm q1
  have q5 : P ≠ D := Ne.symm q2
  have q6 : N ≠ D := Ne.symm q3
  clear ‹Below w.heap.size w w1 ∧ _›
  have HBK := hide hbk
  clear hbk t0 t1 n0 SS HRL
  go_wp2_with fail
  refine wp_loop_rounds 3 ?_
  rw [rounds_succ]
  go_wp2_with fail
  rw [rounds_succ]
  go_wp2_with fail
  rw [rounds_succ]
  go_wp2_with fail
  refine bodyPost_end (v := .tuple #[]) (by simp [results, Tryz.results27, go_sem]) rfl ?_
  have hDx := ((HDw.out.set_ 0 (.int .i64 0)).set_ 1 (.int .i64 1)).far (p := ⟨N, 0, none⟩) (by exact q3) (.int .i64 1)
  have hNx := ((HNw.out.far (p := ⟨D, 0, none⟩) (by exact q6) (.int .i64 0)).far (p := ⟨D, 1, none⟩) (by exact q6) (.int .i64 1)).set_ 0 (.int .i64 1)
  refine ⟨rfl, by simpa [World.setCell] using HBK.out.size, fun g hg gN gD => ?_, hNx, hDx, fun B h1 h2 h3 => ?_⟩
  · rw [Below.heap_setCell _ ⟨N, 0, none⟩ _ g gN, Below.heap_setCell _ ⟨D, 1, none⟩ _ g gD, Below.heap_setCell _ ⟨D, 0, none⟩ _ g gD]
    exact HBK.out.block g hg
  · exact (((HBK.out.mono h3).setCell (p := ⟨D, 0, none⟩) h2 _).setCell (p := ⟨D, 1, none⟩) h2 _).setCell (p := ⟨N, 0, none⟩) h1 _
end Go.Proofs.YtbjbcfiieacamaaGreatDoor
