import Derived.Test.YtbjbcfiieacamaaGreatDoorTW
import Derived.Test.YtbjbcfiieacamaaGreatDoorTI
namespace Go.Proofs.YtbjbcfiieacamaaGreatDoor
open Go.RowKit
set_option linter.unusedVariables false

set_option maxRecDepth 100000 in
set_option maxHeartbeats 800000 in
theorem full6_a (A : Option Addr) (c : Nat) (w : World) (hr : Rd w (.slice A 1 c) 1 1 [.string ⟨#[]⟩]) (hm : Mx w) :
    Calls Tryz.prog 6 #[.string ⟨#[120]⟩, .string ⟨#[97]⟩, .slice A 1 c] w (CutOk w) := by
  have HR := hide hr
  have HM := hide hm
  clear hr hm
  go_enter Tryz.func6, Tryz.ntmps6
  go_wp2_with fail
  refine (named13 _).mono ?_
  rintro e w' ⟨rfl, rfl⟩
  go_wp2_with fail
  refine (make8_a ⟨#[97]⟩ ⟨#[]⟩ _ _ _ (HR.out.alloc _) (HM.out.alloc _) (by decide) (by decide) lines_a lines_nil).mono ?_
  rintro e w1 ⟨A1, d1, rfl, hr1, hb1⟩
  have HR1 := hide (show Rd w1 (.slice A1 1 d1) 3 1 rowL from hr1)
  have HO := hide ((Blk.new w 30 #[.string ⟨#[]⟩, .bool false, .int .i64 0, .slice none 0 0]).below hb1 (by simp))
  have HB := hide (((Below.refl w.heap.size w).alloc (Nat.le_refl _) (.cells #[.string ⟨#[]⟩, .bool false, .int .i64 0, .slice none 0 0] 30)).trans (hb1.mono (by simp)))
  obtain ⟨O, hO⟩ : ∃ O, O = w.heap.size := ⟨_, rfl⟩
  rw [← hO] at HO ⊢
  have hwO : w.heap.size ≤ O := by omega
  clear hO hr1 hb1
  go_wp2_with fail
  refine (cut14 _ _ _ _ _ ((HR1.out.alloc _).alloc _) (Rd.lit (W := w1.alloc _) (cs := [.int .i64 0, .int .i64 1]) (by simp) rfl (by decide))).mono ?_
  rintro e w2 ⟨Ah, ch, ba, oa, ca, Ar, cr, rfl, hh, ha, hr, hb2, f1, f2, f3⟩
  have HH := hide hh
  have HA := hide ha
  have HX := hide hr
  have lO := HO.out.lt
  obtain ⟨bh, oh, rfl, _, _⟩ := hh.at (by omega)
  obtain ⟨br, or_, rfl, _, _⟩ := hr.at (by omega)
  have F1 := f1 bh oh rfl
  have F3 := f3 br or_ rfl
  simp at F1 f2 F3
  have p1 : bh ≠ O := by omega
  have p2 : ba ≠ O := by omega
  have p3 : br ≠ O := by omega
  have F1' : w.heap.size ≤ bh := by have := HB.out.size; omega
  have F2' : w.heap.size ≤ ba := by have := HB.out.size; omega
  have F3' : w.heap.size ≤ br := by have := HB.out.size; omega
  have HO2 := hide (((HO.out.alloc (.cells #[.int .i64 1, .slice A1 1 d1] 37)).alloc (.cells #[.int .i64 0, .int .i64 1] 49)).below hb2 (by simp; omega))
  have HB2 := hide (((HB.out.alloc HB.out.size (.cells #[.int .i64 1, .slice A1 1 d1] 37)).alloc (Nat.le_trans HB.out.size (by simp)) (.cells #[.int .i64 0, .int .i64 1] 49)).trans (hb2.mono (Nat.le_trans HB.out.size (by simp; omega))))
  have z0 : w2.cell? ⟨O, 0, none⟩ = some (.string ⟨#[]⟩) := HO2.out.cell 0
  have z1 : w2.cell? ⟨O, 1, none⟩ = some (.bool false) := HO2.out.cell 1
  have z2 : w2.cell? ⟨O, 2, none⟩ = some (.int .i64 0) := HO2.out.cell 2
  have z3 : w2.cell? ⟨O, 3, none⟩ = some (.slice none 0 0) := HO2.out.cell 3
  have of0 := HO2.out.frozen 0
  have of1 := HO2.out.frozen 1
  have of2 := HO2.out.frozen 2
  have of3 := HO2.out.frozen 3
  clear hh ha hr hb2 f1 f2 f3 F1 F3 HB HO lO HR1 HR HM
  go_wp2_with fail
  obtain ⟨wF, hF⟩ : ∃ wF, wF = ((((w2.setCell ⟨O, 0, none⟩ (.string ⟨#[120]⟩)).setCell ⟨O, 1, none⟩ (.bool false)).setCell ⟨O, 2, none⟩ (.int .i64 1)).setCell ⟨O, 3, none⟩ (.slice (some ⟨bh, oh, none⟩) 1 ch)) := ⟨_, rfl⟩
  rw [← hF]
  have HOF : Blk wF O 30 #[.string ⟨#[120]⟩, .bool false, .int .i64 1, .slice (some ⟨bh, oh, none⟩) 1 ch] := by rw [hF]; exact (((HO2.out.set_ 0 _).set_ 1 _).set_ 2 _).set_ 3 _
  have sF : w2.heap.size ≤ wF.heap.size := by rw [hF]; simp [World.setCell]
  have kF : ∀ g, g ≠ O → wF.heap[g]? = w2.heap[g]? := fun g hg => by
    rw [hF, Below.heap_setCell _ ⟨O, 3, none⟩ _ g hg, Below.heap_setCell _ ⟨O, 2, none⟩ _ g hg, Below.heap_setCell _ ⟨O, 1, none⟩ _ g hg, Below.heap_setCell _ ⟨O, 0, none⟩ _ g hg]
  have BF : Below w.heap.size w wF := by
    rw [hF]; exact (((HB2.out.setCell (p := ⟨O, 0, none⟩) hwO _).setCell (p := ⟨O, 1, none⟩) hwO _).setCell (p := ⟨O, 2, none⟩) hwO _).setCell (p := ⟨O, 3, none⟩) hwO _
  have n0 : wF.cell? ⟨O, 0, none⟩ = some (.string ⟨#[120]⟩) := HOF.cell 0
  have n1 : wF.cell? ⟨O, 1, none⟩ = some (.bool false) := HOF.cell 1
  have n2 : wF.cell? ⟨O, 2, none⟩ = some (.int .i64 1) := HOF.cell 2
  have n3 : wF.cell? ⟨O, 3, none⟩ = some (.slice (some ⟨bh, oh, none⟩) 1 ch) := HOF.cell 3
  clear hF
  refine bodyPost_ret (v := .tuple #[.agg #[.string ⟨#[120]⟩, .bool false, .int .i64 1, .slice (some ⟨bh, oh, none⟩) 1 ch], .int .i64 0]) (by simp [results, Tryz.results6, go_sem, n0, n1, n2, n3]) rfl ⟨some ⟨bh, oh, none⟩, ch, ba, oa, ca, some ⟨br, or_, none⟩, cr, rfl, HH.out.stay sF (fun _ => kF bh p1), HA.out.stay sF (fun _ => kF ba p2), HX.out.stay sF (fun _ => kF br p3), BF, fun b o e => by injection e with e; injection e with e; omega, F2', fun b o e => by injection e with e; injection e with e; omega⟩

set_option maxRecDepth 100000 in
set_option maxHeartbeats 800000 in
theorem full6_bad1 (r : ByteArray) (A : Option Addr) (n c : Nat) (w : World) (h8 : ∀ x, Below w.heap.size w x → Calls Tryz.prog 8 #[.string r, .slice A n c] x fun e x' => e = .returned (.tuple #[.agg #[.int .i64 0, .slice none 0 0], .int .i64 1]) ∧ Below x.heap.size x x') :
    Calls Tryz.prog 6 #[.string ⟨#[120]⟩, .string r, .slice A n c] w fun e w' => e = .returned (.tuple #[.agg #[.string ⟨#[]⟩, .bool false, .int .i64 0, .slice none 0 0], .int .i64 1]) ∧ Below w.heap.size w w' := by
  have H8 := hide h8
  clear h8
  go_enter Tryz.func6, Tryz.ntmps6
  go_wp2_with fail
  refine (named13 _).mono ?_
  rintro e w' ⟨rfl, rfl⟩
  go_wp2_with fail
  refine (H8.out _ ((Below.refl _ _).alloc (Nat.le_refl _) _)).mono ?_
  rintro e w1 ⟨rfl, hb1⟩
  have HO := hide ((Blk.new w 30 #[.string ⟨#[]⟩, .bool false, .int .i64 0, .slice none 0 0]).below hb1 (by simp))
  have HB := hide (((Below.refl w.heap.size w).alloc (Nat.le_refl _) (.cells #[.string ⟨#[]⟩, .bool false, .int .i64 0, .slice none 0 0] 30)).trans (hb1.mono (by simp)))
  obtain ⟨O, hO⟩ : ∃ O, O = w.heap.size := ⟨_, rfl⟩
  rw [← hO] at HO ⊢
  have hwO : w.heap.size ≤ O := by omega
  have lO := HO.out.lt
  have lO1 : O < w1.heap.size + 1 := by omega
  have z0 : w1.cell? ⟨O, 0, none⟩ = some (.string ⟨#[]⟩) := HO.out.cell 0
  have z1 : w1.cell? ⟨O, 1, none⟩ = some (.bool false) := HO.out.cell 1
  have z2 : w1.cell? ⟨O, 2, none⟩ = some (.int .i64 0) := HO.out.cell 2
  have z3 : w1.cell? ⟨O, 3, none⟩ = some (.slice none 0 0) := HO.out.cell 3
  have of0 := HO.out.frozen 0
  have of1 := HO.out.frozen 1
  have of2 := HO.out.frozen 2
  have of3 := HO.out.frozen 3
  clear hO hb1
  go_wp2_with fail
  obtain ⟨wF, hF⟩ : ∃ wF, wF = ((((w1.setCell ⟨O, 0, none⟩ (.string ⟨#[]⟩)).setCell ⟨O, 1, none⟩ (.bool false)).setCell ⟨O, 2, none⟩ (.int .i64 0)).setCell ⟨O, 3, none⟩ (.slice none 0 0)).alloc (.cells #[.int .i64 0, .slice none 0 0] 37) := ⟨_, rfl⟩
  rw [← hF]
  have HOF : Blk wF O 30 #[.string ⟨#[]⟩, .bool false, .int .i64 0, .slice none 0 0] := by rw [hF]; exact ((((HO.out.set_ 0 _).set_ 1 _).set_ 2 _).set_ 3 _).alloc _
  have BF : Below w.heap.size w wF := by
    rw [hF]; exact ((((HB.out.setCell (p := ⟨O, 0, none⟩) hwO _).setCell (p := ⟨O, 1, none⟩) hwO _).setCell (p := ⟨O, 2, none⟩) hwO _).setCell (p := ⟨O, 3, none⟩) hwO _).alloc (by simpa [World.setCell] using HB.out.size) _
  have n0 : wF.cell? ⟨O, 0, none⟩ = some (.string ⟨#[]⟩) := HOF.cell 0
  have n1 : wF.cell? ⟨O, 1, none⟩ = some (.bool false) := HOF.cell 1
  have n2 : wF.cell? ⟨O, 2, none⟩ = some (.int .i64 0) := HOF.cell 2
  have n3 : wF.cell? ⟨O, 3, none⟩ = some (.slice none 0 0) := HOF.cell 3
  clear hF
  refine bodyPost_ret (v := .tuple #[.agg #[.string ⟨#[]⟩, .bool false, .int .i64 0, .slice none 0 0], .int .i64 1]) (by simp [results, Tryz.results6, go_sem, n0, n1, n2, n3]) rfl ⟨rfl, BF⟩

set_option maxRecDepth 100000 in
set_option maxHeartbeats 800000 in
theorem full6_bad2 (r : ByteArray) (A : Option Addr) (n c : Nat) (w : World) (h8 : ∀ x, Below w.heap.size w x → Calls Tryz.prog 8 #[.string r, .slice A n c] x fun e x' => e = .returned (.tuple #[.agg #[.int .i64 0, .slice none 0 0], .int .i64 2]) ∧ Below x.heap.size x x') :
    Calls Tryz.prog 6 #[.string ⟨#[120]⟩, .string r, .slice A n c] w fun e w' => e = .returned (.tuple #[.agg #[.string ⟨#[]⟩, .bool false, .int .i64 0, .slice none 0 0], .int .i64 2]) ∧ Below w.heap.size w w' := by
  have H8 := hide h8
  clear h8
  go_enter Tryz.func6, Tryz.ntmps6
  go_wp2_with fail
  refine (named13 _).mono ?_
  rintro e w' ⟨rfl, rfl⟩
  go_wp2_with fail
  refine (H8.out _ ((Below.refl _ _).alloc (Nat.le_refl _) _)).mono ?_
  rintro e w1 ⟨rfl, hb1⟩
  have HO := hide ((Blk.new w 30 #[.string ⟨#[]⟩, .bool false, .int .i64 0, .slice none 0 0]).below hb1 (by simp))
  have HB := hide (((Below.refl w.heap.size w).alloc (Nat.le_refl _) (.cells #[.string ⟨#[]⟩, .bool false, .int .i64 0, .slice none 0 0] 30)).trans (hb1.mono (by simp)))
  obtain ⟨O, hO⟩ : ∃ O, O = w.heap.size := ⟨_, rfl⟩
  rw [← hO] at HO ⊢
  have hwO : w.heap.size ≤ O := by omega
  have lO := HO.out.lt
  have lO1 : O < w1.heap.size + 1 := by omega
  have z0 : w1.cell? ⟨O, 0, none⟩ = some (.string ⟨#[]⟩) := HO.out.cell 0
  have z1 : w1.cell? ⟨O, 1, none⟩ = some (.bool false) := HO.out.cell 1
  have z2 : w1.cell? ⟨O, 2, none⟩ = some (.int .i64 0) := HO.out.cell 2
  have z3 : w1.cell? ⟨O, 3, none⟩ = some (.slice none 0 0) := HO.out.cell 3
  have of0 := HO.out.frozen 0
  have of1 := HO.out.frozen 1
  have of2 := HO.out.frozen 2
  have of3 := HO.out.frozen 3
  clear hO hb1
  go_wp2_with fail
  obtain ⟨wF, hF⟩ : ∃ wF, wF = ((((w1.setCell ⟨O, 0, none⟩ (.string ⟨#[]⟩)).setCell ⟨O, 1, none⟩ (.bool false)).setCell ⟨O, 2, none⟩ (.int .i64 0)).setCell ⟨O, 3, none⟩ (.slice none 0 0)).alloc (.cells #[.int .i64 0, .slice none 0 0] 37) := ⟨_, rfl⟩
  rw [← hF]
  have HOF : Blk wF O 30 #[.string ⟨#[]⟩, .bool false, .int .i64 0, .slice none 0 0] := by rw [hF]; exact ((((HO.out.set_ 0 _).set_ 1 _).set_ 2 _).set_ 3 _).alloc _
  have BF : Below w.heap.size w wF := by
    rw [hF]; exact ((((HB.out.setCell (p := ⟨O, 0, none⟩) hwO _).setCell (p := ⟨O, 1, none⟩) hwO _).setCell (p := ⟨O, 2, none⟩) hwO _).setCell (p := ⟨O, 3, none⟩) hwO _).alloc (by simpa [World.setCell] using HB.out.size) _
  have n0 : wF.cell? ⟨O, 0, none⟩ = some (.string ⟨#[]⟩) := HOF.cell 0
  have n1 : wF.cell? ⟨O, 1, none⟩ = some (.bool false) := HOF.cell 1
  have n2 : wF.cell? ⟨O, 2, none⟩ = some (.int .i64 0) := HOF.cell 2
  have n3 : wF.cell? ⟨O, 3, none⟩ = some (.slice none 0 0) := HOF.cell 3
  clear hF
  refine bodyPost_ret (v := .tuple #[.agg #[.string ⟨#[]⟩, .bool false, .int .i64 0, .slice none 0 0], .int .i64 2]) (by simp [results, Tryz.results6, go_sem, n0, n1, n2, n3]) rfl ⟨rfl, BF⟩
end Go.Proofs.YtbjbcfiieacamaaGreatDoor
