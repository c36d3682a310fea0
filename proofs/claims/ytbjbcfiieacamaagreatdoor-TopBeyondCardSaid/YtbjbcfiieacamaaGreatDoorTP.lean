import Derived.Test.YtbjbcfiieacamaaGreatDoorTK
namespace Go.Proofs.YtbjbcfiieacamaaGreatDoor
open Go.RowKit
set_option linter.unusedVariables false

set_option maxRecDepth 100000 in
set_option maxHeartbeats 800000 in
theorem marked46 (Ah : Option Addr) (ch ba oa ca : Nat) (Ar : Option Addr) (cr : Nat) (w : World) (hh : Rd w (.slice Ah 1 ch) 2 1 [.slice (some ⟨ba, oa, none⟩) 2 ca, .slice Ar 1 cr]) (ha : Rd w (.slice (some ⟨ba, oa, none⟩) 2 ca) 1 2 [.int .i64 0, .int .i64 0]) (hr : Rd w (.slice Ar 1 cr) 3 1 rowL) :
    Calls Tryz.prog 46 #[.agg #[.string ⟨#[120]⟩, .bool false, .int .i64 1, .slice Ah 1 ch]] w fun e w' => e = .returned (.bool true) ∧ Below w.heap.size w w' := by
  obtain ⟨bh, oh, rfl, lbh, hch⟩ := hh.at (by omega)
  have h0 : w.cell? ⟨bh, oh, none⟩ = some (.slice (some ⟨ba, oa, none⟩) 2 ca) := hch 0 _ rfl
  have h1 : w.cell? ⟨bh, oh + 1, none⟩ = some (.slice Ar 1 cr) := hch 1 _ rfl
  obtain ⟨br, or_, rfl, lbr, hcr⟩ := hr.at (by omega)
  have r0 : w.cell? ⟨br, or_, none⟩ = some (.bool false) := hcr 0 _ rfl
  have r1 : w.cell? ⟨br, or_ + 1, none⟩ = some (.int .u32 1) := hcr 1 _ rfl
  have r2 : w.cell? ⟨br, or_ + 2, none⟩ = some (.string ⟨#[97]⟩) := hcr 2 _ rfl
  have HA := hide ha
  have HR := hide hr
  clear hch hcr hh ha hr
  go_enter Tryz.func46, Tryz.ntmps46
  go_wp2_with fail
  refine wp_loop_rounds 2 ?_
  rw [rounds_succ]
  go_wp2_with fail
  refine wp_loop_rounds 2 ?_
  rw [rounds_succ]
  go_wp2_with fail
  refine (marked42 _).mono ?_
  rintro e w1 ⟨rfl, hb1⟩
  have HB := hide (((((Below.refl w.heap.size w).alloc (Nat.le_refl _) (.cells #[.string ⟨#[120]⟩, .bool false, .int .i64 1, .slice (some ⟨bh, oh, none⟩) 1 ch] 30)).alloc (by simp) (.cells #[.slice (some ⟨ba, oa, none⟩) 2 ca, .slice (some ⟨br, or_, none⟩) 1 cr] 81)).alloc (by simp; omega) (.cells #[.bool false, .int .u32 1, .string ⟨#[97]⟩] 79)).trans (hb1.mono (by simp; omega)))
  clear hb1
  go_wp2_with fail
  rw [rounds_succ]
  go_wp2_with fail
  rw [rounds_succ]
  go_wp2_with fail
  go_ret
  exact ⟨rfl, HB.out⟩

set_option maxRecDepth 100000 in
set_option maxHeartbeats 400000 in
theorem add44x (w : World) (g : Nat) (hg : Blk w g 104 #[.bool false, .int .u32 0]) :
    Calls Tryz.prog 44 #[.pointer (some ⟨g, 0, none⟩), rowA] w fun e w' => e = .returned (.bool true) ∧ (∀ x, x < w.heap.size → x ≠ g → w'.heap[x]? = w.heap[x]?) ∧ ∀ B, B ≤ g → B ≤ w.heap.size → Below B w w' := by
  have g0 : w.cell? ⟨g, 0, none⟩ = some (.bool false) := hg.cell 0
  have g1 : w.cell? ⟨g, 1, none⟩ = some (.int .u32 0) := hg.cell 1
  have f0 := hg.frozen 0
  have f1 := hg.frozen 1
  have gl := hg.lt
  have b1 : bits BinOp.and IntKind.u32 0 (bits BinOp.xor IntKind.u32 IntKind.u32.max 1) = 0 := by decide
  have b2 : (!Lib.hasSuffix [97] [10]) = true := by decide
  go_enter Tryz.func44, Tryz.ntmps44
  go_wp2_with fail
  refine (ended52 _ _ (by decide)).mono ?_
  rintro e w' ⟨rfl, rfl⟩
  go_wp2_with fail
  go_ret
  exact ⟨rfl, fun x hx hxg => (Below.heap_alloc _ _ x (by simpa [World.setCell] using hx)).trans ((Below.heap_setCell _ ⟨g, 0, none⟩ _ x hxg).trans (Below.heap_setCell w ⟨g, 1, none⟩ _ x hxg)), fun B hB hw => ((((Below.refl B w).setCell hB _).setCell hB _).alloc (by simpa using hw) _)⟩


/-- What follows hands back. -/
def FolRet (w : World) (e : Ending) (w' : World) : Prop := ∃ D, e = .returned (.tuple #[.slice (some ⟨D, 0, none⟩) 2 2, .bool true]) ∧ Blk w' D 3 #[.int .i64 0, .int .i64 1] ∧ w.heap.size ≤ D ∧ Below w.heap.size w w'

set_option maxRecDepth 100000 in
set_option maxHeartbeats 800000 in
theorem follows62 (ba oa ca E : Nat) (Ar : Option Addr) (cr : Nat) (w : World) (ha : Rd w (.slice (some ⟨ba, oa, none⟩) 2 ca) 1 2 [.int .i64 0, .int .i64 0]) (hr : Rd w (.slice Ar 1 cr) 3 1 rowL) (hE : Blk w E 3 #[.int .i64 0, .int .i64 0]) :
    Calls Tryz.prog 62 #[.agg #[.slice (some ⟨ba, oa, none⟩) 2 ca, .slice Ar 1 cr], .int .i64 1, .slice (some ⟨E, 0, none⟩) 2 2] w (FolRet w) := by
  obtain ⟨_, _, ea, lba, hca⟩ := ha.at (by omega)
  injection ea with ea
  injection ea with ea ea2 _
  subst ea
  subst ea2
  have a0 : w.cell? ⟨ba, oa, none⟩ = some (.int .i64 0) := hca 0 _ rfl
  have a1 : w.cell? ⟨ba, oa + 1, none⟩ = some (.int .i64 0) := hca 1 _ rfl
  have lE := hE.lt
  have e0 : w.cell? ⟨E, 0, none⟩ = some (.int .i64 0) := hE.cell 0
  have e1 : w.cell? ⟨E, 1, none⟩ = some (.int .i64 0) := hE.cell 1
  have HR := hide hr
  clear hca ha hr hE
  go_enter Tryz.func62, Tryz.ntmps62
  go_wp2_with fail
  refine (counts28_1 Ar cr _ (HR.out.alloc _)).mono ?_
  rintro e w1 ⟨D, rfl, hD, hwD, hb1⟩
  have HB := hide (((Below.refl w.heap.size w).alloc (Nat.le_refl _) (.cells #[.slice (some ⟨ba, oa, none⟩) 2 ca, .slice Ar 1 cr] 81)).trans (hb1.mono (by simp)))
  have HT := hide ((Blk.new w 81 #[.slice (some ⟨ba, oa, none⟩) 2 ca, .slice Ar 1 cr]).below hb1 (by simp))
  have HD := hide hD
  have hwD2 : w.heap.size + 1 ≤ D := by simpa using hwD
  have t0 : w1.cell? ⟨w.heap.size, 0, none⟩ = some (.slice (some ⟨ba, oa, none⟩) 2 ca) := HT.out.cell 0
  have b0 := (HB.out.cell (p := ⟨ba, oa, none⟩) lba).trans a0
  have b1 := (HB.out.cell (p := ⟨ba, oa + 1, none⟩) lba).trans a1
  have f0 := (HB.out.cell (p := ⟨E, 0, none⟩) lE).trans e0
  have f1 := (HB.out.cell (p := ⟨E, 1, none⟩) lE).trans e1
  have d0 : w1.cell? ⟨D, 0, none⟩ = some (.int .i64 0) := HD.out.cell 0
  have d1 : w1.cell? ⟨D, 1, none⟩ = some (.int .i64 1) := HD.out.cell 1
  have z0 := HD.out.frozen 0
  have z1 := HD.out.frozen 1
  have n1 : D ≠ E := by omega
  have n2 : E ≠ D := by omega
  have n3 : D ≠ ba := by omega
  have n4 : ba ≠ D := by omega
  clear hD hb1 hwD a0 a1 e0 e1
  go_wp2_with fail
  refine wp_loop_rounds 3 ?_
  rw [rounds_succ]
  go_wp2_with fail
  rw [rounds_succ]
  go_wp2_with fail
  rw [rounds_succ]
  go_wp2_with fail
  go_returns
  exact ⟨D, rfl, (HD.out.set_ 0 _).set_ 1 _, by omega, (HB.out.setCell (p := ⟨D, 0, none⟩) (by show w.heap.size ≤ D; omega) _).setCell (p := ⟨D, 1, none⟩) (by show w.heap.size ≤ D; omega) _⟩


theorem max40 (D : Nat) (w : World) (h : Blk w D 3 #[.int .i64 0, .int .i64 1]) : Calls Tryz.prog 40 #[.slice (some ⟨D, 0, none⟩) 2 2] w fun e w' => e = .returned (.int .i64 1) ∧ w = w' := by
  have h1 := Tryz.slices_Max_int D 0 2 2 [0, 1] w (by omega) (by simp) (by omega) (fun j hj => by
    rw [Nat.zero_add, h.cell]
    match j, hj with
    | 0, _ => rfl
    | 1, _ => rfl)
  exact h1.mono fun _ _ h2 => ⟨h2.1, h2.2.symm⟩
theorem max40_0 (D c : Nat) (o : Nat) (w : World) (h0 : w.cell? ⟨D, o, none⟩ = some (.int .i64 0)) (h1 : w.cell? ⟨D, o + 1, none⟩ = some (.int .i64 0)) : Calls Tryz.prog 40 #[.slice (some ⟨D, o, none⟩) 2 c] w fun e w' => e = .returned (.int .i64 0) ∧ w = w' := by
  have h2 := Tryz.slices_Max_int D o 2 c [0, 0] w (by omega) (by simp) (by omega) (fun j hj => by
    match j, hj with
    | 0, _ => exact h0
    | 1, _ => exact h1)
  exact h2.mono fun _ _ h2 => ⟨h2.1, h2.2.symm⟩

set_option maxRecDepth 100000 in
set_option maxHeartbeats 1600000 in
theorem well47 (Ah : Option Addr) (ch ba oa ca : Nat) (Ar : Option Addr) (cr : Nat) (w : World) (hh : Rd w (.slice Ah 1 ch) 2 1 [.slice (some ⟨ba, oa, none⟩) 2 ca, .slice Ar 1 cr]) (ha : Rd w (.slice (some ⟨ba, oa, none⟩) 2 ca) 1 2 [.int .i64 0, .int .i64 0]) (hr : Rd w (.slice Ar 1 cr) 3 1 rowL) :
    Calls Tryz.prog 47 #[.agg #[.string ⟨#[120]⟩, .bool false, .int .i64 1, .slice Ah 1 ch]] w fun e w' => e = .returned (.bool true) ∧ Below w.heap.size w w' := by
  obtain ⟨bh, oh, rfl, lbh, hch⟩ := hh.at (by omega)
  have h0 : w.cell? ⟨bh, oh, none⟩ = some (.slice (some ⟨ba, oa, none⟩) 2 ca) := hch 0 _ rfl
  have h1 : w.cell? ⟨bh, oh + 1, none⟩ = some (.slice Ar 1 cr) := hch 1 _ rfl
  obtain ⟨br, or_, rfl, lbr, hcr⟩ := hr.at (by omega)
  have r0 : w.cell? ⟨br, or_, none⟩ = some (.bool false) := hcr 0 _ rfl
  have r1 : w.cell? ⟨br, or_ + 1, none⟩ = some (.int .u32 1) := hcr 1 _ rfl
  have r2 : w.cell? ⟨br, or_ + 2, none⟩ = some (.string ⟨#[97]⟩) := hcr 2 _ rfl
  have HA := hide ha
  have HR := hide hr
  clear hch hcr hh ha hr
  have hmk := make22_2
  go_enter Tryz.func47, Tryz.ntmps47
  go_wp2_with fail
  obtain ⟨W1, hW1⟩ : ∃ W1, W1 = ((w.alloc (.cells #[.string ⟨#[120]⟩, .bool false, .int .i64 1, .slice (some ⟨bh, oh, none⟩) 1 ch] 30)).alloc (.cells #[.bool false, .int .u32 0] 104)).alloc (.cells #[.int .i64 0, .int .i64 0] 3) := ⟨_, rfl⟩
  have HB1 := hide (show Below w.heap.size w W1 by rw [hW1]; exact (((Below.refl w.heap.size w).alloc (Nat.le_refl _) _).alloc (by simp) _).alloc (by simp; omega) _)
  have HX := hide (show Blk W1 w.heap.size 30 _ by rw [hW1]; exact ((Blk.new w 30 #[.string ⟨#[120]⟩, .bool false, .int .i64 1, .slice (some ⟨bh, oh, none⟩) 1 ch]).alloc _).alloc _)
  have HE := hide (show Blk W1 (w.heap.size + 1) 104 #[.bool false, .int .u32 0] by
    have h := (Blk.new (w.alloc (.cells #[.string ⟨#[120]⟩, .bool false, .int .i64 1, .slice (some ⟨bh, oh, none⟩) 1 ch] 30)) 104 #[.bool false, .int .u32 0]).alloc (.cells #[.int .i64 0, .int .i64 0] 3)
    rw [← hW1] at h
    simpa using h)
  have HF := hide (show Blk W1 (w.heap.size + 1 + 1) 3 #[.int .i64 0, .int .i64 0] by
    have h := Blk.new ((w.alloc (.cells #[.string ⟨#[120]⟩, .bool false, .int .i64 1, .slice (some ⟨bh, oh, none⟩) 1 ch] 30)).alloc (.cells #[.bool false, .int .u32 0] 104)) 3 #[.int .i64 0, .int .i64 0]
    rw [← hW1] at h
    simpa using h)
  rw [← hW1]
  clear hW1
  obtain ⟨F, hF⟩ : ∃ F, F = w.heap.size + 1 + 1 := ⟨_, rfl⟩
  obtain ⟨E, hE⟩ : ∃ E, E = w.heap.size + 1 := ⟨_, rfl⟩
  obtain ⟨T, hT⟩ : ∃ T, T = w.heap.size := ⟨_, rfl⟩
  rw [← hF] at HF ⊢
  rw [← hE] at HE ⊢
  rw [← hT] at HX ⊢
  have hwE : w.heap.size ≤ E := by omega
  clear hF hE hT hmk
  have x2 : W1.cell? ⟨T, 2, none⟩ = some (.int .i64 1) := HX.out.cell 2
  have lT := HX.out.lt
  have lE := HE.out.lt
  have p0 := (HB1.out.cell (p := ⟨bh, oh, none⟩) lbh).trans h0
  have p1 := (HB1.out.cell (p := ⟨bh, oh + 1, none⟩) lbh).trans h1
  have lbh1 : bh < W1.heap.size := by have := HB1.out.size; omega
  have HA1 := hide (HA.out.below HB1.out (Nat.le_refl _))
  have HR1 := hide (HR.out.below HB1.out (Nat.le_refl _))
  clear h0 h1
  refine wp_loop_rounds 2 ?_
  rw [rounds_succ]
  go_wp2_with fail
  refine (follows62 ba oa ca F _ cr _ (HA1.out.alloc _) (HR1.out.alloc _) (HF.out.alloc _)).mono ?_
  rintro e w2 ⟨D, rfl, hD, hwD, hb2⟩
  have HB2 := hide (((Below.refl W1.heap.size W1).alloc (Nat.le_refl _) (.cells #[.slice (some ⟨ba, oa, none⟩) 2 ca, .slice (some ⟨br, or_, none⟩) 1 cr] 81)).trans (hb2.mono (by simp)))
  have HU := hide ((Blk.new W1 81 #[.slice (some ⟨ba, oa, none⟩) 2 ca, .slice (some ⟨br, or_, none⟩) 1 cr]).below hb2 (by simp))
  have HD := hide hD
  have u1 : w2.cell? ⟨W1.heap.size, 1, none⟩ = some (.slice (some ⟨br, or_, none⟩) 1 cr) := HU.out.cell 1
  have HB02 := hide (HB1.out.trans (HB2.out.mono HB1.out.size))
  have s0 := (HB02.out.cell (p := ⟨br, or_, none⟩) lbr).trans r0
  have s1 := (HB02.out.cell (p := ⟨br, or_ + 1, none⟩) lbr).trans r1
  have s2 := (HB02.out.cell (p := ⟨br, or_ + 2, none⟩) lbr).trans r2
  have HE2 := hide (HE.out.below HB2.out lE)
  have lU := HU.out.lt
  have zz := HB02.out.size
  clear hb2 hD hwD r0 r1 r2 p0 p1 x2
  go_wp2_with fail
  refine wp_loop_rounds 2 ?_
  rw [rounds_succ]
  go_wp2_with fail
  refine (single43 _).mono ?_
  rintro e w3 ⟨rfl, hb3⟩
  have HB3 := hide (((Below.refl w2.heap.size w2).alloc (Nat.le_refl _) (.cells #[.bool false, .int .u32 1, .string ⟨#[97]⟩] 79)).trans (hb3.mono (by simp)))
  have HV := hide ((Blk.new w2 79 #[.bool false, .int .u32 1, .string ⟨#[97]⟩]).below hb3 (by simp))
  have v0 : w3.cell? ⟨w2.heap.size, 0, none⟩ = some (.bool false) := HV.out.cell 0
  have v1 : w3.cell? ⟨w2.heap.size, 1, none⟩ = some (.int .u32 1) := HV.out.cell 1
  have v2 : w3.cell? ⟨w2.heap.size, 2, none⟩ = some (.string ⟨#[97]⟩) := HV.out.cell 2
  have HE3 := hide (HE2.out.below HB3.out HE2.out.lt)
  have HD3 := hide (HD.out.below HB3.out HD.out.lt)
  have HB03 := hide (HB02.out.trans (HB3.out.mono zz))
  clear hb3 s0 s1 s2 u1
  go_wp2_with fail
  refine (add44x _ _ HE3.out).mono ?_
  rintro e w4 ⟨rfl, hk4, hb4⟩
  have HD4 := hide (show Blk w4 D 3 #[.int .i64 0, .int .i64 1] from (hk4 D HD3.out.lt (by rintro rfl; have h := HD3.out; have h2 := HE3.out; unfold Blk at h h2; rw [h] at h2; cases h2)).trans HD3.out)
  have HB4 := hide (HB03.out.trans (hb4 w.heap.size hwE HB03.out.size))
  clear hk4 hb4
  go_wp2_with fail
  rw [rounds_succ]
  go_wp2_with fail
  rw [rounds_succ]
  go_wp2_with fail
  refine (max40 D _ HD4.out).mono ?_
  rintro e w' ⟨rfl, rfl⟩
  go_wp2_with fail
  go_ret
  exact ⟨rfl, HB4.out⟩
end Go.Proofs.YtbjbcfiieacamaaGreatDoor
