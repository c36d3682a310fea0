import Derived.Test.YtbjbcfiieacamaaGreatDoorTP
namespace Go.Proofs.YtbjbcfiieacamaaGreatDoor
open Go.RowKit
set_option linter.unusedVariables false

set_option maxRecDepth 100000 in
set_option maxHeartbeats 1600000 in
theorem size48 (Ah : Option Addr) (ch ba oa ca : Nat) (Ar : Option Addr) (cr : Nat) (w : World) (hh : Rd w (.slice Ah 1 ch) 2 1 [.slice (some ⟨ba, oa, none⟩) 2 ca, .slice Ar 1 cr]) (ha : Rd w (.slice (some ⟨ba, oa, none⟩) 2 ca) 1 2 [.int .i64 0, .int .i64 0]) (hr : Rd w (.slice Ar 1 cr) 3 1 rowL) :
    Calls Tryz.prog 48 #[.agg #[.string ⟨#[120]⟩, .bool false, .int .i64 1, .slice Ah 1 ch]] w fun e w' => e = .returned (.int .i64 73) ∧ Below w.heap.size w w' := by
  obtain ⟨bh, oh, rfl, lbh, hch⟩ := hh.at (by omega)
  have h0 : w.cell? ⟨bh, oh, none⟩ = some (.slice (some ⟨ba, oa, none⟩) 2 ca) := hch 0 _ rfl
  have h1 : w.cell? ⟨bh, oh + 1, none⟩ = some (.slice Ar 1 cr) := hch 1 _ rfl
  obtain ⟨br, or_, rfl, lbr, hcr⟩ := hr.at (by omega)
  have r0 : w.cell? ⟨br, or_, none⟩ = some (.bool false) := hcr 0 _ rfl
  have r1 : w.cell? ⟨br, or_ + 1, none⟩ = some (.int .u32 1) := hcr 1 _ rfl
  have r2 : w.cell? ⟨br, or_ + 2, none⟩ = some (.string ⟨#[97]⟩) := hcr 2 _ rfl
  have HA := hide ha
  have HR := hide hr
  clear hch hcr hh ha hr
  go_enter Tryz.func48, Tryz.ntmps48
  go_wp2_with fail
  refine (title63 _ _).mono ?_
  rintro e w1 ⟨⟨st, rfl, hst⟩, hb1⟩
  have HB1 := hide (((Below.refl w.heap.size w).alloc (Nat.le_refl _) (.cells #[.string ⟨#[120]⟩, .bool false, .int .i64 1, .slice (some ⟨bh, oh, none⟩) 1 ch] 30)).trans (hb1.mono (by simp)))
  have HX := hide ((Blk.new w 30 #[.string ⟨#[120]⟩, .bool false, .int .i64 1, .slice (some ⟨bh, oh, none⟩) 1 ch]).below hb1 (by simp))
  have x2 : w1.cell? ⟨w.heap.size, 2, none⟩ = some (.int .i64 1) := HX.out.cell 2
  have x3 : w1.cell? ⟨w.heap.size, 3, none⟩ = some (.slice (some ⟨bh, oh, none⟩) 1 ch) := HX.out.cell 3
  have lX := HX.out.lt
  have p0 := (HB1.out.cell (p := ⟨bh, oh, none⟩) lbh).trans h0
  have p1 := (HB1.out.cell (p := ⟨bh, oh + 1, none⟩) lbh).trans h1
  have lbh1 : bh < w1.heap.size := by have := HB1.out.size; omega
  have HA1 := hide (HA.out.below HB1.out (Nat.le_refl _))
  have HR1 := hide (HR.out.below HB1.out (Nat.le_refl _))
  clear hb1 h0 h1
  go_wp2_with fail
  refine wp_loop_rounds 2 ?_
  rw [rounds_succ]
  go_wp2_with fail
  refine (header64 ba oa ca _ cr _ (HA1.out.alloc _) (HR1.out.alloc _)).mono ?_
  rintro e w2 ⟨⟨sh, rfl, hsh⟩, hb2⟩
  have HB2 := hide (((Below.refl w1.heap.size w1).alloc (Nat.le_refl _) (.cells #[.slice (some ⟨ba, oa, none⟩) 2 ca, .slice (some ⟨br, or_, none⟩) 1 cr] 81)).trans (hb2.mono (by simp)))
  have HU := hide ((Blk.new w1 81 #[.slice (some ⟨ba, oa, none⟩) 2 ca, .slice (some ⟨br, or_, none⟩) 1 cr]).below hb2 (by simp))
  have u1 : w2.cell? ⟨w1.heap.size, 1, none⟩ = some (.slice (some ⟨br, or_, none⟩) 1 cr) := HU.out.cell 1
  have HB02 := hide (HB1.out.trans (HB2.out.mono HB1.out.size))
  have s0 := (HB02.out.cell (p := ⟨br, or_, none⟩) lbr).trans r0
  have s1 := (HB02.out.cell (p := ⟨br, or_ + 1, none⟩) lbr).trans r1
  have s2 := (HB02.out.cell (p := ⟨br, or_ + 2, none⟩) lbr).trans r2
  have y2 : w2.cell? ⟨w.heap.size, 2, none⟩ = some (.int .i64 1) := (HB2.out.cell (p := ⟨w.heap.size, 2, none⟩) lX).trans x2
  have lU := HU.out.lt
  have zz := HB02.out.size
  have lX2 : w.heap.size < w2.heap.size := by have := HB2.out.size; omega
  clear hb2 r0 r1 r2 p0 p1 x2 x3
  go_wp2_with fail
  refine wp_loop_rounds 2 ?_
  rw [rounds_succ]
  go_wp2_with fail
  refine (ended52 _ _ (by decide)).mono ?_
  rintro e w' ⟨rfl, rfl⟩
  rw [show Lib.hasSuffix (⟨#[97]⟩ : ByteArray).data.toList [10] = false by decide]
  go_wp2_with fail
  rw [rounds_succ]
  go_wp2_with fail
  rw [rounds_succ]
  go_wp2_with fail
  go_ret
  exact ⟨rfl, HB02.out.alloc zz _⟩

set_option maxRecDepth 100000 in
set_option maxHeartbeats 1600000 in
theorem check31 (Ah : Option Addr) (ch ba oa ca : Nat) (Ar : Option Addr) (cr : Nat) (w : World) (hh : Rd w (.slice Ah 1 ch) 2 1 [.slice (some ⟨ba, oa, none⟩) 2 ca, .slice Ar 1 cr]) (ha : Rd w (.slice (some ⟨ba, oa, none⟩) 2 ca) 1 2 [.int .i64 0, .int .i64 0]) (hr : Rd w (.slice Ar 1 cr) 3 1 rowL) :
    Calls Tryz.prog 31 #[.agg #[.string ⟨#[120]⟩, .bool false, .int .i64 1, .slice Ah 1 ch]] w fun e w' => e = .returned (.int .i64 0) ∧ Below w.heap.size w w' := by
  have HH := hide hh
  have HA := hide ha
  have HR := hide hr
  obtain ⟨bh, oh, rfl, lbh, _⟩ := hh.at (by omega)
  clear hh ha hr
  go_enter Tryz.func31, Tryz.ntmps31
  go_wp2_with fail
  refine (named13 _).mono ?_
  rintro e w' ⟨rfl, rfl⟩
  obtain ⟨X, hX⟩ : ∃ X, X = w.alloc (.cells #[.string ⟨#[120]⟩, .bool false, .int .i64 1, .slice (some ⟨bh, oh, none⟩) 1 ch] 30) := ⟨_, rfl⟩
  have HB0 := hide (show Below w.heap.size w X by rw [hX]; exact (Below.refl _ _).alloc (Nat.le_refl _) _)
  have HX0 := hide (show Blk X w.heap.size 30 #[.string ⟨#[120]⟩, .bool false, .int .i64 1, .slice (some ⟨bh, oh, none⟩) 1 ch] by rw [hX]; exact Blk.new w 30 _)
  rw [← hX]
  clear hX
  obtain ⟨T, hT⟩ : ∃ T, T = w.heap.size := ⟨_, rfl⟩
  rw [← hT] at HX0 ⊢
  clear hT
  have cells := fun (Y : World) (hY : Blk Y T 30 #[.string ⟨#[120]⟩, .bool false, .int .i64 1, .slice (some ⟨bh, oh, none⟩) 1 ch]) => (show Y.cell? ⟨T, 0, none⟩ = some (.string ⟨#[120]⟩) ∧ Y.cell? ⟨T, 1, none⟩ = some (.bool false) ∧ Y.cell? ⟨T, 2, none⟩ = some (.int .i64 1) ∧ Y.cell? ⟨T, 3, none⟩ = some (.slice (some ⟨bh, oh, none⟩) 1 ch) from ⟨hY.cell 0, hY.cell 1, hY.cell 2, hY.cell 3⟩)
  have CELLS := hide cells
  obtain ⟨x0, x1, x2, x3⟩ := cells X HX0.out
  clear cells
  go_wp2_with fail
  refine (marked46 _ ch ba oa ca Ar cr _ (HH.out.below HB0.out (Nat.le_refl _)) (HA.out.below HB0.out (Nat.le_refl _)) (HR.out.below HB0.out (Nat.le_refl _))).mono ?_
  rintro e w1 ⟨rfl, hb1⟩
  have HB1 := hide (HB0.out.trans (hb1.mono HB0.out.size))
  have HX1 := hide (HX0.out.below hb1 HX0.out.lt)
  clear x0 x1 x2 x3 hb1
  obtain ⟨x0, x1, x2, x3⟩ := CELLS.out w1 HX1.out
  go_wp2_with fail
  refine (well47 _ ch ba oa ca Ar cr _ (HH.out.below HB1.out (Nat.le_refl _)) (HA.out.below HB1.out (Nat.le_refl _)) (HR.out.below HB1.out (Nat.le_refl _))).mono ?_
  rintro e w2 ⟨rfl, hb2⟩
  have HB2 := hide (HB1.out.trans (hb2.mono HB1.out.size))
  have HX2 := hide (HX1.out.below hb2 HX1.out.lt)
  clear x0 x1 x2 x3 hb2
  obtain ⟨x0, x1, x2, x3⟩ := CELLS.out w2 HX2.out
  go_wp2_with fail
  refine (size48 _ ch ba oa ca Ar cr _ (HH.out.below HB2.out (Nat.le_refl _)) (HA.out.below HB2.out (Nat.le_refl _)) (HR.out.below HB2.out (Nat.le_refl _))).mono ?_
  rintro e w3 ⟨rfl, hb3⟩
  have HB3 := hide (HB2.out.trans (hb3.mono HB2.out.size))
  clear hb3
  go_wp2_with fail
  go_ret
  exact ⟨rfl, HB3.out⟩
end Go.Proofs.YtbjbcfiieacamaaGreatDoor
