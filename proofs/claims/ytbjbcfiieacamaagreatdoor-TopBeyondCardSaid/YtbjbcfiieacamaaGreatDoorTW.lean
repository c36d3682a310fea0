import Derived.Test.YtbjbcfiieacamaaGreatDoorTV
namespace Go.Proofs.YtbjbcfiieacamaaGreatDoor
open Go.RowKit
set_option linter.unusedVariables false

def TabRet (w : World) (e : Ending) (w' : World) : Prop := ∃ A c, e = .returned (.tuple #[.agg #[.int .i64 1, .slice A 1 c], .int .i64 0]) ∧ Rd w' (.slice A 1 c) 3 1 rowL ∧ Below w.heap.size w w'

set_option maxRecDepth 100000 in
set_option maxHeartbeats 400000 in
theorem table21 (Ah : Option Addr) (ch ba oa ca : Nat) (Ar : Option Addr) (cr : Nat) (w : World) (hh : Rd w (.slice Ah 1 ch) 2 1 [.slice (some ⟨ba, oa, none⟩) 2 ca, .slice Ar 1 cr]) (ha : Rd w (.slice (some ⟨ba, oa, none⟩) 2 ca) 1 2 [.int .i64 0, .int .i64 0]) (hr : Rd w (.slice Ar 1 cr) 3 1 rowL) :
    Calls Tryz.prog 21 #[.agg #[.string ⟨#[120]⟩, .bool false, .int .i64 1, .slice Ah 1 ch]] w (TabRet w) := by
  obtain ⟨bh, oh, rfl, lbh, hch⟩ := hh.at (by omega)
  have h0 : w.cell? ⟨bh, oh, none⟩ = some (.slice (some ⟨ba, oa, none⟩) 2 ca) := hch 0 _ rfl
  have h1 : w.cell? ⟨bh, oh + 1, none⟩ = some (.slice Ar 1 cr) := hch 1 _ rfl
  obtain ⟨bx, ox, ex, lba, hca⟩ := ha.at (by omega)
  injection ex with ex
  injection ex with ex1 ex2
  subst ex1
  subst ex2
  have a0 : w.cell? ⟨ba, oa, none⟩ = some (.int .i64 0) := hca 0 _ rfl
  have a1 : w.cell? ⟨ba, oa + 1, none⟩ = some (.int .i64 0) := hca 1 _ rfl
  have HH := hide hh
  have HA := hide ha
  have HR := hide hr
  clear hch hca hh ha hr
  go_enter Tryz.func21, Tryz.ntmps21
  go_wp2_with fail
  refine (check31 _ _ _ _ _ _ _ _ ((HH.out.alloc _).alloc _) ((HA.out.alloc _).alloc _) ((HR.out.alloc _).alloc _)).mono ?_
  rintro e w1 ⟨rfl, hb1⟩
  have HC := hide (((Blk.new w 30 #[.string ⟨#[120]⟩, .bool false, .int .i64 1, .slice (some ⟨bh, oh, none⟩) 1 ch]).alloc (.cells #[.int .i64 0, .slice none 0 0] 37)).below hb1 (by simp; omega))
  have HO := hide ((Blk.new (w.alloc (.cells #[.string ⟨#[120]⟩, .bool false, .int .i64 1, .slice (some ⟨bh, oh, none⟩) 1 ch] 30)) 37 #[.int .i64 0, .slice none 0 0]).below hb1 (by simp))
  have HB := hide ((((Below.refl w.heap.size w).alloc (Nat.le_refl _) (.cells #[.string ⟨#[120]⟩, .bool false, .int .i64 1, .slice (some ⟨bh, oh, none⟩) 1 ch] 30)).alloc (by simp) (.cells #[.int .i64 0, .slice none 0 0] 37)).trans (hb1.mono (by simp; omega)))
  rw [show (w.alloc (.cells #[.string ⟨#[120]⟩, .bool false, .int .i64 1, .slice (some ⟨bh, oh, none⟩) 1 ch] 30)).heap.size = w.heap.size + 1 by simp] at HO
  obtain ⟨O, hO⟩ : ∃ O, O = w.heap.size + 1 := ⟨_, rfl⟩
  obtain ⟨C, hC⟩ : ∃ C, C = w.heap.size := ⟨_, rfl⟩
  rw [← hO] at HO ⊢
  rw [← hC] at HC ⊢
  have hwC : w.heap.size ≤ C := by omega
  have hwO : w.heap.size ≤ O := by omega
  have x0 : w1.cell? ⟨bh, oh, none⟩ = some (.slice (some ⟨ba, oa, none⟩) 2 ca) := (HB.out.cell (p := ⟨bh, oh, none⟩) lbh).trans h0
  have x1 : w1.cell? ⟨bh, oh + 1, none⟩ = some (.slice Ar 1 cr) := (HB.out.cell (p := ⟨bh, oh + 1, none⟩) lbh).trans h1
  have y0 : w1.cell? ⟨ba, oa, none⟩ = some (.int .i64 0) := (HB.out.cell (p := ⟨ba, oa, none⟩) lba).trans a0
  have y1 : w1.cell? ⟨ba, oa + 1, none⟩ = some (.int .i64 0) := (HB.out.cell (p := ⟨ba, oa + 1, none⟩) lba).trans a1
  have q0 : w1.cell? ⟨C, 0, none⟩ = some (.string ⟨#[120]⟩) := HC.out.cell 0
  have q1 : w1.cell? ⟨C, 1, none⟩ = some (.bool false) := HC.out.cell 1
  have q2 : w1.cell? ⟨C, 2, none⟩ = some (.int .i64 1) := HC.out.cell 2
  have q3 : w1.cell? ⟨C, 3, none⟩ = some (.slice (some ⟨bh, oh, none⟩) 1 ch) := HC.out.cell 3
  have lb1 : bh < w1.heap.size := Nat.lt_of_lt_of_le lbh HB.out.size
  have la1 : ba < w1.heap.size := Nat.lt_of_lt_of_le lba HB.out.size
  have lC := HC.out.lt
  have lO := HO.out.lt
  have HR1 := hide (HR.out.below HB.out (Nat.le_refl _))
  clear hb1 hO hC h0 h1 a0 a1 HH HA HR
  go_wp2_with fail
  refine (max40_0 ba ca oa _ (by rw [World.cell?_alloc_lt _ _ _ la1]; exact y0) (by rw [World.cell?_alloc_lt _ _ _ la1]; exact y1)).mono ?_
  rintro e w2 ⟨rfl, rfl⟩
  go_wp2_with fail
  refine (clone30 _ _ _ (HR1.out.alloc _)).mono ?_
  rintro e w3 ⟨Az, cz, rfl, hz, hb3, hfr⟩
  obtain ⟨zb, zo, rfl, _, _⟩ := hz.at (by omega)
  have fz := hfr zb zo rfl
  rw [show (w1.alloc (.cells #[.int .i64 1, .slice none 0 0] 37)).heap.size = w1.heap.size + 1 by simp] at fz
  clear hfr
  have HZ := hide hz
  have HV3 := hide ((Blk.new w1 37 #[.int .i64 1, .slice none 0 0]).below hb3 (by simp))
  have HO3 := hide ((HO.out.alloc (.cells #[.int .i64 1, .slice none 0 0] 37)).below hb3 (by simp; omega))
  have HB3 := hide ((HB.out.alloc HB.out.size (.cells #[.int .i64 1, .slice none 0 0] 37)).trans (hb3.mono (Nat.le_trans HB.out.size (by simp))))
  obtain ⟨V, hV⟩ : ∃ V, V = w1.heap.size := ⟨_, rfl⟩
  rw [← hV] at HV3 ⊢
  have p1 : V ≠ O := by omega
  have p2 : O ≠ V := by omega
  have p3 : zb ≠ V := by omega
  have p4 : zb ≠ O := by omega
  have hwV : w.heap.size ≤ V := by have := HB.out.size; omega
  have v0 : w3.cell? ⟨V, 0, none⟩ = some (.int .i64 1) := HV3.out.cell 0
  have v1 : w3.cell? ⟨V, 1, none⟩ = some (.slice none 0 0) := HV3.out.cell 1
  have vf := HV3.out.frozen 1
  have z0 : w3.cell? ⟨O, 0, none⟩ = some (.int .i64 0) := HO3.out.cell 0
  have z1 : w3.cell? ⟨O, 1, none⟩ = some (.slice none 0 0) := HO3.out.cell 1
  have of0 := HO3.out.frozen 0
  have of1 := HO3.out.frozen 1
  clear hV hz hb3 x0 x1 y0 y1 q0 q1 q2 q3 lb1 la1 lC lO HC HO HR1 fz HB
  go_wp2_with fail
  obtain ⟨wF, hF⟩ : ∃ wF, wF = (((w3.setCell ⟨V, 1, none⟩ (.slice (some ⟨zb, zo, none⟩) 1 cz)).setCell ⟨O, 0, none⟩ (.int .i64 1)).setCell ⟨O, 1, none⟩ (.slice (some ⟨zb, zo, none⟩) 1 cz)) := ⟨_, rfl⟩
  rw [← hF]
  have HOF : Blk wF O 37 #[.int .i64 1, .slice (some ⟨zb, zo, none⟩) 1 cz] := by rw [hF]; exact ((HO3.out.far (p := ⟨V, 1, none⟩) p2 _).set_ 0 _).set_ 1 _
  have sF : w3.heap.size ≤ wF.heap.size := by rw [hF]; simp [World.setCell]
  have kF : wF.heap[zb]? = w3.heap[zb]? := by
    rw [hF, Below.heap_setCell _ ⟨O, 1, none⟩ _ zb p4, Below.heap_setCell _ ⟨O, 0, none⟩ _ zb p4, Below.heap_setCell _ ⟨V, 1, none⟩ _ zb p3]
  have BF : Below w.heap.size w wF := by
    rw [hF]; exact ((HB3.out.setCell (p := ⟨V, 1, none⟩) hwV _).setCell (p := ⟨O, 0, none⟩) hwO _).setCell (p := ⟨O, 1, none⟩) hwO _
  have n0 : wF.cell? ⟨O, 0, none⟩ = some (.int .i64 1) := HOF.cell 0
  have n1 : wF.cell? ⟨O, 1, none⟩ = some (.slice (some ⟨zb, zo, none⟩) 1 cz) := HOF.cell 1
  clear hF
  refine bodyPost_ret (v := .tuple #[.agg #[.int .i64 1, .slice (some ⟨zb, zo, none⟩) 1 cz], .int .i64 0]) (by simp [results, Tryz.results21, go_sem, n0, n1]) rfl ⟨some ⟨zb, zo, none⟩, cz, rfl, HZ.out.stay sF (fun _ => kF), BF⟩
end Go.Proofs.YtbjbcfiieacamaaGreatDoor
