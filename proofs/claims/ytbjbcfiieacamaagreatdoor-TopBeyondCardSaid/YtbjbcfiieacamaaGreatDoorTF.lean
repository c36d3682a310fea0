import Derived.Test.YtbjbcfiieacamaaGreatDoorTE
namespace Go.Proofs.YtbjbcfiieacamaaGreatDoor
open Go.RowKit
set_option linter.unusedVariables false

/-- What add leaves: the mark set, the gap as it was. -/
def AddRet (K p0 : Nat) (w : World) (e : Ending) (w' : World) : Prop := e = .returned (.int .i64 0) ∧ Blk w' K 77 #[.int .u32 1] ∧ Blk w' p0 22 #[.slice none 0 0] ∧ Two_ K p0 w w' ∧ ∀ B, B ≤ K → B ≤ p0 → B ≤ w.heap.size → Below B w w'

set_option maxRecDepth 100000 in
set_option maxHeartbeats 1600000 in
theorem add19 (w : World) (L K Gp p0 p1 bb oo c cg : Nat) (N : Value) (h1 : 1 ≤ c) (hL : Blk w L 62 #[N, .slice (some ⟨bb, oo, none⟩) 1 c, .slice (some ⟨K, 0, none⟩) 1 1, .slice (some ⟨Gp, 0, none⟩) 2 cg, .int .i64 1, .slice none 0 0]) (hK : Blk w K 77 #[.int .u32 0])
    (hG0 : w.cell? ⟨Gp, 0, none⟩ = some (.slice (some ⟨p0, 0, none⟩) 1 1)) (hGl : Gp < w.heap.size) (hGK : Gp ≠ K) (hp0 : Blk w p0 22 #[.slice none 0 0]) :
    Calls Tryz.prog 19 #[.pointer (some ⟨L, 0, none⟩), .int .i64 0, .slice none 0 0] w (AddRet K p0 w) := by
  have l1 : w.cell? ⟨L, 1, none⟩ = some (.slice (some ⟨bb, oo, none⟩) 1 c) := hL.cell 1
  have l2 : w.cell? ⟨L, 2, none⟩ = some (.slice (some ⟨K, 0, none⟩) 1 1) := hL.cell 2
  have l3 : w.cell? ⟨L, 3, none⟩ = some (.slice (some ⟨Gp, 0, none⟩) 2 cg) := hL.cell 3
  have ll := hL.lt
  have lk := hK.lt
  have lp := hp0.lt
  have nLK : L ≠ K := by rintro rfl; unfold Blk at hL hK; rw [hK] at hL; cases hL
  have nKp : K ≠ p0 := by rintro rfl; unfold Blk at hp0 hK; rw [hK] at hp0; cases hp0
  have HK := hide hK
  have HP := hide hp0
  clear hL hK hp0
  go_enter Tryz.func19, Tryz.ntmps19
  go_wp2_with fail
  refine (script38_1 _ _ _ h1 _).mono ?_
  rintro e w1 ⟨A, cs, rfl, hr, hb⟩
  obtain ⟨b, off, rfl, hbl, hc⟩ := hr.at (by omega)
  have q0 : w1.cell? ⟨b, off, none⟩ = some (.int .i64 0) := hc 0 _ rfl
  have q1 : w1.cell? ⟨b, off + 1, none⟩ = some (.int .i64 0) := hc 1 _ rfl
  have q2 : w1.cell? ⟨b, off + 2, none⟩ = some (.int .i64 0) := hc 2 _ rfl
  have q3 : w1.cell? ⟨b, off + 3, none⟩ = some (.int .i64 1) := hc 3 _ rfl
  have m1 := (hb.cell (p := ⟨L, 1, none⟩) ll).trans l1
  have m2 := (hb.cell (p := ⟨L, 2, none⟩) ll).trans l2
  have m3 := (hb.cell (p := ⟨L, 3, none⟩) ll).trans l3
  have g0 := (hb.cell (p := ⟨Gp, 0, none⟩) hGl).trans hG0
  have HK1 := hide (HK.out.below hb lk)
  have HP1 := hide (HP.out.below hb lp)
  have k0 : w1.cell? ⟨K, 0, none⟩ = some (.int .u32 0) := HK1.out.cell 0
  have k1 := HK1.out.frozen 0
  have p0_ : w1.cell? ⟨p0, 0, none⟩ = some (.slice none 0 0) := HP1.out.cell 0
  have p1_ := HP1.out.frozen 0
  have sz := hb.size
  have HB := hide hb
  have ll1 : L < w1.heap.size := by omega
  have lk1 : K < w1.heap.size := by omega
  have lp1 : p0 < w1.heap.size := by omega
  have lg1 : Gp < w1.heap.size := by omega
  clear hc hr hb l1 l2 l3 hG0
  go_wp2_with fail
  refine wp_loop_rounds 2 ?_
  rw [rounds_succ]
  go_wp2_with fail
  refine wp_loop_rounds 2 ?_
  rw [rounds_succ]
  go_wp2_with fail
  go_region
  go_wp2_with fail
  rw [rounds_succ]
  go_wp2_with fail
  have hv : bits BinOp.or IntKind.u32 0 1 = 1 := by decide
  rw [hv]
  obtain ⟨w2, hw2⟩ : ∃ w2, w2 = w1.setCell ⟨K, 0, none⟩ (.int .u32 1) := ⟨_, rfl⟩
  have s2 : w2.heap.size = w1.heap.size := by rw [hw2]; simp [World.setCell]
  have hk2 : ∀ x, x ≠ K → w2.heap[x]? = w1.heap[x]? := fun x hx => by rw [hw2]; exact Below.heap_setCell w1 ⟨K, 0, none⟩ _ x hx
  have n3 : w2.cell? ⟨L, 3, none⟩ = some (.slice (some ⟨Gp, 0, none⟩) 2 cg) := (World.cell?_of_block (hk2 L nLK)).trans m3
  have ng : w2.cell? ⟨Gp, 0, none⟩ = some (.slice (some ⟨p0, 0, none⟩) 1 1) := (World.cell?_of_block (hk2 Gp hGK)).trans g0
  have HP2 := hide (show Blk w2 p0 22 _ from (hk2 p0 (Ne.symm nKp)).trans HP1.out)
  have np : w2.cell? ⟨p0, 0, none⟩ = some (.slice none 0 0) := HP2.out.cell 0
  have nz := HP2.out.frozen 0
  have HK2 := hide (show Blk w2 K 77 #[.int .u32 1] from by rw [hw2]; exact HK1.out.set_ 0 _)
  rw [← hw2]
  have HH2 := hide hk2
  have HB2 := hide (show ∀ B, B ≤ K → Below B w1 w2 from fun B hB => by rw [hw2]; exact (Below.refl _ _).setCell (p := ⟨K, 0, none⟩) hB _)
  rw [← s2] at ll1 lk1 lp1 lg1 ⊢
  have S2 := hide s2
  clear hw2 hk2 hv m1 m2 m3 g0 k0 k1 p0_ p1_ q0 q1 q2 q3 s2
  go_region
  go_wp2_with fail
  rw [rounds_succ]
  go_wp2_with fail
  go_ret
  have HS2 := S2.out
  have hsz : (w2.setCell ⟨p0, 0, none⟩ (.slice none 0 0)).heap.size = w2.heap.size := by simp [World.setCell]
  refine ⟨rfl, (HK2.out.far (p := ⟨p0, 0, none⟩) nKp _).alloc _, (HP2.out.set_ 0 _).alloc _, fun x hx hxK hxp => ?_, fun B hBK hBp hBw => ?_⟩
  · exact (Below.heap_alloc _ _ x (by rw [hsz]; omega)).trans ((Below.heap_setCell w2 ⟨p0, 0, none⟩ _ x hxp).trans ((HH2.out x hxK).trans (HB.out.block x hx)))
  · exact ((((HB.out.mono hBw).trans (HB2.out B hBK)).setCell (p := ⟨p0, 0, none⟩) hBp _).alloc (by rw [hsz]; omega) _).drew.drew
end Go.Proofs.YtbjbcfiieacamaaGreatDoor
