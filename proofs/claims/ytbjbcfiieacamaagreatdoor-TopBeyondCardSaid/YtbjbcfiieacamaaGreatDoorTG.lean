import Derived.Test.YtbjbcfiieacamaaGreatDoorTF
namespace Go.Proofs.YtbjbcfiieacamaaGreatDoor
open Go.RowKit
set_option linter.unusedVariables false

abbrev rowCells : List Value := [.bool false, .int .u32 1, .string ⟨#[97]⟩]
def WeaveRet (L : Nat) (N Ln Kn Gn : Value) (w : World) (e : Ending) (w' : World) : Prop := e = .returned (.int .i64 0) ∧ ∃ A c, Blk w' L 62 #[N, Ln, Kn, Gn, .int .i64 1, .slice A 1 c] ∧ Rd w' (.slice A 1 c) 3 1 rowCells ∧ (∀ b o, A = some ⟨b, o, none⟩ → w.heap.size ≤ b) ∧ ∀ B, B ≤ L → B ≤ w.heap.size → Below B w w'

set_option maxRecDepth 100000 in
set_option maxHeartbeats 1600000 in
theorem weave20 (w : World) (L K Gp p0 p1 bn on cn bb oo cb cg : Nat)
    (hL : Blk w L 62 #[.slice (some ⟨bn, on, none⟩) 1 cn, .slice (some ⟨bb, oo, none⟩) 1 cb, .slice (some ⟨K, 0, none⟩) 1 1, .slice (some ⟨Gp, 0, none⟩) 2 cg, .int .i64 1, .slice none 0 0]) (hK : Blk w K 77 #[.int .u32 1])
    (hN : w.cell? ⟨bn, on, none⟩ = some (.string ⟨#[97]⟩)) (hbn : bn < w.heap.size) (hLn : w.cell? ⟨bb, oo, none⟩ = some (.int .i64 0)) (hbb : bb < w.heap.size)
    (hG0 : w.cell? ⟨Gp, 0, none⟩ = some (.slice (some ⟨p0, 0, none⟩) 1 1)) (hG1 : w.cell? ⟨Gp, 1, none⟩ = some (.slice (some ⟨p1, 0, none⟩) 1 1)) (hGl : Gp < w.heap.size) (hGL : Gp ≠ L) (hp0 : Blk w p0 22 #[.slice none 0 0]) (hp1 : Blk w p1 22 #[.slice none 0 0]) :
    Calls Tryz.prog 20 #[.pointer (some ⟨L, 0, none⟩)] w (WeaveRet L (.slice (some ⟨bn, on, none⟩) 1 cn) (.slice (some ⟨bb, oo, none⟩) 1 cb) (.slice (some ⟨K, 0, none⟩) 1 1) (.slice (some ⟨Gp, 0, none⟩) 2 cg) w) := by
  have l3 : w.cell? ⟨L, 3, none⟩ = some (.slice (some ⟨Gp, 0, none⟩) 2 cg) := hL.cell 3
  have ll := hL.lt
  have lk := hK.lt
  have lp := hp0.lt
  have lq := hp1.lt
  have nLp : p1 ≠ L := by rintro rfl; unfold Blk at hL hp1; rw [hp1] at hL; cases hL
  have HL := hide hL
  have HK := hide hK
  have HP := hide (hp0.rd (cs := [.slice none 0 0]) (size := 1) (n := 1) (cap := 1) rfl (Nat.le_refl _) (by decide))
  have HQ := hide hp1
  clear hL hK hp0 hp1
  go_enter Tryz.func20, Tryz.ntmps20
  go_wp2_with fail
  refine wp_loop_rounds 3 ?_
  rw [rounds_succ]
  go_wp2_with fail
  refine (coal39 _ _ _ HP.out).mono ?_
  rintro e w1 ⟨rfl, hb⟩
  have HL1 := hide (HL.out.below hb ll)
  have m1 : w1.cell? ⟨L, 1, none⟩ = some (.slice (some ⟨bb, oo, none⟩) 1 cb) := HL1.out.cell 1
  have m0 : w1.cell? ⟨L, 0, none⟩ = some (.slice (some ⟨bn, on, none⟩) 1 cn) := HL1.out.cell 0
  have m2 : w1.cell? ⟨L, 2, none⟩ = some (.slice (some ⟨K, 0, none⟩) 1 1) := HL1.out.cell 2
  have m5 : w1.cell? ⟨L, 5, none⟩ = some (.slice none 0 0) := HL1.out.cell 5
  have k0 : w1.cell? ⟨K, 0, none⟩ = some (.int .u32 1) := (HK.out.below hb lk).cell 0
  have n0 := (hb.cell (p := ⟨bn, on, none⟩) hbn).trans hN
  have i0 := (hb.cell (p := ⟨bb, oo, none⟩) hbb).trans hLn
  have HB := hide hb
  have s1 := hb.size
  have ll1 := HL1.out.lt
  clear hb l3
  go_wp2_with fail
  refine wp_loop_rounds 1 ?_
  rw [rounds_succ]
  go_wp2_with fail
  have lk1 : K < w1.heap.size := by omega
  have lbn : bn < w1.heap.size := by omega
  have lbb : bb < w1.heap.size := by omega
  have fz1 := HL1.out.frozen 5
  have hcp : ¬ 281474976710656 < Builtin.nextslicecap 1 0 * Tryz.t79.bytes := of_decide_eq_false (by kernel_rfl)
  go_region
  go_wp2_with fail
  obtain ⟨cp, hcd⟩ : ∃ cp, cp = (Question.appendCap 1 0 79).cut (w1.tape (w1.drawn + 1) (Question.appendCap 1 0 79)) := ⟨_, rfl⟩
  have c1 : 1 ≤ cp := by rw [hcd]; exact grownCap_ge w1.drew 1 0 79
  have c2 : cp ≤ maxLen := by rw [hcd]; exact grownCap_le_maxLen w1.drew 1 0 79 (by decide)
  rw [← hcd]
  obtain ⟨wx, hwx⟩ : ∃ wx, wx = ((w1.setCell ⟨L, 5, none⟩ (.slice (some ⟨w1.heap.size + 1, 0, none⟩) 1 cp)).alloc (.cells #[.bool false, .int .u32 1, .string ⟨#[97]⟩] 79)).alloc (.cells (#[.bool false, .int .u32 1, .string ⟨#[97]⟩] ++ Builtin.zeroCells #[.bool false, .int .u32 0, .string ⟨#[]⟩] (cp - 1)) 79) := ⟨_, rfl⟩
  have HLx : Blk wx L 62 #[.slice (some ⟨bn, on, none⟩) 1 cn, .slice (some ⟨bb, oo, none⟩) 1 cb, .slice (some ⟨K, 0, none⟩) 1 1, .slice (some ⟨Gp, 0, none⟩) 2 cg, .int .i64 1, .slice (some ⟨w1.heap.size + 1, 0, none⟩) 1 cp] := by
    rw [hwx]; exact ((HL1.out.set_ 5 _).alloc _).alloc _
  have HRx := hide (show Rd wx (.slice (some ⟨w1.heap.size + 1, 0, none⟩) 1 cp) 3 1 rowCells by
    rw [hwx]; exact Rd.grown (by simp [World.setCell]) rfl c1 c2)
  have hkx : ∀ x, x < w1.heap.size → x ≠ L → wx.heap[x]? = w1.heap[x]? := fun x hx hxL => by
    rw [hwx]
    exact (Below.heap_alloc _ _ x (by simp [World.setCell]; omega)).trans ((Below.heap_alloc _ _ x (by simpa [World.setCell] using hx)).trans (Below.heap_setCell w1 ⟨L, 5, none⟩ _ x hxL))
  have HBx := hide (show ∀ B, B ≤ L → B ≤ w1.heap.size → Below B w1 wx from fun B hB hw => by
    rw [hwx]
    exact (((Below.refl B w1).setCell (p := ⟨L, 5, none⟩) hB _).alloc (by simpa [World.setCell] using hw) _).alloc (by simp [World.setCell]; omega) _)
  rw [← hwx]
  have lgp : Gp < w1.heap.size := by omega
  have lp1 : p1 < w1.heap.size := by omega
  have g1 : wx.cell? ⟨Gp, 1, none⟩ = some (.slice (some ⟨p1, 0, none⟩) 1 1) := (World.cell?_of_block (hkx Gp lgp hGL)).trans ((HB.out.cell (p := ⟨Gp, 1, none⟩) hGl).trans hG1)
  have HQx := hide (show Rd wx (.slice (some ⟨p1, 0, none⟩) 1 1) 1 1 [.slice none 0 0] from (show Blk wx p1 22 #[.slice none 0 0] from (hkx p1 lp1 nLp).trans (HQ.out.below HB.out lq)).rd (cs := [.slice none 0 0]) rfl (Nat.le_refl _) (by decide))
  have e1 : wx.cell? ⟨L, 1, none⟩ = some (.slice (some ⟨bb, oo, none⟩) 1 cb) := HLx.cell 1
  have lx := HLx.lt
  have HLX := hide HLx
  have hsx := (HBx.out 0 (Nat.zero_le _) (Nat.zero_le _)).size
  clear hwx hcd hkx HLx m0 m1 m2 m5 k0 n0 i0 hN hLn hG0 hG1 fz1
  rw [rounds_succ]
  go_wp2_with fail
  refine (coal39 _ _ _ (show Rd wx.drew.drew (.slice (some ⟨p1, 0, none⟩) 1 1) 1 1 [.slice none 0 0] from HQx.out)).mono ?_
  rintro e w2 ⟨rfl, hb2⟩
  have HB2 := hide (show Below wx.heap.size wx w2 from ⟨hb2.os, hb2.tape, hb2.output, hb2.size, hb2.block⟩)
  have e2 := (HB2.out.cell (p := ⟨L, 1, none⟩) lx).trans e1
  clear hb2 e1 g1
  go_wp2_with fail
  refine wp_loop_rounds 1 ?_
  rw [rounds_succ]
  go_wp2_with fail
  rw [rounds_succ]
  go_wp2_with fail
  go_ret
  exact ⟨rfl, _, _, HLX.out.below HB2.out lx, HRx.out.below HB2.out (Nat.le_refl _), (fun b o e => by injection e with e; injection e with e; omega), fun B hBL hBw => ((HB.out.mono hBw).trans (HBx.out B hBL (by omega))).trans (HB2.out.mono (by omega))⟩
end Go.Proofs.YtbjbcfiieacamaaGreatDoor
