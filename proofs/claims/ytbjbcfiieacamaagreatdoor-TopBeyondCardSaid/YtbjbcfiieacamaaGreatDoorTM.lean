import Derived.Test.YtbjbcfiieacamaaGreatDoorTS
import Derived.Maps.Own
import Derived.Maps.OwnSet
namespace Go.Proofs.YtbjbcfiieacamaaGreatDoor
open Go.RowKit
set_option linter.unusedVariables false

open Go.WideMaps Go.Maps Go.MapKept

theorem keyed9 : Keyed Tryz.prog 9 := string_keyed Tryz.underlying9
theorem zero3 (w : World) : (zeroValue 3).run Tryz.prog w = .ok (.int .i64 0) w := by kernel_rfl
theorem key_a : keyOf Tryz.prog 9 (.string ⟨#[97]⟩) = some (.string [97]) := keyOf_string_mk Tryz.underlying9 (by decide)

/-- Only the blocks g and M of old have turned. -/
def Two_ (g M : Nat) (w w' : World) : Prop := ∀ x, x < w.heap.size → x ≠ g → x ≠ M → w'.heap[x]? = w.heap[x]?
def IdRet (g M : Nat) (w : World) (e : Ending) (w' : World) : Prop := ∃ A c, e = .returned (.int .i64 0) ∧ Blk w' g 115 #[.map (some M), .slice A 1 c] ∧ Rd w' (.slice A 1 c) 1 1 [.string ⟨#[97]⟩] ∧ (∀ b off, A = some ⟨b, off, none⟩ → w.heap.size ≤ b) ∧ Two_ g M w w' ∧ ∀ B, B ≤ g → B ≤ M → B ≤ w.heap.size → Below B w w'

set_option maxRecDepth 100000 in
set_option maxHeartbeats 400000 in
theorem id54 (w : World) (g M : Nat) (hg : Blk w g 115 #[.map (some M), .slice none 0 0]) (hM : w.heap[M]? = some (.map #[] 0)) :
    Calls Tryz.prog 54 #[.pointer (some ⟨g, 0, none⟩), .string ⟨#[97]⟩] w (IdRet g M w) := by
  have g0 : w.cell? ⟨g, 0, none⟩ = some (.map (some M)) := hg.cell 0
  have g1 : w.cell? ⟨g, 1, none⟩ = some (.slice none 0 0) := hg.cell 1
  have gl := hg.lt
  have hne : g ≠ M := by rintro rfl; unfold Blk at hg; rw [hM] at hg; cases hg
  have HG := hide hg
  have hown : w.ownsMap Tryz.prog 9 (plainElem (H := Unit) Tryz.prog 3) M 0 (.map []) := ⟨#[], 0, hM, ⟨by simp, stamped_empty 0, by simp⟩, Nat.le_refl _, rfl⟩
  have HO := hide hown
  clear hg hown hM
  go_enter Tryz.func54, Tryz.ntmps54
  go_wp2_with (first
    | (at_lookup; refine wpList_lookup_own_ok_int _ rfl _ _ 113 rfl 9 3 .i64 keyed9 Tryz.underlying113 Tryz.underlying3 (zero3 _) M 0 _ rfl HO.out _ _ rfl key_a ?_; intro c hat hwc; rw [show Maps.has (.map [] : DataW Unit) (.string [97]) = false from rfl]; clear hat hwc)
    | (at_mapUpdate; refine wpList_mapUpdate_own _ rfl _ _ _ 113 rfl 9 3 keyed9 Tryz.underlying113 _ M 0 _ rfl HO.out (by unfold maxLen; omega) _ _ _ rfl rfl key_a _ [] (plainElem_int Tryz.underlying3 (by decide)) ?_; intro w1 hown1 hgr1; clear hown1; have s1 := hgr1.size; have HG1 := hide (show Blk w1 g 115 _ from (hgr1.block g gl (fun e => hne (by injection e))).trans HG.out); have k0 : w1.cell? ⟨g, 0, none⟩ = some (.map (some M)) := HG1.out.cell 0; have k1 : w1.cell? ⟨g, 1, none⟩ = some (.slice none 0 0) := HG1.out.cell 1)
    | (at_builtin; go_must (refine wp_app1k rfl (.tmp 33) (.tmp 35) 24 9 1 16 _ rfl Tryz.underlying24 info9 rfl (by omega) (by omega) w1 _ w1.heap.size 0 _ [] rfl _ _ rfl rfl (World.ownsRow_nil _ _ _ _) (World.ownsRow_nil _ _ _ _) (Nat.le_refl _) rfl rfl (by omega) (Nat.le_refl _) ?_); intro v2 w2 hown2 hb2 hk2 hs2; have HG2 := hide (HG1.out.below hb2 (by omega)); have f2 := HG2.out.frozen 1; have e2 : w2.cell? ⟨g, 1, none⟩ = some (.slice none 0 0) := HG2.out.cell 1; have HO2 := hide hown2; obtain ⟨A2, c2, rfl, hg2⟩ := own_open hown2; have HB2 := hide hb2; have HX2 := hide hg2; clear hown2 hb2 hk2 hg2))
  go_ret
  refine ⟨A2, c2, rfl, HG2.out.set_ 1 _, (Rd.of_own HO2.out).far (fun h b off e => ?_) _, fun b off e => ?_, fun x hx hxg hxM => ?_, fun B hBg hBM hB => ?_⟩
  · obtain ⟨g', e', h1, h2⟩ := HX2.out (by omega)
    rw [e'] at e
    injection e with e
    injection e with e
    show b ≠ g
    omega
  · obtain ⟨g', e', h1, h2⟩ := HX2.out (by omega)
    rw [e'] at e
    injection e with e
    injection e with e
    omega
  · exact (Below.heap_setCell w2 ⟨g, 1, none⟩ _ x hxg).trans ((HB2.out.block x (by omega)).trans (hgr1.block x hx (fun e => hxM (by injection e))))
  · exact (((Below.refl B w).grown hgr1 hB (fun k hk => by cases hk; exact hBM)).trans (HB2.out.mono (by omega))).setCell hBg _
end Go.Proofs.YtbjbcfiieacamaaGreatDoor
