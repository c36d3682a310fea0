import Derived.Test.YtagembkjmnfidaaSldC
import Derived.Test.YtagembkjmnfidaaBaseK
import Derived.Test.YtagembkjmnfidaaBaseF
import Derived.Test.YtagembkjmnfidaaBaseG
namespace Go.Proofs.Ytagembkjmnfidaa
open Go.RowKit
open Go.Proofs.Ml
set_option linter.unusedVariables false

theorem own_ch_set2 {w : World} {B g cap : Nat} {l : List Chg} (d : Int) (h : w.ownsRow B 45 4 (.slice (some ⟨g, 0, none⟩) l.length cap) l.length (chVals l)) (k : Nat) (hk : k < l.length) :
    ((w.setCell ⟨g, k * 4, none⟩ (.int .i64 (l[k].o + d))).setCell ⟨g, k * 4 + 2, none⟩ (.int .i64 (l[k].n + d))).ownsRow B 45 4 (.slice (some ⟨g, 0, none⟩) l.length cap) l.length (chVals (mv d l k)) := by
  have h1 := own_ch_set h k 0 (.int .i64 (l[k].o + d)) ⟨l[k].o + d, l[k].ol, l[k].n, l[k].nl⟩ hk (by omega) rfl
  have h2 := own_ch_set h1 k 2 (.int .i64 (l[k].n + d)) (l[k].up d) (by simpa using hk) (by omega) (by simp [chCells, Chg.up])
  rw [List.set_set, ← mv_get d l k hk, mv_length] at h2
  exact h2

set_option maxRecDepth 100000 in
set_option maxHeartbeats 1600000 in
theorem moved89 (v : Value) (l : List Chg) (K : Nat) (d : Int) (w : World) (hr : Rd w v 4 l.length (chVals l)) (hl : l.length ≤ 900000) (hK : K < l.length) (ho : -9000 ≤ l[K].o + d ∧ l[K].o + d ≤ 9000) (hn : -9000 ≤ l[K].n + d ∧ l[K].n + d ≤ 9000) :
    Calls Try.prog 89 #[v, .int .i64 K, .int .i64 d] w (RetRow w 45 4 l.length (chVals (mv d l K))) := by
  obtain ⟨A, cap, rfl, hcap, hcap', hll, hA⟩ := hr
  have HR := hide (show Rd w (.slice A l.length cap) 4 l.length (chVals l) from ⟨A, cap, rfl, hcap, hcap', hll, hA⟩)
  have e1 := IntWalk.i64_in (l[K].o + d) (by omega)
  have e2 := IntWalk.i64_in (l[K].n + d) (by omega)
  have k0 : (0 : Int) ≤ (K : Int) := by omega
  have k1 : (K : Int) < (l.length : Int) := by omega
  clear hcap hcap' hll hA ho hn
  go_enter Try.func89, Try.ntmps89
  go_wp2_with (at_builtin; go_must (refine wp_appR rfl (.tmp 8) (.tmp 9) 23 45 4 32 _ rfl Try.underlying23 info45 rfl (by omega) (by omega) _ w.heap.size 0 _ [] rfl (World.ownsRow_made w #[] 0 (Nat.le_refl _) (by simp) rfl) A l.length cap (chVals l) rfl (HR.out.below ((Below.refl _ _).alloc (Nat.le_refl _) _) (Nat.le_refl _)) (chVals_one l) (by omega) (by simp) ?_); intro vq W4 hoq hb4' hs4'; rw [Nat.zero_add, List.nil_append] at hoq; obtain ⟨Aq, cq, rfl, hgq⟩ := own_open hoq; obtain ⟨g, rfl, hg0, hg1⟩ := hgq (by omega); obtain ⟨c0, c1, c2, c3⟩ := ch_cells (off := 0) (fun j u hu => by have := hoq.cells (g := g) rfl j u hu; rwa [add_head, ← Nat.zero_add j] at this) hg1 (Below.refl _ _) hK; rw [Nat.zero_add] at c0 c1 c2 c3; have f0 := hoq.frozenAt (K * 4); have f2 := hoq.frozenAt (K * 4 + 2); have HO := hide (own_ch_set2 d hoq K hK); have HB := hide (((Below.refl w.heap.size w).alloc (Nat.le_refl _) (.cells #[] 45)).trans hb4'); clear hoq hb4' hs4' c1 c3)
  go_ret
  exact ⟨_, rfl, HO.out, (HB.out.setCell hg0 _).setCell hg0 _⟩

set_option maxRecDepth 100000 in
set_option maxHeartbeats 1600000 in
theorem clone94 (v : Value) (l : List Chg) (w : World) (hr : Rd w v 4 l.length (chVals l)) (hl : l.length ≤ 900000) :
    Calls Try.prog 94 #[v] w (RetRow w 45 4 l.length (chVals l)) := by
  obtain ⟨A, cap, rfl, hcap, hcap', hll, hA⟩ := hr
  have HR := hide (show Rd w (.slice A l.length cap) 4 l.length (chVals l) from ⟨A, cap, rfl, hcap, hcap', hll, hA⟩)
  rcases A with _ | p
  · have h0 : l = [] := by
      rcases Nat.eq_zero_or_pos l.length with h | h
      · exact List.eq_nil_of_length_eq_zero h
      · obtain ⟨b, off, h1, _⟩ := hA h; cases h1
    subst h0
    clear hcap hcap' hll hA HR
    have hq : (binOp .eql 23 (.slice none 0 cap) (.slice none 0 0)).run Try.prog w = .ok (.bool true) w := by kernel_rfl
    go_enter Try.func94, Try.ntmps94
    go_wp2_with (rw [hq])
    go_ret
    exact ⟨_, rfl, World.ownsRow_nil _ _ _ _, Below.refl _ _⟩
  · clear hcap hcap' hll hA
    have hq : (binOp .eql 23 (.slice (some p) l.length cap) (.slice none 0 0)).run Try.prog w = .ok (.bool false) w := by kernel_rfl
    go_enter Try.func94, Try.ntmps94
    go_wp2_with (first | rw [hq] | at_builtin; go_must (refine wp_appR rfl (.tmp 5) (.tmp 6) 23 45 4 32 _ rfl Try.underlying23 info45 rfl (by omega) (by omega) _ w.heap.size 0 _ [] rfl (World.ownsRow_made w #[] 0 (Nat.le_refl _) (by simp) rfl) (some p) l.length cap (chVals l) rfl (HR.out.below ((Below.refl _ _).alloc (Nat.le_refl _) _) (Nat.le_refl _)) (chVals_one l) (by omega) (by simp) ?_); intro vq W4 hoq hb4' hs4'; rw [Nat.zero_add, List.nil_append] at hoq; have HO := hide hoq; have HB := hide (((Below.refl w.heap.size w).alloc (Nat.le_refl _) (.cells #[] 45)).trans hb4'); obtain ⟨Aq, cq, rfl, hgq⟩ := own_open hoq; clear hoq hb4' hs4' hgq)
    go_ret
    exact ⟨_, rfl, HO.out, HB.out⟩
end Go.Proofs.Ytagembkjmnfidaa
