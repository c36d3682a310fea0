import Derived.Test.YtagembkjmnfidaaTrkE
import Derived.Deep.RegionHeld3
namespace Go.Proofs.Ytagembkjmnfidaa
open Go.RowKit
open Go.Proofs.Ml
set_option linter.unusedVariables false

set_option maxRecDepth 100000 in
set_option maxHeartbeats 6400000 in
theorem walk15 (w : World) (a b c : Spn) :
    Calls Try.prog 15 #[spAgg a, spAgg b, spAgg c] w fun e w' => e = .returned (.bool true) ∧ Below w.heap.size w w' := by
  obtain ⟨X, hX⟩ : ∃ X, X = hull a b := ⟨_, rfl⟩
  have h1 : hull b a = X := by rw [hX, hull_comm]
  obtain ⟨Y, hY⟩ : ∃ Y, Y = hull X c := ⟨_, rfl⟩
  obtain ⟨Z, hZ⟩ : ∃ Z, Z = hull b c := ⟨_, rfl⟩
  have h2 : hull a Z = Y := by rw [hZ, hY, hX, hull_assoc]
  have hC := fun h => hull_contains a b h
  rw [← hX] at hC
  have HX := hide hX.symm
  have HX2 := hide h1
  have HY := hide hY.symm
  have HZ := hide hZ.symm
  have HY2 := hide h2
  have HC := hide hC
  clear hX h1 hY hZ h2 hC
  obtain ⟨aF, aT⟩ := a
  obtain ⟨bF, bT⟩ := b
  obtain ⟨cF, cT⟩ := c
  obtain ⟨xF, xT⟩ := X
  obtain ⟨yF, yT⟩ := Y
  obtain ⟨zF, zT⟩ := Z
  unfold spAgg
  go_enter Try.func15, Try.ntmps15
  go_wp2_with fail
  refine (hull60 ⟨aF, aT⟩ ⟨bF, bT⟩ _).mono ?_
  rintro e w1 ⟨rfl, hb1⟩
  rw [HX.out]
  unfold spAgg
  have ha := (((Two.new w 35 (.int .i64 aF) (.int .i64 aT)).alloc (.cells #[.int .i64 bF, .int .i64 bT] 35)).alloc (.cells #[.int .i64 cF, .int .i64 cT] 35)).below hb1 (by simp; omega)
  have hb := ((Two.new (w.alloc (.cells #[.int .i64 aF, .int .i64 aT] 35)) 35 (.int .i64 bF) (.int .i64 bT)).alloc (.cells #[.int .i64 cF, .int .i64 cT] 35)).below hb1 (by simp)
  have hc := (Two.new ((w.alloc (.cells #[.int .i64 aF, .int .i64 aT] 35)).alloc (.cells #[.int .i64 bF, .int .i64 bT] 35)) 35 (.int .i64 cF) (.int .i64 cT)).below hb1 (by simp)
  simp only [World.size_alloc] at hb hc
  have c1 : Below w.heap.size w w1 := ((((Below.refl w.heap.size w).alloc (Nat.le_refl _) _).alloc (by simp) _).alloc (by simp; omega) _).trans (hb1.mono (by simp; omega))
  have s1 := c1.size
  have a0 := ha.c0
  have a1 := ha.c1
  have b0 := hb.c0
  have b1 := hb.c1
  have d0 := hc.c0
  have d1 := hc.c1
  have la := ha.lt
  have lb := hb.lt
  have lc := hc.lt
  clear hb1 ha hb hc
  obtain ⟨WX, hWX⟩ : ∃ WX, WX = w1.alloc (.cells #[.int .i64 xF, .int .i64 xT] 35) := ⟨_, rfl⟩
  have hx := Two.new w1 35 (.int .i64 xF) (.int .i64 xT)
  rw [← hWX] at hx
  have hsz : WX.heap.size = w1.heap.size + 1 := by rw [hWX]; simp
  have hlX : ∀ b o, b < w1.heap.size → WX.cell? ⟨b, o, none⟩ = w1.cell? ⟨b, o, none⟩ := fun b o h => by rw [hWX]; exact World.cell?_alloc_lt w1 _ ⟨b, o, none⟩ h
  have SS := hide (fun (w' : World) (h : Below WX.heap.size WX w') => (show Below WX.heap.size WX w' ∧ w'.cell? ⟨w.heap.size, 0, none⟩ = some (.int .i64 aF) ∧ w'.cell? ⟨w.heap.size, 1, none⟩ = some (.int .i64 aT) ∧ w'.cell? ⟨w.heap.size + 1, 0, none⟩ = some (.int .i64 bF) ∧ w'.cell? ⟨w.heap.size + 1, 1, none⟩ = some (.int .i64 bT) ∧ w'.cell? ⟨w.heap.size + 1 + 1, 0, none⟩ = some (.int .i64 cF) ∧ w'.cell? ⟨w.heap.size + 1 + 1, 1, none⟩ = some (.int .i64 cT) ∧ w'.cell? ⟨w1.heap.size, 0, none⟩ = some (.int .i64 xF) ∧ w'.cell? ⟨w1.heap.size, 1, none⟩ = some (.int .i64 xT) from by
    have k : ∀ b o u, b < w1.heap.size → w1.cell? ⟨b, o, none⟩ = some u → w'.cell? ⟨b, o, none⟩ = some u := fun b o u hb hu => (h.cell (p := ⟨b, o, none⟩) (show b < WX.heap.size by omega)).trans ((hlX b o hb).trans hu)
    have k2 : ∀ o u, WX.cell? ⟨w1.heap.size, o, none⟩ = some u → w'.cell? ⟨w1.heap.size, o, none⟩ = some u := fun o u hu => (h.cell (p := ⟨w1.heap.size, o, none⟩) (show w1.heap.size < WX.heap.size by omega)).trans hu
    exact ⟨h, k _ _ _ la a0, k _ _ _ la a1, k _ _ _ lb b0, k _ _ _ lb b1, k _ _ _ lc d0, k _ _ _ lc d1, k2 _ _ hx.c0, k2 _ _ hx.c1⟩))
  have H60 := hide (fun (p q : Spn) W (h : Below WX.heap.size WX W) => (hull60 p q W).mono fun e w' hh => (⟨hh.1, h.trans (hh.2.mono h.size)⟩ : e = .returned (spAgg (hull p q)) ∧ Below WX.heap.size WX w'))
  have H61 := hide (fun (p q : Spn) W (h : Below WX.heap.size WX W) => (hull61 p q W).mono fun e w' hh => (⟨hh.1, h.trans (hh.2.mono h.size)⟩ : e = .returned (spAgg (hull p q)) ∧ Below WX.heap.size WX w'))
  have HWX := hide hWX
  have cX : Below w.heap.size w WX := by rw [hWX]; exact c1.alloc s1 _
  have sX := cX.size
  clear hsz hlX hx a0 a1 b0 b1 d0 d1 la lb lc
  go_wp2_with fail
  rw [← HWX.out]
  clear HWX hWX
  go_region_held3 (fun w' => Below WX.heap.size WX w' ∧ w'.cell? ⟨w.heap.size, 0, none⟩ = some (.int .i64 aF) ∧ w'.cell? ⟨w.heap.size, 1, none⟩ = some (.int .i64 aT) ∧ w'.cell? ⟨w.heap.size + 1, 0, none⟩ = some (.int .i64 bF) ∧ w'.cell? ⟨w.heap.size + 1, 1, none⟩ = some (.int .i64 bT) ∧ w'.cell? ⟨w.heap.size + 1 + 1, 0, none⟩ = some (.int .i64 cF) ∧ w'.cell? ⟨w.heap.size + 1 + 1, 1, none⟩ = some (.int .i64 cT) ∧ w'.cell? ⟨w1.heap.size, 0, none⟩ = some (.int .i64 xF) ∧ w'.cell? ⟨w1.heap.size, 1, none⟩ = some (.int .i64 xT))
    (first | exact SS.out _ (Below.refl _ _).drew | exact SS.out _ hbk)
    (first | (go_at_call 61; refine (H61.out ⟨_, _⟩ ⟨_, _⟩ _ (‹Below WX.heap.size WX _ ∧ _›).1).mono ?_; rintro e w' ⟨rfl, hbk⟩; rw [HX.out]; unfold spAgg) | (go_at_call 60; refine (H60.out ⟨_, _⟩ ⟨_, _⟩ _ (‹Below WX.heap.size WX _ ∧ _›).1).mono ?_; rintro e w' ⟨rfl, hbk⟩; (first | rw [HX2.out] | rw [HY.out] | rw [HZ.out] | rw [HY2.out]); unfold spAgg))
  have hS := ‹Below WX.heap.size WX _ ∧ _›
  obtain ⟨g0, g1, g2, g3, g4, g5, g6, g7, g8⟩ := hS
  have g9 := cX.trans (g0.mono sX)
  have g10 := g9.size
  clear g3 g4 g5 g6
  by_cases h : aT ≤ aF
  · clear HC
    go_wp2_with fail
    refine (awake54 _).mono ?_
    rintro e w' ⟨rfl, hb⟩
    go_wp2_with fail
    go_ret
    exact ⟨rfl, g9.trans (hb.mono g10)⟩
  · obtain ⟨q1, q2⟩ := HC.out (by show aF < aT; omega)
    have q1 : xF ≤ aF := q1
    have q2 : aT ≤ xT := q2
    have q3 : aF < aT := by omega
    clear h
    go_wp2_with fail
    refine (awake54 _).mono ?_
    rintro e w' ⟨rfl, hb⟩
    go_wp2_with fail
    go_ret
    exact ⟨rfl, g9.trans (hb.mono g10)⟩
end Go.Proofs.Ytagembkjmnfidaa
