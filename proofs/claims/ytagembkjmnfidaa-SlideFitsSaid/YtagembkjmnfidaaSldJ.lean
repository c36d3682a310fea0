import Derived.Test.YtagembkjmnfidaaSldI
import Derived.RegionTactic
import Derived.ChangeAlike
import Derived.BigRegion
namespace Go.Proofs.Ytagembkjmnfidaa
open Go.RowKit
open Go.Proofs.Ml
set_option linter.unusedVariables false

theorem own_ch_put {w : World} {B g cap : Nat} {l : List Chg} (c : Chg) (h : w.ownsRow B 45 4 (.slice (some ⟨g, 0, none⟩) l.length cap) l.length (chVals l)) (k : Nat) (hk : k < l.length) :
    ((((w.setCell ⟨g, k * 4, none⟩ (.int .i64 c.o)).setCell ⟨g, k * 4 + 1, none⟩ (.int .i64 c.ol)).setCell ⟨g, k * 4 + 2, none⟩ (.int .i64 c.n)).setCell ⟨g, k * 4 + 3, none⟩ (.int .i64 c.nl)).ownsRow B 45 4 (.slice (some ⟨g, 0, none⟩) l.length cap) l.length (chVals (l.set k c)) := by
  have h1 := own_ch_set h k 0 (.int .i64 c.o) ⟨c.o, l[k].ol, l[k].n, l[k].nl⟩ hk (by omega) rfl
  have h2 := own_ch_set h1 k 1 (.int .i64 c.ol) ⟨c.o, c.ol, l[k].n, l[k].nl⟩ (by simpa using hk) (by omega) (by simp [chCells])
  have h3 := own_ch_set h2 k 2 (.int .i64 c.n) ⟨c.o, c.ol, c.n, l[k].nl⟩ (by simpa using hk) (by omega) (by simp [chCells])
  have h4 := own_ch_set h3 k 3 (.int .i64 c.nl) c (by simpa using hk) (by omega) (by simp [chCells])
  simp only [List.set_set, List.length_set] at h4
  exact h4
theorem MV.put {W0 : World} {M g cap : Nat} {va vb : Value} {l : List Chg} {a b : List Int} {w : World} (c : Chg) {K : Nat} (h : MV W0 M (.slice (some ⟨g, 0, none⟩) l.length cap) va vb l a b w) (hK : K < l.length) (hg : W0.heap.size ≤ g) (hf : fits (l.set K c) a b = true) :
    MV W0 M (.slice (some ⟨g, 0, none⟩) l.length cap) va vb (l.set K c) a b ((((w.setCell ⟨g, K * 4, none⟩ (.int .i64 c.o)).setCell ⟨g, K * 4 + 1, none⟩ (.int .i64 c.ol)).setCell ⟨g, K * 4 + 2, none⟩ (.int .i64 c.n)).setCell ⟨g, K * 4 + 3, none⟩ (.int .i64 c.nl)) := by
  have hne : M ≠ g := by
    intro e
    have := own_other h.own h.thr (by decide)
    simp [Value.ownBlock, e] at this
  refine ⟨(((h.below.setCell hg _).setCell hg _).setCell hg _).setCell hg _, h.ra, h.rb, ?_, ?_, h.hM, hf⟩
  · rw [List.length_set]; exact own_ch_put c h.own K hK
  · unfold Thr
    rw [Below.heap_setCell _ _ _ _ hne, Below.heap_setCell _ _ _ _ hne, Below.heap_setCell _ _ _ _ hne, Below.heap_setCell _ _ _ _ hne]
    exact h.thr
theorem mv_back {can : List Chg → Nat → Prop} {d : Int} {K n : Nat} {l r : List Chg} (h : Mv can d K n l r) (hK : K < l.length) : r.set K l[K] = l := by
  have hl := h.same.1
  apply List.ext_getElem?
  intro x
  by_cases hx : K = x
  · subst hx
    rw [List.getElem?_set_self (by omega), List.getElem?_eq_getElem hK]
  · rw [List.getElem?_set_ne hx]
    exact h.other x hx

/-- What Room hands back. -/
def RmRet (w : World) (l : List Chg) (a b : List Int) (k : Int) (e : Ending) (w' : World) : Prop :=
  ((fits l a b = false ∧ e = .returned (.tuple #[.int .i64 0, .int .i64 0, .int .i64 80])) ∨
  (fits l a b = true ∧ (k < 0 ∨ (l.length : Int) ≤ k) ∧ e = .returned (.tuple #[.int .i64 0, .int .i64 0, .int .i64 3])) ∨
  (fits l a b = true ∧ ∃ (K u d : Nat) (r s : List Chg), k = (K : Int) ∧ K < l.length ∧ Mv (canU a b) (-1) K u l r ∧ Mv (canD a b) 1 K d l s ∧ e = .returned (.tuple #[.int .i64 u, .int .i64 d, .int .i64 0]))) ∧ Below w.heap.size w w'

set_option maxRecDepth 100000 in
set_option maxHeartbeats 3200000 in
theorem room65 (v va vb : Value) (l : List Chg) (a b : List Int) (k : Int) (w : World) (hr : Rd w v 4 l.length (chVals l)) (hra : Rd w va 1 a.length (inVals a)) (hrb : Rd w vb 1 b.length (inVals b)) (hl : l.length ≤ 900000) :
    Calls Try.prog 65 #[v, va, vb, .int .i64 k] w (RmRet w l a b k) := by
  have H84 := hide (start84 v va vb l a b w hr hra hrb hl)
  obtain ⟨Aa, ca, rfl, _, _, _, _⟩ := hra
  obtain ⟨Ab, cb, rfl, _, _, _, _⟩ := hrb
  obtain ⟨A, cap, rfl, _, _, _, hA⟩ := hr
  go_enter Try.func65, Try.ntmps65
  go_wp2_with fail
  refine H84.out.mono ?_
  rintro e w1 (⟨hf, rfl, hb⟩ | ⟨hf, M, v', rfl, hm⟩)
  · have HF := hide hf
    clear hf hA
    go_wp2_with fail
    go_returns
    exact ⟨.inl ⟨HF.out, rfl⟩, hb⟩
  · have HF := hide hf
    have HM := hide hm
    obtain ⟨Av, cv, hve, hgv⟩ := own_open hm.own
    subst hve
    by_cases hk0 : k < 0
    · have d0 : decide (k < 0) = true := by simpa using hk0
      have HK := hide hk0
      clear hf hm H84 hA hgv hk0
      go_wp2_with fail
      go_returns
      exact ⟨.inr (.inl ⟨HF.out, .inl HK.out, rfl⟩), HM.out.below⟩
    · obtain ⟨K, rfl⟩ := Int.eq_ofNat_of_zero_le (show 0 ≤ k by omega)
      have d0 : decide ((K : Int) < 0) = false := by simp
      by_cases hk1 : l.length ≤ K
      · have d1 : decide ((l.length : Int) ≤ (K : Int)) = true := by simpa using hk1
        have d2 : decide (l.length ≤ K) = true := by simpa using hk1
        have HK := hide hk1
        clear hf hm H84 hA hgv hk0 hk1
        go_wp2_with fail
        go_returns
        exact ⟨.inr (.inl ⟨HF.out, .inr (by have := HK.out; omega), rfl⟩), HM.out.below⟩
      · have d1 : decide ((l.length : Int) ≤ (K : Int)) = false := by simpa using hk1
        have d2 : decide (l.length ≤ K) = false := by simpa using hk1
        have hK : K < l.length := by omega
        obtain ⟨g, rfl, hg0, hg1⟩ := hgv (by omega)
        obtain ⟨b0, off, rfl, hb0, hc⟩ := hA (by omega)
        have HS := hide (often_up w M K _ _ _ l a b w1 hm hK)
        have HC := hide hc
        clear hf hm H84 hA hgv hk0 hk1 hc
        go_wp2_with fail
        refine HS.out.mono ?_
        rintro e w2 ⟨u, r, rfl, hmv, hm2⟩
        have HV := hide hmv
        have HM2 := hide hm2
        have hlen := hmv.same.1
        have hKr : K < r.length := by omega
        obtain ⟨c0, c1, c2, c3⟩ := ch_cells HC.out hb0 hm2.below hK
        have y0 := hm2.thr.c0
        have y1 := hm2.thr.lt
        have hbw : b0 < w2.heap.size := by have := hm2.below.size; omega
        have hgw : g < w2.heap.size := by
          have := hm2.below.size
          obtain ⟨A', c', e', h'⟩ := own_open hm2.own
          obtain ⟨g', e'', _, h''⟩ := h' (by omega)
          injection e' with e1
          rw [e''] at e1
          injection e1 with e1
          injection e1 with e1
          omega
        have hlen := hmv.same.1
        have hown : w2.ownsRow w.heap.size 45 4 (.slice (some ⟨g, 0, none⟩) r.length cv) r.length (chVals r) := by rw [hlen]; have := hm2.own; rwa [hlen] at this
        have hcg : ∀ j u, (chVals r)[j]? = some u → w2.cell? ⟨g, 0 + j, none⟩ = some u := fun j u hu => by have := hown.cells (g := g) rfl j u hu; rwa [add_head, ← Nat.zero_add j] at this
        obtain ⟨x0, x1, x2, x3⟩ := ch_cells (off := 0) hcg hgw (Below.refl _ _) hKr
        rw [Nat.zero_add] at x0 x1 x2 x3
        have z0 := hown.frozenAt (K * 4)
        have z1 := hown.frozenAt (K * 4 + 1)
        have z2 := hown.frozenAt (K * 4 + 2)
        have z3 := hown.frozenAt (K * 4 + 3)
        have hneb : b0 ≠ g := by omega
        have k0 : (0 : Int) ≤ (K : Int) := by omega
        have k1 : (K : Int) < (l.length : Int) := by omega
        have HP := hide (fun W (hW : MV w M (.slice (some ⟨g, 0, none⟩) r.length cv) (.slice Aa a.length ca) (.slice Ab b.length cb) r a b W) => hW.put l[K] hKr hg0 (by rw [mv_back HV.out hK]; exact HF.out))
        rw [hlen, mv_back hmv hK] at HP
        clear hmv hm2 HS HC hb0 hcg hown
        go_wp2_with fail
        go_region
        go_goals
        all_goals
          have hm3 := (HP.out _ HM2.out).next ((Below.refl _ _).drew)
          have HS2 := hide (often_down w M K _ _ _ l a b _ hm3 hK)
          clear hm3
          go_wp2_with fail
          refine HS2.out.mono ?_
          rintro e w3 ⟨d, s, rfl, hmv2, hm4⟩
          have HV2 := hide hmv2
          have HB4 := hide hm4.below
          clear hmv2 hm4 HS2
          go_wp2_with fail
          go_returns
          exact ⟨.inr (.inr ⟨HF.out, K, u, d, r, s, rfl, hK, HV.out, HV2.out, rfl⟩), HB4.out⟩
end Go.Proofs.Ytagembkjmnfidaa
