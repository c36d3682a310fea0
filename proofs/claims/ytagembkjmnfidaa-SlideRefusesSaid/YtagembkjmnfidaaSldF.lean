import Derived.Test.YtagembkjmnfidaaSldE
import Derived.Test.YtagembkjmnfidaaSpecU
import Derived.BigQuiet
namespace Go.Proofs.Ytagembkjmnfidaa
open Go.RowKit
open Go.Proofs.Ml
set_option linter.unusedVariables false

theorem quiet_more {P : Program} {f : FuncId} {args : Array Value} {w : World} {a n : Nat} {v : Value} (h : Calls P f args (w.drewN (a + n)) fun e w' => e = .returned v ∧ ∃ m, w' = (w.drewN (a + n)).drewN m) :
    Calls P f args (w.drewN (a + n)) fun e w' => e = .returned v ∧ ∃ m, w' = w.drewN (a + m) :=
  h.mono fun _ _ ⟨he, m, hm⟩ => ⟨he, n + m, by rw [hm, World.drewN_drewN, Nat.add_assoc]⟩
theorem MV.drewN {W0 : World} {M : Nat} {v va vb : Value} {l : List Chg} {a b : List Int} {w : World} (h : MV W0 M v va vb l a b w) (n : Nat) : MV W0 M v va vb l a b (w.drewN n) :=
  h.next (below_drewN (Below.refl _ _) n)
/-- The mover's own list has taken a move. -/
theorem MV.move {W0 : World} {M g cap : Nat} {va vb : Value} {l : List Chg} {a b : List Int} {w : World} (d : Int) {K : Nat} (h : MV W0 M (.slice (some ⟨g, 0, none⟩) l.length cap) va vb l a b w) (hK : K < l.length) (hg : W0.heap.size ≤ g) (hf : fits (mv d l K) a b = true) :
    MV W0 M (.slice (some ⟨g, 0, none⟩) l.length cap) va vb (mv d l K) a b ((w.setCell ⟨g, K * 4, none⟩ (.int .i64 (l[K].o + d))).setCell ⟨g, K * 4 + 2, none⟩ (.int .i64 (l[K].n + d))) := by
  have hne : M ≠ g := by
    intro e
    have := own_other h.own h.thr (by decide)
    simp [Value.ownBlock, e] at this
  refine ⟨(h.below.setCell hg _).setCell hg _, h.ra, h.rb, ?_, ?_, h.hM, hf⟩
  · rw [mv_length]; exact own_ch_set2 d h.own K hK
  · unfold Thr
    rw [Below.heap_setCell _ _ _ _ hne, Below.heap_setCell _ _ _ _ hne]
    exact h.thr
/-- What a step of the mover leaves. -/
def Step (can : List Chg → Nat → Prop) (d : Int) (W0 : World) (M : Nat) (v va vb : Value) (l : List Chg) (a b : List Int) (K : Nat) (e : Ending) (w' : World) : Prop :=
  (¬ can l K ∧ e = .returned (.bool false) ∧ MV W0 M v va vb l a b w') ∨ (can l K ∧ e = .returned (.bool true) ∧ MV W0 M v va vb (mv d l K) a b w')

set_option maxRecDepth 100000 in
set_option maxHeartbeats 3200000 in
theorem down87 (W0 : World) (M K : Nat) (v va vb : Value) (l : List Chg) (a b : List Int) (w : World) (h : MV W0 M v va vb l a b w) (hK : K < l.length) :
    Calls Try.prog 87 #[.pointer (some ⟨M, 0, none⟩), .int .i64 K] w (Step (canD a b) (1) W0 M v va vb l a b K) := by
  have H95 := hide (region95 W0 M K v va vb l a b w h hK)
  have HNO := hide (fun (h : side a b l[K] = none) => side_val_no (va := va) (vb := vb) h)
  have HRD := hide (fun w1 (h1 : MV W0 M v va vb l a b w1) t f n (hs : side a b l[K] = some (t, f, n)) => side_rd (va := va) (vb := vb) (h1.ra.below h1.below (Nat.le_refl _)) (h1.rb.below h1.below (Nat.le_refl _)) hs)
  have hv := h.val
  have hvv := valid_iff.1 hv
  obtain ⟨m0, m1⟩ := hvv.1
  obtain ⟨n0, n1⟩ := hvv.2.1
  have HB := hide hvv.2.2.bounds
  have hsm := valid_small hv
  obtain ⟨Av, cv, hve, hgv⟩ := own_open h.own
  subst hve
  obtain ⟨g, rfl, hg0, hg1⟩ := hgv (by omega)
  obtain ⟨Aa, ca, hve, _, _, _, _⟩ := h.ra
  subst hve
  obtain ⟨Ab, cb, hve, _, _, _, _⟩ := h.rb
  subst hve
  have hMM := h.thr.lt
  have HM := hide h
  have HV := hide hv
  clear h hvv hv hgv
  go_enter Try.func87, Try.ntmps87
  go_wp2_with fail
  refine H95.out.mono ?_
  rintro e w1 ⟨rfl, hb1⟩
  have s1 := hb1.size
  have hm1 := HM.out.next hb1
  have hMw : M < w1.heap.size := by omega
  have hgw : g < w1.heap.size := by omega
  clear H95
  cases hs : side a b l[K] with
  | none =>
    have hno := hide (not_canD_side hK hs)
    have HM1 := hide hm1
    rw [HNO.out hs]
    clear HNO HRD hs hm1
    go_wp2_with fail
    go_ret
    exact .inl ⟨hno.out, rfl, HM1.out⟩
  | some x =>
    obtain ⟨t, f, n⟩ := x
    obtain ⟨g0, g1, g2⟩ := side_in HV.out (List.getElem?_eq_getElem hK) hs
    obtain ⟨vt, hsv, hrt⟩ := HRD.out w1 hm1 t f n hs
    have htl : (t.length : Int) ≤ 4096 := by
      rcases side_cases hs with ⟨rfl, _⟩ | ⟨rfl, _⟩ <;> omega
    obtain ⟨F, rfl⟩ := Int.eq_ofNat_of_zero_le g0
    obtain ⟨N, rfl⟩ := Int.eq_ofNat_of_zero_le (show 0 ≤ n by omega)
    obtain ⟨At, ct, rfl, _, _, _, hAt⟩ := hrt
    obtain ⟨bt, ot, rfl, hbt, hct⟩ := hAt (by omega)
    rw [hsv]
    have k0 : (0 : Int) ≤ (K : Int) := by omega
    have k1 : (K : Int) < (l.length : Int) := by omega
    have y0 := hm1.thr.c0
    have y1 := hm1.thr.c1
    have y2 := hm1.thr.c2
    have hcg : ∀ j u, (chVals l)[j]? = some u → w1.cell? ⟨g, 0 + j, none⟩ = some u := fun j u hu => by have := hm1.own.cells (g := g) rfl j u hu; rwa [add_head, ← Nat.zero_add j] at this
    obtain ⟨c0, c1, c2, c3⟩ := ch_cells (off := 0) hcg hgw (Below.refl _ _) hK
    rw [Nat.zero_add] at c0 c1 c2 c3
    have z0 := hm1.own.frozenAt (K * 4)
    have z2 := hm1.own.frozenAt (K * 4 + 2)
    have hR := HB.out l[K] (List.getElem_mem _)
    have hne1 : M ≠ g := by
      intro e
      have := own_other hm1.own hm1.thr (by decide)
      simp [Value.ownBlock, e] at this
    have hne2 : g ≠ M := fun e => hne1 e.symm
    have HM1 := hide hm1
    have HD := hide (fun A hA => dn_some HV.out hK hs (A := A) hA)
    have H96 := hide (fun n => end96 W0 M K _ _ _ l a b (w1.drewN n) (HM1.out.drewN n) hK)
    have HMV := hide (fun W (hW : MV W0 M (.slice (some ⟨g, 0, none⟩) l.length cv) (.slice Aa a.length ca) (.slice Ab b.length cb) l a b W) (hc : canD a b l K) => hW.move 1 hK hg0 (fits_down hW.fit hc))
    clear HNO HRD hAt hsv hs hm1 HM hb1
    obtain ⟨G, hG⟩ : ∃ G : Nat, G = F + N := ⟨_, rfl⟩
    have e1 : IntKind.i64.wrap ((F : Int) + (N : Int)) = (G : Int) := by rw [IntWalk.i64_in _ (by omega)]; omega
    have e2 := IntWalk.i64_in (l[K].o + 1) (by omega)
    have e3 := IntWalk.i64_in (l[K].n + 1) (by omega)
    have e4 := IntWalk.i64_in ((a.length : Int) - (l[K].o + l[K].ol)) (by omega)
    rw [show (F : Int) + (N : Int) = (G : Int) by omega] at HD
    obtain ⟨K1, hK1⟩ : ∃ K1, K1 = K + 1 := ⟨_, rfl⟩
    have e5 : IntKind.i64.wrap ((K : Int) + 1) = (K1 : Int) := by rw [IntWalk.i64_in _ (by omega)]; omega
    by_cases h2 : K1 < l.length
    · obtain ⟨x0, x1, x2, x3⟩ := ch_cells (off := 0) hcg hgw (Below.refl _ _) h2
      rw [Nat.zero_add] at x0
      have hR2 := HB.out l[K1] (List.getElem_mem _)
      have hD := HD.out (l[K1].o - (l[K].o + l[K].ol) - 1) (.inl (by subst hK1; exact ⟨h2, rfl⟩))
      have u0 : (0 : Int) ≤ (K1 : Int) := by omega
      have u1 : (K1 : Int) < (l.length : Int) := by omega
      have e6 := IntWalk.i64_in (l[K1].o - (l[K].o + l[K].ol)) (by omega)
      clear x1 x2 x3 HD hcg
      obtain ⟨A, hA⟩ : ∃ A, A = l[K1].o - (l[K].o + l[K].ol) - 1 := ⟨_, rfl⟩
      rw [← hA] at hD
      have e7 : IntKind.i64.wrap (l[K1].o - (l[K].o + l[K].ol) - 1) = A := by rw [IntWalk.i64_in _ (by omega)]; exact hA.symm
      have HA := hide hA
      by_cases h1 : A < 1
      · have d1 : decide (A < 1) = true := by simpa using h1
        have hno := hide (hD.1 h1)
        clear hD hct hG h1 hA hR hK1 hR2
        go_wp2_with fail
        go_quiet ((go_at_call 96; exact Calls.quiet_of (H96.out _)))
        go_wp2_with fail
        go_quiet ((go_at_call 96; exact quiet_more (H96.out _)))
        go_wp2_with fail
        go_quiet (fail)
        go_wp2_with fail
        go_ret
        first | exact .inl ⟨hno.out, rfl, HM1.out.drewN _⟩ | exact .inl ⟨hno.out, rfl, (HM1.out.drewN _).drewN _⟩ | exact .inl ⟨hno.out, rfl, ((HM1.out.drewN _).drewN _).drewN _⟩ | exact .inl ⟨hno.out, rfl, (((HM1.out.drewN _).drewN _).drewN _).drewN _⟩
      · have d1 : decide (A < 1) = false := by simpa using h1
        obtain ⟨hlt, hiff⟩ := hD.2 (by omega)
        have hGt : G < t.length := by omega
        have t0 := in_cells hct hbt (Below.refl _ _) (show F < t.length by omega)
        have t1 := in_cells hct hbt (Below.refl _ _) hGt
        rw [List.getElem?_eq_getElem (show ((F : Int)).toNat < t.length by omega), List.getElem?_eq_getElem (show ((G : Int)).toNat < t.length by omega)] at hiff
        simp only [Int.toNat_natCast, Option.some.injEq] at hiff
        have j0 : (0 : Int) ≤ (F : Int) := by omega
        have j1 : (F : Int) < (t.length : Int) := by omega
        have j2 : (0 : Int) ≤ (G : Int) := by omega
        have j3 : (G : Int) < (t.length : Int) := by omega
        generalize t[F] = x at *
        generalize t[G] = y at *
        clear hD hct hG h1 hA hR hlt hGt hK1 hR2
        by_cases hxy : x = y
        · have hn : ((x != y) : Bool) = false := by simp [hxy]
          have hyes := hide (hiff.2 hxy)
          clear hiff hxy
          go_wp2_with fail
          go_quiet ((go_at_call 96; exact Calls.quiet_of (H96.out _)))
          go_wp2_with fail
          go_quiet ((go_at_call 96; exact quiet_more (H96.out _)))
          go_wp2_with fail
          go_quiet (fail)
          go_wp2_with fail
          go_ret
          first | exact .inr ⟨hyes.out, rfl, HMV.out _ (HM1.out.drewN _) hyes.out⟩ | exact .inr ⟨hyes.out, rfl, HMV.out _ ((HM1.out.drewN _).drewN _) hyes.out⟩ | exact .inr ⟨hyes.out, rfl, HMV.out _ (((HM1.out.drewN _).drewN _).drewN _) hyes.out⟩ | exact .inr ⟨hyes.out, rfl, HMV.out _ ((((HM1.out.drewN _).drewN _).drewN _).drewN _) hyes.out⟩
        · have hn : ((x != y) : Bool) = true := by simp [hxy]
          have hno := hide (fun h => hxy (hiff.1 h))
          clear hiff hxy
          go_wp2_with fail
          go_quiet ((go_at_call 96; exact Calls.quiet_of (H96.out _)))
          go_wp2_with fail
          go_quiet ((go_at_call 96; exact quiet_more (H96.out _)))
          go_wp2_with fail
          go_quiet (fail)
          go_wp2_with fail
          go_ret
          first | exact .inl ⟨hno.out, rfl, HM1.out.drewN _⟩ | exact .inl ⟨hno.out, rfl, (HM1.out.drewN _).drewN _⟩ | exact .inl ⟨hno.out, rfl, ((HM1.out.drewN _).drewN _).drewN _⟩ | exact .inl ⟨hno.out, rfl, (((HM1.out.drewN _).drewN _).drewN _).drewN _⟩
    · have hD := HD.out ((a.length : Int) - (l[K].o + l[K].ol)) (.inr ⟨by omega, rfl⟩)
      have u2 : decide (K1 < l.length) = false := by simpa using h2
      clear HD hcg
      obtain ⟨A, hA⟩ : ∃ A, A = (a.length : Int) - (l[K].o + l[K].ol) := ⟨_, rfl⟩
      rw [← hA] at hD
      clear e4
      have e4 : IntKind.i64.wrap ((a.length : Int) - (l[K].o + l[K].ol)) = A := by rw [IntWalk.i64_in _ (by omega)]; exact hA.symm
      have HA := hide hA
      by_cases h1 : A < 1
      · have d1 : decide (A < 1) = true := by simpa using h1
        have hno := hide (hD.1 h1)
        clear hD hct hG h1 hA hR hK1
        go_wp2_with fail
        go_quiet ((go_at_call 96; exact Calls.quiet_of (H96.out _)))
        go_wp2_with fail
        go_quiet (fail)
        go_wp2_with fail
        go_ret
        first | exact .inl ⟨hno.out, rfl, HM1.out.drewN _⟩ | exact .inl ⟨hno.out, rfl, (HM1.out.drewN _).drewN _⟩ | exact .inl ⟨hno.out, rfl, ((HM1.out.drewN _).drewN _).drewN _⟩ | exact .inl ⟨hno.out, rfl, (((HM1.out.drewN _).drewN _).drewN _).drewN _⟩
      · have d1 : decide (A < 1) = false := by simpa using h1
        obtain ⟨hlt, hiff⟩ := hD.2 (by omega)
        have hGt : G < t.length := by omega
        have t0 := in_cells hct hbt (Below.refl _ _) (show F < t.length by omega)
        have t1 := in_cells hct hbt (Below.refl _ _) hGt
        rw [List.getElem?_eq_getElem (show ((F : Int)).toNat < t.length by omega), List.getElem?_eq_getElem (show ((G : Int)).toNat < t.length by omega)] at hiff
        simp only [Int.toNat_natCast, Option.some.injEq] at hiff
        have j0 : (0 : Int) ≤ (F : Int) := by omega
        have j1 : (F : Int) < (t.length : Int) := by omega
        have j2 : (0 : Int) ≤ (G : Int) := by omega
        have j3 : (G : Int) < (t.length : Int) := by omega
        generalize t[F] = x at *
        generalize t[G] = y at *
        clear hD hct hG h1 hA hR hlt hGt hK1
        by_cases hxy : x = y
        · have hn : ((x != y) : Bool) = false := by simp [hxy]
          have hyes := hide (hiff.2 hxy)
          clear hiff hxy
          go_wp2_with fail
          go_quiet ((go_at_call 96; exact Calls.quiet_of (H96.out _)))
          go_wp2_with fail
          go_quiet (fail)
          go_wp2_with fail
          go_ret
          first | exact .inr ⟨hyes.out, rfl, HMV.out _ (HM1.out.drewN _) hyes.out⟩ | exact .inr ⟨hyes.out, rfl, HMV.out _ ((HM1.out.drewN _).drewN _) hyes.out⟩ | exact .inr ⟨hyes.out, rfl, HMV.out _ (((HM1.out.drewN _).drewN _).drewN _) hyes.out⟩ | exact .inr ⟨hyes.out, rfl, HMV.out _ ((((HM1.out.drewN _).drewN _).drewN _).drewN _) hyes.out⟩
        · have hn : ((x != y) : Bool) = true := by simp [hxy]
          have hno := hide (fun h => hxy (hiff.1 h))
          clear hiff hxy
          go_wp2_with fail
          go_quiet ((go_at_call 96; exact Calls.quiet_of (H96.out _)))
          go_wp2_with fail
          go_quiet (fail)
          go_wp2_with fail
          go_ret
          first | exact .inl ⟨hno.out, rfl, HM1.out.drewN _⟩ | exact .inl ⟨hno.out, rfl, (HM1.out.drewN _).drewN _⟩ | exact .inl ⟨hno.out, rfl, ((HM1.out.drewN _).drewN _).drewN _⟩ | exact .inl ⟨hno.out, rfl, (((HM1.out.drewN _).drewN _).drewN _).drewN _⟩
end Go.Proofs.Ytagembkjmnfidaa
