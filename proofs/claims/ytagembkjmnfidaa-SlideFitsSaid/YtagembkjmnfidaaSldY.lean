import Derived.Test.YtagembkjmnfidaaSldX
import Derived.Test.YtagembkjmnfidaaFts
import Derived.Test.YtagembkjmnfidaaSpecU
import Derived.BigQuiet
import Derived.Test.YtagembkjmnfidaaSpecV
namespace Go.Proofs.Ytagembkjmnfidaa
open Go.RowKit
open Go.Proofs.Ml
set_option linter.unusedVariables false

/-- The block of a mover: the script, the two texts. -/
def Thr (w : World) (M : Nat) (x y z : Value) : Prop := w.heap[M]? = some (.cells #[x, y, z] 105 (0, 0))
theorem Thr.c0 {w : World} {M : Nat} {x y z : Value} (h : Thr w M x y z) : w.cell? ⟨M, 0, none⟩ = some x := cell_of_row w M 0 #[x, y, z] 105 (0, 0) h
theorem Thr.c1 {w : World} {M : Nat} {x y z : Value} (h : Thr w M x y z) : w.cell? ⟨M, 1, none⟩ = some y := cell_of_row w M 1 #[x, y, z] 105 (0, 0) h
theorem Thr.c2 {w : World} {M : Nat} {x y z : Value} (h : Thr w M x y z) : w.cell? ⟨M, 2, none⟩ = some z := cell_of_row w M 2 #[x, y, z] 105 (0, 0) h
theorem Thr.lt {w : World} {M : Nat} {x y z : Value} (h : Thr w M x y z) : M < w.heap.size := (Array.getElem?_eq_some_iff.1 h).1
theorem Thr.below {w w' : World} {M N : Nat} {x y z : Value} (h : Thr w M x y z) (hb : Below N w w') (hN : M < N) : Thr w' M x y z := (hb.block M hN).trans h
/-- A mover at its work: W0 is the world in which the work began. -/
structure MV (W0 : World) (M : Nat) (v va vb : Value) (l : List Chg) (a b : List Int) (w : World) : Prop where
  below : Below W0.heap.size W0 w
  ra : Rd W0 va 1 a.length (inVals a)
  rb : Rd W0 vb 1 b.length (inVals b)
  own : w.ownsRow W0.heap.size 45 4 v l.length (chVals l)
  thr : Thr w M v va vb
  hM : W0.heap.size ≤ M
  fit : fits l a b = true
theorem MV.val {W0 : World} {M : Nat} {v va vb : Value} {l : List Chg} {a b : List Int} {w : World} (h : MV W0 M v va vb l a b w) : valid l a.length b.length = true := (fits_iff.1 h.fit).1
theorem MV.next {W0 : World} {M : Nat} {v va vb : Value} {l : List Chg} {a b : List Int} {w w' : World} (h : MV W0 M v va vb l a b w) (hb : Below w.heap.size w w') : MV W0 M v va vb l a b w' :=
  ⟨h.below.trans (hb.mono h.below.size), h.ra, h.rb, own_below h.own hb (Nat.le_refl _), h.thr.below hb h.thr.lt, h.hM, h.fit⟩

set_option maxRecDepth 100000 in
set_option maxHeartbeats 1600000 in
theorem region95 (W0 : World) (M K : Nat) (v va vb : Value) (l : List Chg) (a b : List Int) (w : World) (h : MV W0 M v va vb l a b w) (hK : K < l.length) :
    Calls Try.prog 95 #[.pointer (some ⟨M, 0, none⟩), .int .i64 K] w fun e w' => e = .returned (sideVal va vb l[K]) ∧ Below w.heap.size w w' := by
  have hr := Rd.of_own h.own
  obtain ⟨Aa, ca, rfl, _, _, _, _⟩ := h.ra
  obtain ⟨Ab, cb, rfl, _, _, _, _⟩ := h.rb
  obtain ⟨A, cap, rfl, _, _, _, hA⟩ := hr
  obtain ⟨b0, off, rfl, hb0, hc⟩ := hA (by omega)
  obtain ⟨c0, c1, c2, c3⟩ := ch_cells hc hb0 (Below.refl _ _) hK
  have t0 := h.thr.c0
  have t1 := h.thr.c1
  have t2 := h.thr.c2
  have t3 := h.thr.lt
  have k0 : (0 : Int) ≤ (K : Int) := by omega
  have k1 : (K : Int) < (l.length : Int) := by omega
  clear hA hc h
  generalize l[K] = C at *
  obtain ⟨o, ol, n, nl⟩ := C
  unfold sideVal
  simp only at c0 c1 c2 c3 ⊢
  by_cases h1 : nl = 0
  · subst h1
    rw [if_pos rfl]
    go_enter Try.func95, Try.ntmps95
    go_wp2_with fail
    go_quiet (fail)
    go_wp2_with fail
    go_returns
    exact ⟨rfl, below_drewN (by go_grown) _⟩
  · rw [if_neg h1]
    have d1 : ((nl == 0) : Bool) = false := by simpa using h1
    clear h1
    by_cases h2 : ol = 0
    · subst h2
      rw [if_pos rfl]
      go_enter Try.func95, Try.ntmps95
      go_wp2_with fail
      go_quiet (fail)
      go_wp2_with fail
      go_returns
      exact ⟨rfl, below_drewN (by go_grown) _⟩
    · rw [if_neg h2]
      have d2 : ((ol == 0) : Bool) = false := by simpa using h2
      clear h2
      go_enter Try.func95, Try.ntmps95
      go_wp2_with fail
      go_returns
      exact ⟨rfl, by go_grown⟩

set_option maxRecDepth 100000 in
set_option maxHeartbeats 1600000 in
theorem end96 (W0 : World) (M K : Nat) (v va vb : Value) (l : List Chg) (a b : List Int) (w : World) (h : MV W0 M v va vb l a b w) (hK : K < l.length) :
    Calls Try.prog 96 #[.pointer (some ⟨M, 0, none⟩), .int .i64 K] w fun e w' => e = .returned (.int .i64 (l[K].o + l[K].ol)) ∧ ∃ n, w' = w.drewN n := by
  have hr := Rd.of_own h.own
  have hB := (valid_iff.1 h.val).2.2.bounds l[K] (List.getElem_mem _)
  obtain ⟨A, cap, rfl, _, _, _, hA⟩ := hr
  obtain ⟨b0, off, rfl, hb0, hc⟩ := hA (by omega)
  obtain ⟨c0, c1, c2, c3⟩ := ch_cells hc hb0 (Below.refl _ _) hK
  have t0 := h.thr.c0
  have t3 := h.thr.lt
  have k0 : (0 : Int) ≤ (K : Int) := by omega
  have k1 : (K : Int) < (l.length : Int) := by omega
  have e1 := IntWalk.i64_in (l[K].o + l[K].ol) (by omega)
  clear hA hc h hB
  generalize l[K] = C at *
  go_enter Try.func96, Try.ntmps96
  go_wp2_with fail
  go_quiet (fail)
  go_wp2_with fail
  go_ret
  exact ⟨rfl, _, rfl⟩

set_option maxRecDepth 100000 in
set_option maxHeartbeats 1600000 in
theorem start84 (v va vb : Value) (l : List Chg) (a b : List Int) (w : World) (hr : Rd w v 4 l.length (chVals l)) (hra : Rd w va 1 a.length (inVals a)) (hrb : Rd w vb 1 b.length (inVals b)) (hl : l.length ≤ 900000) :
    Calls Try.prog 84 #[v, va, vb] w fun e w' => (fits l a b = false ∧ e = .returned (.tuple #[.pointer none, .int .i64 80]) ∧ Below w.heap.size w w') ∨ (fits l a b = true ∧ ∃ M v', e = .returned (.tuple #[.pointer (some ⟨M, 0, none⟩), .int .i64 0]) ∧ MV w M v' va vb l a b w') := by
  have HR := hide hr
  have HRA := hide hra
  have HRB := hide hrb
  have H47 := hide (fits47 v va vb l a b w hr hra hrb hl)
  obtain ⟨Aa, ca, rfl, _, _, _, _⟩ := hra
  obtain ⟨Ab, cb, rfl, _, _, _, _⟩ := hrb
  obtain ⟨A, cap, rfl, _, _, _, hA⟩ := hr
  clear hA
  go_enter Try.func84, Try.ntmps84
  go_wp2_with fail
  refine H47.out.mono ?_
  rintro e w1 ⟨rfl, hb1⟩
  have s1 := hb1.size
  cases hf : fits l a b with
  | false =>
    have HF := hide hf
    clear hf
    go_wp2_with fail
    go_returns
    exact .inl ⟨HF.out, rfl, hb1⟩
  | true =>
    have HF := hide hf
    clear hf
    go_wp2_with fail
    refine (clone94 _ l _ (HR.out.below hb1 (Nat.le_refl _)) hl).mono ?_
    rintro e w2 ⟨v2, rfl, ho, hb2⟩
    have s2 := hb2.size
    have HO := hide ho
    obtain ⟨Aq, cq, rfl, hgq⟩ := own_open ho
    clear ho hgq
    go_wp2_with fail
    go_returns
    exact .inr ⟨HF.out, w2.heap.size, _, rfl, ⟨(hb1.trans (hb2.mono s1)).alloc (by omega) _, HRA.out, HRB.out, own_base (HO.out.alloc _) s1, heap_alloc_new w2 _, by omega, HF.out⟩⟩
end Go.Proofs.Ytagembkjmnfidaa
namespace Go.Proofs.Ytagembkjmnfidaa
open Go.RowKit
open Go.Proofs.Ml
set_option linter.unusedVariables false

theorem quiet_more {P : Program} {f : FuncId} {args : Array Value} {w : World} {a n : Nat} {v : Value} (h : Calls P f args (w.drewN (a + n)) fun e w' => e = .returned v ∧ ∃ m, w' = (w.drewN (a + n)).drewN m) :
    Calls P f args (w.drewN (a + n)) fun e w' => e = .returned v ∧ ∃ m, w' = w.drewN (a + m) :=
  h.mono fun _ _ ⟨he, m, hm⟩ => ⟨he, n + m, by rw [hm, World.drewN_drewN, Nat.add_assoc]⟩
theorem MV.drewN {W0 : World} {M : Nat} {v va vb : Value} {l : List Chg} {a b : List Int} {w : World} (h : MV W0 M v va vb l a b w) (n : Nat) : MV W0 M v va vb l a b (w.drewN n) :=
  h.next (below_drewN (Below.refl _ _) n)
/-- The mover's own list has taken a move. -/
theorem MV.move {W0 : World} {M g cap : Nat} {va vb : Value} {l : List Chg} {a b : List Int} {w : World} (d : Int) {K : Nat} (h : MV W0 M (.slice (some ⟨g, 0, none⟩) l.length cap) va vb l a b w) (hK : K < l.length) (hg : W0.heap.size ≤ g) (hf : fits (mv d l K) a b = true) :
    MV W0 M (.slice (some ⟨g, 0, none⟩) l.length cap) va vb (mv d l K) a b ((w.setCell ⟨g, K * 4, none⟩ (.int .i64 (l[K].o + d))).setCell ⟨g, K * 4 + 2, none⟩ (.int .i64 (l[K].n + d))) := by
  have hne : M ≠ g := by
    intro e
    have := own_other h.own h.thr (by decide)
    simp [Value.ownBlock, e] at this
  refine ⟨(h.below.setCell hg _).setCell hg _, h.ra, h.rb, ?_, ?_, h.hM, hf⟩
  · rw [mv_length]; exact own_ch_set2 d h.own K hK
  · unfold Thr
    rw [Below.heap_setCell _ _ _ _ hne, Below.heap_setCell _ _ _ _ hne]
    exact h.thr
/-- What a step of the mover leaves. -/
def Step (can : List Chg → Nat → Prop) (d : Int) (W0 : World) (M : Nat) (v va vb : Value) (l : List Chg) (a b : List Int) (K : Nat) (e : Ending) (w' : World) : Prop :=
  (¬ can l K ∧ e = .returned (.bool false) ∧ MV W0 M v va vb l a b w') ∨ (can l K ∧ e = .returned (.bool true) ∧ MV W0 M v va vb (mv d l K) a b w')

set_option maxRecDepth 100000 in
set_option maxHeartbeats 3200000 in
theorem down87 (W0 : World) (M K : Nat) (v va vb : Value) (l : List Chg) (a b : List Int) (w : World) (h : MV W0 M v va vb l a b w) (hK : K < l.length) :
    Calls Try.prog 87 #[.pointer (some ⟨M, 0, none⟩), .int .i64 K] w (Step (canD a b) (1) W0 M v va vb l a b K) := by
  have H95 := hide (region95 W0 M K v va vb l a b w h hK)
  have HNO := hide (fun (h : side a b l[K] = none) => side_val_no (va := va) (vb := vb) h)
  have HRD := hide (fun w1 (h1 : MV W0 M v va vb l a b w1) t f n (hs : side a b l[K] = some (t, f, n)) => side_rd (va := va) (vb := vb) (h1.ra.below h1.below (Nat.le_refl _)) (h1.rb.below h1.below (Nat.le_refl _)) hs)
  have hv := h.val
  have hvv := valid_iff.1 hv
  obtain ⟨m0, m1⟩ := hvv.1
  obtain ⟨n0, n1⟩ := hvv.2.1
  have HB := hide hvv.2.2.bounds
  have hsm := valid_small hv
  obtain ⟨Av, cv, hve, hgv⟩ := own_open h.own
  subst hve
  obtain ⟨g, rfl, hg0, hg1⟩ := hgv (by omega)
  obtain ⟨Aa, ca, hve, _, _, _, _⟩ := h.ra
  subst hve
  obtain ⟨Ab, cb, hve, _, _, _, _⟩ := h.rb
  subst hve
  have hMM := h.thr.lt
  have HM := hide h
  have HV := hide hv
  clear h hvv hv hgv
  go_enter Try.func87, Try.ntmps87
  go_wp2_with fail
  refine H95.out.mono ?_
  rintro e w1 ⟨rfl, hb1⟩
  have s1 := hb1.size
  have hm1 := HM.out.next hb1
  have hMw : M < w1.heap.size := by omega
  have hgw : g < w1.heap.size := by omega
  clear H95
  cases hs : side a b l[K] with
  | none =>
    have hno := hide (not_canD_side hK hs)
    have HM1 := hide hm1
    rw [HNO.out hs]
    clear HNO HRD hs hm1
    go_wp2_with fail
    go_ret
    exact .inl ⟨hno.out, rfl, HM1.out⟩
  | some x =>
    obtain ⟨t, f, n⟩ := x
    obtain ⟨g0, g1, g2⟩ := side_in HV.out (List.getElem?_eq_getElem hK) hs
    obtain ⟨vt, hsv, hrt⟩ := HRD.out w1 hm1 t f n hs
    have htl : (t.length : Int) ≤ 4096 := by
      rcases side_cases hs with ⟨rfl, _⟩ | ⟨rfl, _⟩ <;> omega
    obtain ⟨F, rfl⟩ := Int.eq_ofNat_of_zero_le g0
    obtain ⟨N, rfl⟩ := Int.eq_ofNat_of_zero_le (show 0 ≤ n by omega)
    obtain ⟨At, ct, rfl, _, _, _, hAt⟩ := hrt
    obtain ⟨bt, ot, rfl, hbt, hct⟩ := hAt (by omega)
    rw [hsv]
    have k0 : (0 : Int) ≤ (K : Int) := by omega
    have k1 : (K : Int) < (l.length : Int) := by omega
    have y0 := hm1.thr.c0
    have y1 := hm1.thr.c1
    have y2 := hm1.thr.c2
    have hcg : ∀ j u, (chVals l)[j]? = some u → w1.cell? ⟨g, 0 + j, none⟩ = some u := fun j u hu => by have := hm1.own.cells (g := g) rfl j u hu; rwa [add_head, ← Nat.zero_add j] at this
    obtain ⟨c0, c1, c2, c3⟩ := ch_cells (off := 0) hcg hgw (Below.refl _ _) hK
    rw [Nat.zero_add] at c0 c1 c2 c3
    have z0 := hm1.own.frozenAt (K * 4)
    have z2 := hm1.own.frozenAt (K * 4 + 2)
    have hR := HB.out l[K] (List.getElem_mem _)
    have hne1 : M ≠ g := by
      intro e
      have := own_other hm1.own hm1.thr (by decide)
      simp [Value.ownBlock, e] at this
    have hne2 : g ≠ M := fun e => hne1 e.symm
    have HM1 := hide hm1
    have HD := hide (fun A hA => dn_some HV.out hK hs (A := A) hA)
    have H96 := hide (fun n => end96 W0 M K _ _ _ l a b (w1.drewN n) (HM1.out.drewN n) hK)
    have HMV := hide (fun W (hW : MV W0 M (.slice (some ⟨g, 0, none⟩) l.length cv) (.slice Aa a.length ca) (.slice Ab b.length cb) l a b W) (hc : canD a b l K) => hW.move 1 hK hg0 (fits_down hW.fit hc))
    clear HNO HRD hAt hsv hs hm1 HM hb1
    obtain ⟨G, hG⟩ : ∃ G : Nat, G = F + N := ⟨_, rfl⟩
    have e1 : IntKind.i64.wrap ((F : Int) + (N : Int)) = (G : Int) := by rw [IntWalk.i64_in _ (by omega)]; omega
    have e2 := IntWalk.i64_in (l[K].o + 1) (by omega)
    have e3 := IntWalk.i64_in (l[K].n + 1) (by omega)
    have e4 := IntWalk.i64_in ((a.length : Int) - (l[K].o + l[K].ol)) (by omega)
    rw [show (F : Int) + (N : Int) = (G : Int) by omega] at HD
    obtain ⟨K1, hK1⟩ : ∃ K1, K1 = K + 1 := ⟨_, rfl⟩
    have e5 : IntKind.i64.wrap ((K : Int) + 1) = (K1 : Int) := by rw [IntWalk.i64_in _ (by omega)]; omega
    by_cases h2 : K1 < l.length
    · obtain ⟨x0, x1, x2, x3⟩ := ch_cells (off := 0) hcg hgw (Below.refl _ _) h2
      rw [Nat.zero_add] at x0
      have hR2 := HB.out l[K1] (List.getElem_mem _)
      have hD := HD.out (l[K1].o - (l[K].o + l[K].ol) - 1) (.inl (by subst hK1; exact ⟨h2, rfl⟩))
      have u0 : (0 : Int) ≤ (K1 : Int) := by omega
      have u1 : (K1 : Int) < (l.length : Int) := by omega
      have e6 := IntWalk.i64_in (l[K1].o - (l[K].o + l[K].ol)) (by omega)
      clear x1 x2 x3 HD hcg
      obtain ⟨A, hA⟩ : ∃ A, A = l[K1].o - (l[K].o + l[K].ol) - 1 := ⟨_, rfl⟩
      rw [← hA] at hD
      have e7 : IntKind.i64.wrap (l[K1].o - (l[K].o + l[K].ol) - 1) = A := by rw [IntWalk.i64_in _ (by omega)]; exact hA.symm
      have HA := hide hA
      by_cases h1 : A < 1
      · have d1 : decide (A < 1) = true := by simpa using h1
        have hno := hide (hD.1 h1)
        clear hD hct hG h1 hA hR hK1 hR2
        go_wp2_with fail
        go_quiet ((go_at_call 96; exact Calls.quiet_of (H96.out _)))
        go_wp2_with fail
        go_quiet ((go_at_call 96; exact quiet_more (H96.out _)))
        go_wp2_with fail
        go_quiet (fail)
        go_wp2_with fail
        go_ret
        first | exact .inl ⟨hno.out, rfl, HM1.out.drewN _⟩ | exact .inl ⟨hno.out, rfl, (HM1.out.drewN _).drewN _⟩ | exact .inl ⟨hno.out, rfl, ((HM1.out.drewN _).drewN _).drewN _⟩ | exact .inl ⟨hno.out, rfl, (((HM1.out.drewN _).drewN _).drewN _).drewN _⟩
      · have d1 : decide (A < 1) = false := by simpa using h1
        obtain ⟨hlt, hiff⟩ := hD.2 (by omega)
        have hGt : G < t.length := by omega
        have t0 := in_cells hct hbt (Below.refl _ _) (show F < t.length by omega)
        have t1 := in_cells hct hbt (Below.refl _ _) hGt
        rw [List.getElem?_eq_getElem (show ((F : Int)).toNat < t.length by omega), List.getElem?_eq_getElem (show ((G : Int)).toNat < t.length by omega)] at hiff
        simp only [Int.toNat_natCast, Option.some.injEq] at hiff
        have j0 : (0 : Int) ≤ (F : Int) := by omega
        have j1 : (F : Int) < (t.length : Int) := by omega
        have j2 : (0 : Int) ≤ (G : Int) := by omega
        have j3 : (G : Int) < (t.length : Int) := by omega
        generalize t[F] = x at *
        generalize t[G] = y at *
        clear hD hct hG h1 hA hR hlt hGt hK1 hR2
        by_cases hxy : x = y
        · have hn : ((x != y) : Bool) = false := by simp [hxy]
          have hyes := hide (hiff.2 hxy)
          clear hiff hxy
          go_wp2_with fail
          go_quiet ((go_at_call 96; exact Calls.quiet_of (H96.out _)))
          go_wp2_with fail
          go_quiet ((go_at_call 96; exact quiet_more (H96.out _)))
          go_wp2_with fail
          go_quiet (fail)
          go_wp2_with fail
          go_ret
          first | exact .inr ⟨hyes.out, rfl, HMV.out _ (HM1.out.drewN _) hyes.out⟩ | exact .inr ⟨hyes.out, rfl, HMV.out _ ((HM1.out.drewN _).drewN _) hyes.out⟩ | exact .inr ⟨hyes.out, rfl, HMV.out _ (((HM1.out.drewN _).drewN _).drewN _) hyes.out⟩ | exact .inr ⟨hyes.out, rfl, HMV.out _ ((((HM1.out.drewN _).drewN _).drewN _).drewN _) hyes.out⟩
        · have hn : ((x != y) : Bool) = true := by simp [hxy]
          have hno := hide (fun h => hxy (hiff.1 h))
          clear hiff hxy
          go_wp2_with fail
          go_quiet ((go_at_call 96; exact Calls.quiet_of (H96.out _)))
          go_wp2_with fail
          go_quiet ((go_at_call 96; exact quiet_more (H96.out _)))
          go_wp2_with fail
          go_quiet (fail)
          go_wp2_with fail
          go_ret
          first | exact .inl ⟨hno.out, rfl, HM1.out.drewN _⟩ | exact .inl ⟨hno.out, rfl, (HM1.out.drewN _).drewN _⟩ | exact .inl ⟨hno.out, rfl, ((HM1.out.drewN _).drewN _).drewN _⟩ | exact .inl ⟨hno.out, rfl, (((HM1.out.drewN _).drewN _).drewN _).drewN _⟩
    · have hD := HD.out ((a.length : Int) - (l[K].o + l[K].ol)) (.inr ⟨by omega, rfl⟩)
      have u2 : decide (K1 < l.length) = false := by simpa using h2
      clear HD hcg
      obtain ⟨A, hA⟩ : ∃ A, A = (a.length : Int) - (l[K].o + l[K].ol) := ⟨_, rfl⟩
      rw [← hA] at hD
      clear e4
      have e4 : IntKind.i64.wrap ((a.length : Int) - (l[K].o + l[K].ol)) = A := by rw [IntWalk.i64_in _ (by omega)]; exact hA.symm
      have HA := hide hA
      by_cases h1 : A < 1
      · have d1 : decide (A < 1) = true := by simpa using h1
        have hno := hide (hD.1 h1)
        clear hD hct hG h1 hA hR hK1
        go_wp2_with fail
        go_quiet ((go_at_call 96; exact Calls.quiet_of (H96.out _)))
        go_wp2_with fail
        go_quiet (fail)
        go_wp2_with fail
        go_ret
        first | exact .inl ⟨hno.out, rfl, HM1.out.drewN _⟩ | exact .inl ⟨hno.out, rfl, (HM1.out.drewN _).drewN _⟩ | exact .inl ⟨hno.out, rfl, ((HM1.out.drewN _).drewN _).drewN _⟩ | exact .inl ⟨hno.out, rfl, (((HM1.out.drewN _).drewN _).drewN _).drewN _⟩
      · have d1 : decide (A < 1) = false := by simpa using h1
        obtain ⟨hlt, hiff⟩ := hD.2 (by omega)
        have hGt : G < t.length := by omega
        have t0 := in_cells hct hbt (Below.refl _ _) (show F < t.length by omega)
        have t1 := in_cells hct hbt (Below.refl _ _) hGt
        rw [List.getElem?_eq_getElem (show ((F : Int)).toNat < t.length by omega), List.getElem?_eq_getElem (show ((G : Int)).toNat < t.length by omega)] at hiff
        simp only [Int.toNat_natCast, Option.some.injEq] at hiff
        have j0 : (0 : Int) ≤ (F : Int) := by omega
        have j1 : (F : Int) < (t.length : Int) := by omega
        have j2 : (0 : Int) ≤ (G : Int) := by omega
        have j3 : (G : Int) < (t.length : Int) := by omega
        generalize t[F] = x at *
        generalize t[G] = y at *
        clear hD hct hG h1 hA hR hlt hGt hK1
        by_cases hxy : x = y
        · have hn : ((x != y) : Bool) = false := by simp [hxy]
          have hyes := hide (hiff.2 hxy)
          clear hiff hxy
          go_wp2_with fail
          go_quiet ((go_at_call 96; exact Calls.quiet_of (H96.out _)))
          go_wp2_with fail
          go_quiet (fail)
          go_wp2_with fail
          go_ret
          first | exact .inr ⟨hyes.out, rfl, HMV.out _ (HM1.out.drewN _) hyes.out⟩ | exact .inr ⟨hyes.out, rfl, HMV.out _ ((HM1.out.drewN _).drewN _) hyes.out⟩ | exact .inr ⟨hyes.out, rfl, HMV.out _ (((HM1.out.drewN _).drewN _).drewN _) hyes.out⟩ | exact .inr ⟨hyes.out, rfl, HMV.out _ ((((HM1.out.drewN _).drewN _).drewN _).drewN _) hyes.out⟩
        · have hn : ((x != y) : Bool) = true := by simp [hxy]
          have hno := hide (fun h => hxy (hiff.1 h))
          clear hiff hxy
          go_wp2_with fail
          go_quiet ((go_at_call 96; exact Calls.quiet_of (H96.out _)))
          go_wp2_with fail
          go_quiet (fail)
          go_wp2_with fail
          go_ret
          first | exact .inl ⟨hno.out, rfl, HM1.out.drewN _⟩ | exact .inl ⟨hno.out, rfl, (HM1.out.drewN _).drewN _⟩ | exact .inl ⟨hno.out, rfl, ((HM1.out.drewN _).drewN _).drewN _⟩ | exact .inl ⟨hno.out, rfl, (((HM1.out.drewN _).drewN _).drewN _).drewN _⟩
end Go.Proofs.Ytagembkjmnfidaa
namespace Go.Proofs.Ytagembkjmnfidaa
open Go.RowKit
open Go.Proofs.Ml
set_option linter.unusedVariables false

set_option maxRecDepth 100000 in
set_option maxHeartbeats 3200000 in
theorem up86 (W0 : World) (M K : Nat) (v va vb : Value) (l : List Chg) (a b : List Int) (w : World) (h : MV W0 M v va vb l a b w) (hK : K < l.length) :
    Calls Try.prog 86 #[.pointer (some ⟨M, 0, none⟩), .int .i64 K] w (Step (canU a b) (-1) W0 M v va vb l a b K) := by
  have H95 := hide (region95 W0 M K v va vb l a b w h hK)
  have HNO := hide (fun (h : side a b l[K] = none) => side_val_no (va := va) (vb := vb) h)
  have HRD := hide (fun w1 (h1 : MV W0 M v va vb l a b w1) t f n (hs : side a b l[K] = some (t, f, n)) => side_rd (va := va) (vb := vb) (h1.ra.below h1.below (Nat.le_refl _)) (h1.rb.below h1.below (Nat.le_refl _)) hs)
  have hv := h.val
  have hvv := valid_iff.1 hv
  obtain ⟨m0, m1⟩ := hvv.1
  obtain ⟨n0, n1⟩ := hvv.2.1
  have HB := hide hvv.2.2.bounds
  have hsm := valid_small hv
  obtain ⟨Av, cv, hve, hgv⟩ := own_open h.own
  subst hve
  obtain ⟨g, rfl, hg0, hg1⟩ := hgv (by omega)
  obtain ⟨Aa, ca, hve, _, _, _, _⟩ := h.ra
  subst hve
  obtain ⟨Ab, cb, hve, _, _, _, _⟩ := h.rb
  subst hve
  have hMM := h.thr.lt
  have HM := hide h
  have HV := hide hv
  clear h hvv hv hgv
  go_enter Try.func86, Try.ntmps86
  go_wp2_with fail
  refine H95.out.mono ?_
  rintro e w1 ⟨rfl, hb1⟩
  have s1 := hb1.size
  have hm1 := HM.out.next hb1
  have hMw : M < w1.heap.size := by omega
  have hgw : g < w1.heap.size := by omega
  clear H95
  cases hs : side a b l[K] with
  | none =>
    have hno := hide (not_canU_side hK hs)
    have HM1 := hide hm1
    rw [HNO.out hs]
    clear HNO HRD hs hm1
    go_wp2_with fail
    go_ret
    exact .inl ⟨hno.out, rfl, HM1.out⟩
  | some x =>
    obtain ⟨t, f, n⟩ := x
    obtain ⟨g0, g1, g2⟩ := side_in HV.out (List.getElem?_eq_getElem hK) hs
    obtain ⟨vt, hsv, hrt⟩ := HRD.out w1 hm1 t f n hs
    have htl : (t.length : Int) ≤ 4096 := by
      rcases side_cases hs with ⟨rfl, _⟩ | ⟨rfl, _⟩ <;> omega
    obtain ⟨F, rfl⟩ := Int.eq_ofNat_of_zero_le g0
    obtain ⟨N, rfl⟩ := Int.eq_ofNat_of_zero_le (show 0 ≤ n by omega)
    obtain ⟨At, ct, rfl, _, _, _, hAt⟩ := hrt
    obtain ⟨bt, ot, rfl, hbt, hct⟩ := hAt (by omega)
    rw [hsv]
    have k0 : (0 : Int) ≤ (K : Int) := by omega
    have k1 : (K : Int) < (l.length : Int) := by omega
    have y0 := hm1.thr.c0
    have y1 := hm1.thr.c1
    have y2 := hm1.thr.c2
    have hcg : ∀ j u, (chVals l)[j]? = some u → w1.cell? ⟨g, 0 + j, none⟩ = some u := fun j u hu => by have := hm1.own.cells (g := g) rfl j u hu; rwa [add_head, ← Nat.zero_add j] at this
    obtain ⟨c0, c1, c2, c3⟩ := ch_cells (off := 0) hcg hgw (Below.refl _ _) hK
    rw [Nat.zero_add] at c0 c1 c2 c3
    have z0 := hm1.own.frozenAt (K * 4)
    have z2 := hm1.own.frozenAt (K * 4 + 2)
    have hR := HB.out l[K] (List.getElem_mem _)
    have hne1 : M ≠ g := by
      intro e
      have := own_other hm1.own hm1.thr (by decide)
      simp [Value.ownBlock, e] at this
    have hne2 : g ≠ M := fun e => hne1 e.symm
    have HM1 := hide hm1
    have HD := hide (fun A hA => up_some HV.out hK hs (A := A) hA)
    have HMV := hide (fun W (hW : MV W0 M (.slice (some ⟨g, 0, none⟩) l.length cv) (.slice Aa a.length ca) (.slice Ab b.length cb) l a b W) (hc : canU a b l K) => hW.move (-1) hK hg0 (fits_up hW.fit hc))
    clear HNO HRD hAt hsv hs hm1 HM hb1
    by_cases h2 : 0 < K
    · obtain ⟨P, hP⟩ : ∃ P, K = P + 1 := ⟨K - 1, by omega⟩
      have hPl : P < l.length := by omega
      have hR2 := HB.out l[P] (List.getElem_mem _)
      have hD := HD.out (l[K].o - (l[P].o + l[P].ol + 1)) (.inl ⟨P, hPl, hP, rfl⟩)
      have H96 := hide (end96 W0 M P _ _ _ l a b w1 HM1.out hPl)
      have e5 : IntKind.i64.wrap ((K : Int) - 1) = (P : Int) := by rw [IntWalk.i64_in _ (by omega)]; omega
      have e6 := IntWalk.i64_in (l[P].o + l[P].ol + 1) (by omega)
      have u2 : decide ((0 : Int) < (K : Int)) = true := by simp; omega
      clear HD hcg
      obtain ⟨A, hA⟩ : ∃ A, A = l[K].o - (l[P].o + l[P].ol + 1) := ⟨_, rfl⟩
      rw [← hA] at hD
      have e7 : IntKind.i64.wrap (l[K].o - (l[P].o + l[P].ol + 1)) = A := by rw [IntWalk.i64_in _ (by omega)]; exact hA.symm
      by_cases h1 : A < 1
      · have d1 : decide (A < 1) = true := by simpa using h1
        have hno := hide (hD.1 h1)
        clear hD hct h1 hR hA hR2 hP
        go_wp2_with fail
        refine H96.out.mono ?_
        rintro e w' ⟨rfl, n2, rfl⟩
        go_wp2_with fail
        go_quiet (fail)
        go_wp2_with fail
        go_ret
        first | exact .inl ⟨hno.out, rfl, HM1.out⟩ | exact .inl ⟨hno.out, rfl, HM1.out.drewN _⟩ | exact .inl ⟨hno.out, rfl, (HM1.out.drewN _).drewN _⟩ | exact .inl ⟨hno.out, rfl, ((HM1.out.drewN _).drewN _).drewN _⟩
      · have d1 : decide (A < 1) = false := by simpa using h1
        obtain ⟨hlt, hiff⟩ := hD.2 (by omega)
        obtain ⟨F1, hF1⟩ : ∃ G : Nat, F = G + 1 := ⟨F - 1, by omega⟩
        obtain ⟨G, hG⟩ : ∃ G : Nat, G + 1 = F + N := ⟨F + N - 1, by omega⟩
        have e10 : IntKind.i64.wrap ((F : Int) - 1) = (F1 : Int) := by rw [IntWalk.i64_in _ (by omega)]; omega
        have e11 : IntKind.i64.wrap ((F : Int) + (N : Int)) = (G : Int) + 1 := by rw [IntWalk.i64_in _ (by omega)]; omega
        have e12 : IntKind.i64.wrap ((G : Int) + 1 - 1) = (G : Int) := by rw [IntWalk.i64_in _ (by omega)]; omega
        have e13 : IntKind.i64.wrap (l[K].o - 1) = l[K].o + -1 := by rw [IntWalk.i64_in _ (by omega)]; omega
        have e14 : IntKind.i64.wrap (l[K].n - 1) = l[K].n + -1 := by rw [IntWalk.i64_in _ (by omega)]; omega
        rw [show (F : Int) - 1 = (F1 : Int) by omega, show (F : Int) + (N : Int) - 1 = (G : Int) by omega] at hiff
        have h1 : G < t.length := by omega
        have h3 : F1 < t.length := by omega
        have t0 := in_cells hct hbt (Below.refl _ _) h3
        have t1 := in_cells hct hbt (Below.refl _ _) h1
        rw [List.getElem?_eq_getElem (show ((F1 : Int)).toNat < t.length by omega), List.getElem?_eq_getElem (show ((G : Int)).toNat < t.length by omega)] at hiff
        simp only [Int.toNat_natCast, Option.some.injEq] at hiff
        have j0 : (0 : Int) ≤ (F1 : Int) := by omega
        have j1 : (F1 : Int) < (t.length : Int) := by omega
        have j2 : (0 : Int) ≤ (G : Int) := by omega
        have j3 : (G : Int) < (t.length : Int) := by omega
        generalize t[F1] = x at *
        generalize t[G] = y at *
        clear hD hct hG hlt hF1 hR hA hR2 hP
        by_cases hxy : x = y
        · have hn : ((x != y) : Bool) = false := by simp [hxy]
          have hyes := hide (hiff.2 hxy)
          clear hiff hxy
          go_wp2_with fail
          refine H96.out.mono ?_
          rintro e w' ⟨rfl, n2, rfl⟩
          go_wp2_with fail
          go_quiet (fail)
          go_wp2_with fail
          go_ret
          first | exact .inr ⟨hyes.out, rfl, HMV.out _ (HM1.out) hyes.out⟩ | exact .inr ⟨hyes.out, rfl, HMV.out _ (HM1.out.drewN _) hyes.out⟩ | exact .inr ⟨hyes.out, rfl, HMV.out _ ((HM1.out.drewN _).drewN _) hyes.out⟩ | exact .inr ⟨hyes.out, rfl, HMV.out _ (((HM1.out.drewN _).drewN _).drewN _) hyes.out⟩
        · have hn : ((x != y) : Bool) = true := by simp [hxy]
          have hno := hide (fun h => hxy (hiff.1 h))
          clear hiff hxy
          go_wp2_with fail
          refine H96.out.mono ?_
          rintro e w' ⟨rfl, n2, rfl⟩
          go_wp2_with fail
          go_quiet (fail)
          go_wp2_with fail
          go_ret
          first | exact .inl ⟨hno.out, rfl, HM1.out⟩ | exact .inl ⟨hno.out, rfl, HM1.out.drewN _⟩ | exact .inl ⟨hno.out, rfl, (HM1.out.drewN _).drewN _⟩ | exact .inl ⟨hno.out, rfl, ((HM1.out.drewN _).drewN _).drewN _⟩
    · have hK0 : K = 0 := by omega
      have hD := HD.out l[K].o (.inr ⟨hK0, rfl⟩)
      have u2 : decide ((0 : Int) < (K : Int)) = false := by simp; omega
      have u3 : decide (0 < K) = false := by simp; omega
      clear HD hcg hK0 h2
      by_cases h1 : l[K].o < 1
      · have d1 : decide (l[K].o < 1) = true := by simpa using h1
        have hno := hide (hD.1 h1)
        clear hD hct h1 hR
        go_wp2_with fail
        go_quiet (fail)
        go_wp2_with fail
        go_ret
        first | exact .inl ⟨hno.out, rfl, HM1.out⟩ | exact .inl ⟨hno.out, rfl, HM1.out.drewN _⟩ | exact .inl ⟨hno.out, rfl, (HM1.out.drewN _).drewN _⟩ | exact .inl ⟨hno.out, rfl, ((HM1.out.drewN _).drewN _).drewN _⟩
      · have d1 : decide (l[K].o < 1) = false := by simpa using h1
        obtain ⟨hlt, hiff⟩ := hD.2 (by omega)
        obtain ⟨F1, hF1⟩ : ∃ G : Nat, F = G + 1 := ⟨F - 1, by omega⟩
        obtain ⟨G, hG⟩ : ∃ G : Nat, G + 1 = F + N := ⟨F + N - 1, by omega⟩
        have e10 : IntKind.i64.wrap ((F : Int) - 1) = (F1 : Int) := by rw [IntWalk.i64_in _ (by omega)]; omega
        have e11 : IntKind.i64.wrap ((F : Int) + (N : Int)) = (G : Int) + 1 := by rw [IntWalk.i64_in _ (by omega)]; omega
        have e12 : IntKind.i64.wrap ((G : Int) + 1 - 1) = (G : Int) := by rw [IntWalk.i64_in _ (by omega)]; omega
        have e13 : IntKind.i64.wrap (l[K].o - 1) = l[K].o + -1 := by rw [IntWalk.i64_in _ (by omega)]; omega
        have e14 : IntKind.i64.wrap (l[K].n - 1) = l[K].n + -1 := by rw [IntWalk.i64_in _ (by omega)]; omega
        rw [show (F : Int) - 1 = (F1 : Int) by omega, show (F : Int) + (N : Int) - 1 = (G : Int) by omega] at hiff
        have h1 : G < t.length := by omega
        have h3 : F1 < t.length := by omega
        have t0 := in_cells hct hbt (Below.refl _ _) h3
        have t1 := in_cells hct hbt (Below.refl _ _) h1
        rw [List.getElem?_eq_getElem (show ((F1 : Int)).toNat < t.length by omega), List.getElem?_eq_getElem (show ((G : Int)).toNat < t.length by omega)] at hiff
        simp only [Int.toNat_natCast, Option.some.injEq] at hiff
        have j0 : (0 : Int) ≤ (F1 : Int) := by omega
        have j1 : (F1 : Int) < (t.length : Int) := by omega
        have j2 : (0 : Int) ≤ (G : Int) := by omega
        have j3 : (G : Int) < (t.length : Int) := by omega
        generalize t[F1] = x at *
        generalize t[G] = y at *
        clear hD hct hG hlt hF1 hR
        by_cases hxy : x = y
        · have hn : ((x != y) : Bool) = false := by simp [hxy]
          have hyes := hide (hiff.2 hxy)
          clear hiff hxy
          go_wp2_with fail
          go_quiet (fail)
          go_wp2_with fail
          go_ret
          first | exact .inr ⟨hyes.out, rfl, HMV.out _ (HM1.out) hyes.out⟩ | exact .inr ⟨hyes.out, rfl, HMV.out _ (HM1.out.drewN _) hyes.out⟩ | exact .inr ⟨hyes.out, rfl, HMV.out _ ((HM1.out.drewN _).drewN _) hyes.out⟩ | exact .inr ⟨hyes.out, rfl, HMV.out _ (((HM1.out.drewN _).drewN _).drewN _) hyes.out⟩
        · have hn : ((x != y) : Bool) = true := by simp [hxy]
          have hno := hide (fun h => hxy (hiff.1 h))
          clear hiff hxy
          go_wp2_with fail
          go_quiet (fail)
          go_wp2_with fail
          go_ret
          first | exact .inl ⟨hno.out, rfl, HM1.out⟩ | exact .inl ⟨hno.out, rfl, HM1.out.drewN _⟩ | exact .inl ⟨hno.out, rfl, (HM1.out.drewN _).drewN _⟩ | exact .inl ⟨hno.out, rfl, ((HM1.out.drewN _).drewN _).drewN _⟩
end Go.Proofs.Ytagembkjmnfidaa
namespace Go.Proofs.Ytagembkjmnfidaa
open Go.RowKit
open Go.Proofs.Ml
set_option linter.unusedVariables false

/-- What often leaves. -/
def Often (can : List Chg → Nat → Prop) (d : Int) (W0 : World) (M : Nat) (v va vb : Value) (l : List Chg) (a b : List Int) (K : Nat) (e : Ending) (w' : World) : Prop :=
  ∃ (c : Nat) (r : List Chg), e = .returned (.int .i64 c) ∧ Mv can d K c l r ∧ MV W0 M v va vb r a b w'
theorem MV.get {W0 : World} {M : Nat} {v va vb : Value} {l : List Chg} {a b : List Int} {w : World} (h : MV W0 M v va vb l a b w) : M < w.heap.size := h.thr.lt

set_option maxRecDepth 100000 in
set_option maxHeartbeats 1600000 in
theorem often_down (W0 : World) (M K : Nat) (v va vb : Value) (l : List Chg) (a b : List Int) (w : World) (h : MV W0 M v va vb l a b w) (hK : K < l.length) :
    Calls Try.prog 85 #[.func (.func 87) #[.pointer (some ⟨M, 0, none⟩)] #[], .int .i64 K] w (Often (canD a b) (1) W0 M v va vb l a b K) := by
  have HF := hide h.fit
  go_enter Try.func85, Try.ntmps85
  go_wp2_with fail
  go_loopw [5] (fun n wr => ∃ (c : Nat) (cur : List Chg), n = .int .i64 c ∧ c ≤ 4096 ∧ OfInv (canD a b) (1) K l c cur ∧ MV W0 M v va vb cur a b wr)
    (fun n _ => 5000 - (intOf n).toNat)
  case atStart => exact ⟨0, l, rfl, by omega, OfInv.start _ _ _ _, h⟩
  case round =>
    obtain ⟨c, cur, rfl, hc, hinv, hmv⟩ := hrel
    have HI := hide hinv
    have hKc : K < cur.length := by rw [hinv.len]; exact hK
    have HS := hide (down87 W0 M K v va vb cur a b wr hmv hKc)
    clear hinv hmv h
    go_wp2_with fail
    refine HS.out.mono ?_
    rintro e w' (⟨hcan, rfl, hm⟩ | ⟨hcan, rfl, hm⟩)
    · have HM := hide hm
      have HC := hide hcan
      clear hm hcan HS
      go_wp2_with fail
      go_ret
      exact ⟨c, cur, rfl, HI.out.fin HC.out, HM.out⟩
    · have HM := hide hm
      have hb := (HI.out.next hcan).bound (by omega) hK HF.out hm.fit
      have HC := hide hcan
      clear hm hcan HS
      have e1 : IntKind.i64.wrap ((c : Int) + 1) = ((c + 1 : Nat) : Int) := by rw [IntWalk.i64_in _ (by omega)]; omega
      go_wp2_with fail
      go_roundw
      case rel => exact ⟨c + 1, _, by go_num, hb, HI.out.next HC.out, HM.out⟩
      case measure => simp [intOf]; omega

set_option maxRecDepth 100000 in
set_option maxHeartbeats 1600000 in
theorem often_up (W0 : World) (M K : Nat) (v va vb : Value) (l : List Chg) (a b : List Int) (w : World) (h : MV W0 M v va vb l a b w) (hK : K < l.length) :
    Calls Try.prog 85 #[.func (.func 86) #[.pointer (some ⟨M, 0, none⟩)] #[], .int .i64 K] w (Often (canU a b) (-1) W0 M v va vb l a b K) := by
  have HF := hide h.fit
  go_enter Try.func85, Try.ntmps85
  go_wp2_with fail
  go_loopw [5] (fun n wr => ∃ (c : Nat) (cur : List Chg), n = .int .i64 c ∧ c ≤ 4096 ∧ OfInv (canU a b) (-1) K l c cur ∧ MV W0 M v va vb cur a b wr)
    (fun n _ => 5000 - (intOf n).toNat)
  case atStart => exact ⟨0, l, rfl, by omega, OfInv.start _ _ _ _, h⟩
  case round =>
    obtain ⟨c, cur, rfl, hc, hinv, hmv⟩ := hrel
    have HI := hide hinv
    have hKc : K < cur.length := by rw [hinv.len]; exact hK
    have HS := hide (up86 W0 M K v va vb cur a b wr hmv hKc)
    clear hinv hmv h
    go_wp2_with fail
    refine HS.out.mono ?_
    rintro e w' (⟨hcan, rfl, hm⟩ | ⟨hcan, rfl, hm⟩)
    · have HM := hide hm
      have HC := hide hcan
      clear hm hcan HS
      go_wp2_with fail
      go_ret
      exact ⟨c, cur, rfl, HI.out.fin HC.out, HM.out⟩
    · have HM := hide hm
      have hb := (HI.out.next hcan).bound (by omega) hK HF.out hm.fit
      have HC := hide hcan
      clear hm hcan HS
      have e1 : IntKind.i64.wrap ((c : Int) + 1) = ((c + 1 : Nat) : Int) := by rw [IntWalk.i64_in _ (by omega)]; omega
      go_wp2_with fail
      go_roundw
      case rel => exact ⟨c + 1, _, by go_num, hb, HI.out.next HC.out, HM.out⟩
      case measure => simp [intOf]; omega
end Go.Proofs.Ytagembkjmnfidaa
