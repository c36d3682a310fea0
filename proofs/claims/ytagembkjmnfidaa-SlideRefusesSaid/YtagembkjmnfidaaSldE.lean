import Derived.Test.YtagembkjmnfidaaSldD
import Derived.Test.YtagembkjmnfidaaFts
namespace Go.Proofs.Ytagembkjmnfidaa
open Go.RowKit
open Go.Proofs.Ml
set_option linter.unusedVariables false

/-- The block of a mover: the script, the two texts. -/
def Thr (w : World) (M : Nat) (x y z : Value) : Prop := w.heap[M]? = some (.cells #[x, y, z] 105 (0, 0))
theorem Thr.c0 {w : World} {M : Nat} {x y z : Value} (h : Thr w M x y z) : w.cell? ⟨M, 0, none⟩ = some x := cell_of_row w M 0 #[x, y, z] 105 (0, 0) h
theorem Thr.c1 {w : World} {M : Nat} {x y z : Value} (h : Thr w M x y z) : w.cell? ⟨M, 1, none⟩ = some y := cell_of_row w M 1 #[x, y, z] 105 (0, 0) h
theorem Thr.c2 {w : World} {M : Nat} {x y z : Value} (h : Thr w M x y z) : w.cell? ⟨M, 2, none⟩ = some z := cell_of_row w M 2 #[x, y, z] 105 (0, 0) h
theorem Thr.lt {w : World} {M : Nat} {x y z : Value} (h : Thr w M x y z) : M < w.heap.size := (Array.getElem?_eq_some_iff.1 h).1
theorem Thr.below {w w' : World} {M N : Nat} {x y z : Value} (h : Thr w M x y z) (hb : Below N w w') (hN : M < N) : Thr w' M x y z := (hb.block M hN).trans h
/-- A mover at its work: W0 is the world in which the work began. -/
structure MV (W0 : World) (M : Nat) (v va vb : Value) (l : List Chg) (a b : List Int) (w : World) : Prop where
  below : Below W0.heap.size W0 w
  ra : Rd W0 va 1 a.length (inVals a)
  rb : Rd W0 vb 1 b.length (inVals b)
  own : w.ownsRow W0.heap.size 45 4 v l.length (chVals l)
  thr : Thr w M v va vb
  hM : W0.heap.size ≤ M
  fit : fits l a b = true
theorem MV.val {W0 : World} {M : Nat} {v va vb : Value} {l : List Chg} {a b : List Int} {w : World} (h : MV W0 M v va vb l a b w) : valid l a.length b.length = true := (fits_iff.1 h.fit).1
theorem MV.next {W0 : World} {M : Nat} {v va vb : Value} {l : List Chg} {a b : List Int} {w w' : World} (h : MV W0 M v va vb l a b w) (hb : Below w.heap.size w w') : MV W0 M v va vb l a b w' :=
  ⟨h.below.trans (hb.mono h.below.size), h.ra, h.rb, own_below h.own hb (Nat.le_refl _), h.thr.below hb h.thr.lt, h.hM, h.fit⟩

set_option maxRecDepth 100000 in
set_option maxHeartbeats 1600000 in
theorem region95 (W0 : World) (M K : Nat) (v va vb : Value) (l : List Chg) (a b : List Int) (w : World) (h : MV W0 M v va vb l a b w) (hK : K < l.length) :
    Calls Try.prog 95 #[.pointer (some ⟨M, 0, none⟩), .int .i64 K] w fun e w' => e = .returned (sideVal va vb l[K]) ∧ Below w.heap.size w w' := by
  have hr := Rd.of_own h.own
  obtain ⟨Aa, ca, rfl, _, _, _, _⟩ := h.ra
  obtain ⟨Ab, cb, rfl, _, _, _, _⟩ := h.rb
  obtain ⟨A, cap, rfl, _, _, _, hA⟩ := hr
  obtain ⟨b0, off, rfl, hb0, hc⟩ := hA (by omega)
  obtain ⟨c0, c1, c2, c3⟩ := ch_cells hc hb0 (Below.refl _ _) hK
  have t0 := h.thr.c0
  have t1 := h.thr.c1
  have t2 := h.thr.c2
  have t3 := h.thr.lt
  have k0 : (0 : Int) ≤ (K : Int) := by omega
  have k1 : (K : Int) < (l.length : Int) := by omega
  clear hA hc h
  generalize l[K] = C at *
  obtain ⟨o, ol, n, nl⟩ := C
  unfold sideVal
  simp only at c0 c1 c2 c3 ⊢
  by_cases h1 : nl = 0
  · subst h1
    rw [if_pos rfl]
    go_enter Try.func95, Try.ntmps95
    go_wp2_with fail
    go_quiet (fail)
    go_wp2_with fail
    go_returns
    exact ⟨rfl, below_drewN (by go_grown) _⟩
  · rw [if_neg h1]
    have d1 : ((nl == 0) : Bool) = false := by simpa using h1
    clear h1
    by_cases h2 : ol = 0
    · subst h2
      rw [if_pos rfl]
      go_enter Try.func95, Try.ntmps95
      go_wp2_with fail
      go_quiet (fail)
      go_wp2_with fail
      go_returns
      exact ⟨rfl, below_drewN (by go_grown) _⟩
    · rw [if_neg h2]
      have d2 : ((ol == 0) : Bool) = false := by simpa using h2
      clear h2
      go_enter Try.func95, Try.ntmps95
      go_wp2_with fail
      go_returns
      exact ⟨rfl, by go_grown⟩

set_option maxRecDepth 100000 in
set_option maxHeartbeats 1600000 in
theorem end96 (W0 : World) (M K : Nat) (v va vb : Value) (l : List Chg) (a b : List Int) (w : World) (h : MV W0 M v va vb l a b w) (hK : K < l.length) :
    Calls Try.prog 96 #[.pointer (some ⟨M, 0, none⟩), .int .i64 K] w fun e w' => e = .returned (.int .i64 (l[K].o + l[K].ol)) ∧ ∃ n, w' = w.drewN n := by
  have hr := Rd.of_own h.own
  have hB := (valid_iff.1 h.val).2.2.bounds l[K] (List.getElem_mem _)
  obtain ⟨A, cap, rfl, _, _, _, hA⟩ := hr
  obtain ⟨b0, off, rfl, hb0, hc⟩ := hA (by omega)
  obtain ⟨c0, c1, c2, c3⟩ := ch_cells hc hb0 (Below.refl _ _) hK
  have t0 := h.thr.c0
  have t3 := h.thr.lt
  have k0 : (0 : Int) ≤ (K : Int) := by omega
  have k1 : (K : Int) < (l.length : Int) := by omega
  have e1 := IntWalk.i64_in (l[K].o + l[K].ol) (by omega)
  clear hA hc h hB
  generalize l[K] = C at *
  go_enter Try.func96, Try.ntmps96
  go_wp2_with fail
  go_quiet (fail)
  go_wp2_with fail
  go_ret
  exact ⟨rfl, _, rfl⟩

set_option maxRecDepth 100000 in
set_option maxHeartbeats 1600000 in
theorem start84 (v va vb : Value) (l : List Chg) (a b : List Int) (w : World) (hr : Rd w v 4 l.length (chVals l)) (hra : Rd w va 1 a.length (inVals a)) (hrb : Rd w vb 1 b.length (inVals b)) (hl : l.length ≤ 900000) :
    Calls Try.prog 84 #[v, va, vb] w fun e w' => (fits l a b = false ∧ e = .returned (.tuple #[.pointer none, .int .i64 80]) ∧ Below w.heap.size w w') ∨ (fits l a b = true ∧ ∃ M v', e = .returned (.tuple #[.pointer (some ⟨M, 0, none⟩), .int .i64 0]) ∧ MV w M v' va vb l a b w') := by
  have HR := hide hr
  have HRA := hide hra
  have HRB := hide hrb
  have H47 := hide (fits47 v va vb l a b w hr hra hrb hl)
  obtain ⟨Aa, ca, rfl, _, _, _, _⟩ := hra
  obtain ⟨Ab, cb, rfl, _, _, _, _⟩ := hrb
  obtain ⟨A, cap, rfl, _, _, _, hA⟩ := hr
  clear hA
  go_enter Try.func84, Try.ntmps84
  go_wp2_with fail
  refine H47.out.mono ?_
  rintro e w1 ⟨rfl, hb1⟩
  have s1 := hb1.size
  cases hf : fits l a b with
  | false =>
    have HF := hide hf
    clear hf
    go_wp2_with fail
    go_returns
    exact .inl ⟨HF.out, rfl, hb1⟩
  | true =>
    have HF := hide hf
    clear hf
    go_wp2_with fail
    refine (clone94 _ l _ (HR.out.below hb1 (Nat.le_refl _)) hl).mono ?_
    rintro e w2 ⟨v2, rfl, ho, hb2⟩
    have s2 := hb2.size
    have HO := hide ho
    obtain ⟨Aq, cq, rfl, hgq⟩ := own_open ho
    clear ho hgq
    go_wp2_with fail
    go_returns
    exact .inr ⟨HF.out, w2.heap.size, _, rfl, ⟨(hb1.trans (hb2.mono s1)).alloc (by omega) _, HRA.out, HRB.out, own_base (HO.out.alloc _) s1, heap_alloc_new w2 _, by omega, HF.out⟩⟩
end Go.Proofs.Ytagembkjmnfidaa
