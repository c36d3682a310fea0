import Derived.Test.YtagembkjmnfidaaSec
import Derived.Test.YtagembkjmnfidaaSpecK
import Derived.Test.YtagembkjmnfidaaSpecB
import Derived.Test.YtagembkjmnfidaaBaseF
import Derived.Deep.RegionHeld3
namespace Go.Proofs.Ytagembkjmnfidaa
open Go.RowKit
open Go.Proofs.Ml
set_option linter.unusedVariables false

theorem drop_rev {α : Type} (l : List α) (P : Nat) (h : P < l.length) : (l.drop P).reverse = (l.drop (P + 1)).reverse ++ [l[P]] := by
  rw [List.drop_eq_getElem_cons h, List.reverse_cons]

set_option maxRecDepth 100000 in
set_option maxHeartbeats 800000 in
theorem back73 (v : Value) (l : List Int) (w : World) (hr : Rd w v 1 l.length (inVals l)) (hl : l.length ≤ 5000) :
    Calls Try.prog 73 #[v] w (RetRow w 3 1 l.length (inVals l.reverse)) := by
  obtain ⟨A, cap, rfl, _, _, _, hA⟩ := hr
  have e0 := IntWalk.i64_in ((l.length : Int) - 1) (by omega)
  go_enter Try.func73, Try.ntmps73
  go_wp2_with fail
  go_loopw [3, 4] (fun v k wr => ∃ (z : Int) (J : Nat) (L : List Int), k = .int .i64 z ∧ z = (J : Int) - 1 ∧ J ≤ l.length ∧ L = (l.drop J).reverse ∧ wr.ownsRow w.heap.size 3 1 v L.length (inVals L) ∧ Below w.heap.size w wr)
    (fun _ k _ => (intOf k + 1).toNat)
  case atStart => exact ⟨_, l.length, [], rfl, rfl, Nat.le_refl _, by simp, World.ownsRow_nil _ _ _ _, Below.refl _ _⟩
  case round =>
    obtain ⟨z, J, L, rfl, hz, hJ, hL, hown, hbel⟩ := hrel
    have hbs := hbel.size
    have hL1 : L.length ≤ 5000 := by rw [hL]; simp; omega
    have HL := hide hL
    clear hL
    by_cases h0 : 0 ≤ z
    · obtain ⟨P, rfl⟩ := Int.eq_ofNat_of_zero_le h0
      obtain rfl : J = P + 1 := by omega
      obtain ⟨b, off, rfl, hb, hc⟩ := hA (by omega)
      have d0 := in_cells hc hb hbel (show P < l.length by omega)
      have hbw : b < wr.heap.size := by omega
      have k0 : (0 : Int) ≤ (P : Int) := by omega
      have k1 : (P : Int) < (l.length : Int) := by omega
      have e1 := IntWalk.i64_in ((P : Int) - 1) (by omega)
      clear hz hc
      go_wp2_with (at_builtin; go_must (refine wp_app1 rfl (.tmp 12) (.tmp 17) 22 3 1 8 _ rfl Try.underlying22 info3 rfl (by omega) (by omega) wr _ w.heap.size L.length _ (inVals L) rfl _ _ rfl rfl hown hown (Nat.le_refl _) rfl rfl (by omega) hbs ?_); intro v1 w1 hown1 hb1 hold hsz1; clear hold)
      go_roundw
      case rel => exact ⟨_, P, L ++ [l[P]], rfl, rfl, by omega, by rw [HL.out, drop_rev l P (by omega)], own_in hown1, hbel.trans hb1⟩
      case measure => simp [intOf]
    · obtain rfl : J = 0 := by omega
      have hR : L = l.reverse := by rw [HL.out, List.drop_zero]
      subst hR
      rw [List.length_reverse] at hown
      have HO := hide hown
      obtain ⟨A', c', rfl, _⟩ := own_open hown
      clear hown
      go_wp2_with fail
      go_ret
      exact ⟨_, rfl, HO.out, hbel⟩

set_option maxRecDepth 100000 in
set_option maxHeartbeats 3200000 in
theorem turned72 (v : Value) (l : List Chg) (m n : Int) (w : World) (hr : Rd w v 4 l.length (chVals l)) (hv : valid l m n = true) :
    Calls Try.prog 72 #[v, .int .i64 m, .int .i64 n] w (RetRow w 45 4 (turn m n l).length (chVals (turn m n l))) := by
  have hvv := valid_iff.1 hv
  obtain ⟨m0, m1⟩ := hvv.1
  obtain ⟨n0, n1⟩ := hvv.2.1
  have HB := hide hvv.2.2.bounds
  have hl : l.length ≤ 9000 := by have := (valid_val hv).length; omega
  obtain ⟨A, cap, rfl, _, _, _, hA⟩ := hr
  have e0 := IntWalk.i64_in ((l.length : Int) - 1) (by omega)
  clear hvv hv
  go_enter Try.func72, Try.ntmps72
  go_wp2_with fail
  go_loopw [7, 8] (fun v k wr => ∃ (z : Int) (J : Nat) (L : List Chg), k = .int .i64 z ∧ z = (J : Int) - 1 ∧ J ≤ l.length ∧ L = ((l.drop J).map (Chg.flip m n)).reverse ∧ wr.ownsRow w.heap.size 45 4 v L.length (chVals L) ∧ Below w.heap.size w wr)
    (fun _ k _ => (intOf k + 1).toNat)
  case atStart => exact ⟨_, l.length, [], rfl, rfl, Nat.le_refl _, by simp, World.ownsRow_nil _ _ _ _, Below.refl _ _⟩
  case round =>
    obtain ⟨z, J, L, rfl, hz, hJ, hL, hown, hbel⟩ := hrel
    have hbs := hbel.size
    have hL1 : L.length ≤ 9000 := by rw [hL]; simp; omega
    have HL := hide hL
    clear hL
    by_cases h0 : 0 ≤ z
    · obtain ⟨P, rfl⟩ := Int.eq_ofNat_of_zero_le h0
      obtain rfl : J = P + 1 := by omega
      obtain ⟨b, off, rfl, hb, hc⟩ := hA (by omega)
      obtain ⟨c0, c1, c2, c3⟩ := ch_cells hc hb hbel (show P < l.length by omega)
      have hbw : b < wr.heap.size := by omega
      have k0 : (0 : Int) ≤ (P : Int) := by omega
      have k1 : (P : Int) < (l.length : Int) := by omega
      have e1 := IntWalk.i64_in ((P : Int) - 1) (by omega)
      have hR := HB.out l[P] (List.getElem_mem _)
      have HD := hide (show ((l.drop P).map (Chg.flip m n)).reverse = L ++ [l[P].flip m n] by rw [HL.out, ← List.map_reverse, ← List.map_reverse, drop_rev l P (by omega), List.map_append]; rfl)
      clear hz hc
      generalize l[P] = C at *
      have e2 := IntWalk.i64_in (m - C.o) (by omega)
      have e3 := IntWalk.i64_in (m - C.o - C.ol) (by omega)
      have e4 := IntWalk.i64_in (n - C.n) (by omega)
      have e5 := IntWalk.i64_in (n - C.n - C.nl) (by omega)
      go_wp2_with fail
      go_region_held3 (fun w' => w'.cell? ⟨b, off + P * 4, none⟩ = some (.int .i64 C.o) ∧ w'.cell? ⟨b, off + P * 4 + 1, none⟩ = some (.int .i64 C.ol) ∧ w'.cell? ⟨b, off + P * 4 + 2, none⟩ = some (.int .i64 C.n) ∧ w'.cell? ⟨b, off + P * 4 + 3, none⟩ = some (.int .i64 C.nl))
        (first | go_keep | exact ⟨(hb2.cell (p := ⟨b, off + P * 4, none⟩) hb).trans c0, (hb2.cell (p := ⟨b, off + P * 4 + 1, none⟩) hb).trans c1, (hb2.cell (p := ⟨b, off + P * 4 + 2, none⟩) hb).trans c2, (hb2.cell (p := ⟨b, off + P * 4 + 3, none⟩) hb).trans c3⟩)
        ((refine step_app1 rfl (.tmp 16) (.tmp 54) 23 45 4 32 _ (by rfl) Try.underlying23 info45 rfl (by omega) (by omega) wr wr.drew w.heap.size L.length _ (chVals L) (by rfl) _ _ (by rfl) rfl (by rfl) hown (own_drew hown) (Nat.le_refl _) rfl rfl (by omega) hbs ?_; intro v2 w2 hown2 hb2 hold hsz2))
      have hown3 := own_ch (c := C.flip m n) hown2
      have hb2_ : Below w.heap.size wr w2 := ((Below.refl w.heap.size wr).drew).trans hb2
      rw [← HD.out] at hown3
      clear hold
      go_wp2_with fail
      go_roundw
      case rel => exact ⟨_, P, _, rfl, rfl, by omega, rfl, hown3, hbel.trans hb2_⟩
      case measure => simp [intOf]
    · obtain rfl : J = 0 := by omega
      have hR : L = turn m n l := by rw [HL.out, List.drop_zero]; rfl
      subst hR
      have HO := hide hown
      obtain ⟨A', c', rfl, _⟩ := own_open hown
      clear hown
      go_wp2_with fail
      go_ret
      exact ⟨_, rfl, HO.out, hbel⟩
end Go.Proofs.Ytagembkjmnfidaa
