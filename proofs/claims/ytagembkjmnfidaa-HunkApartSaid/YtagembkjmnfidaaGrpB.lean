import Derived.Test.YtagembkjmnfidaaChkB
import Derived.Test.YtagembkjmnfidaaGrpA
import Derived.Test.YtagembkjmnfidaaBaseC
import Derived.Test.YtagembkjmnfidaaSpecC
import Derived.StillTailTactics
import Derived.Deep.AppendLies
import Derived.Deep.RegionHeld3
namespace Go.Proofs.Ytagembkjmnfidaa
open Go.RowKit
open Go.Proofs.Ml
set_option linter.unusedVariables false

set_option maxRecDepth 100000 in
set_option maxHeartbeats 1600000 in
theorem refgroup30 (v : Value) (l : List Chg) (m n ctx : Int) (w : World) (hr : Rd w v 4 l.length (chVals l)) (hl : l.length ≤ 900000) :
    Calls Try.prog 30 #[v, .int .i64 m, .int .i64 n, .int .i64 ctx] w (RetRowErr w 37 6 (grp l m n ctx).length (hkVals (grp l m n ctx)) (grpErr l m n ctx)) := by
  by_cases hx : ctx < 0 ∨ 1048576 < ctx
  · have HE := hide (grp_range (l := l) (m := m) (n := n) hx)
    rcases hx with hx | hx
    all_goals
      go_enter Try.func30, Try.ntmps30
      go_wp2_with fail
      go_ret2
      have HE := HE.out
      exact ret_row_err (World.ownsRow_nil _ _ _ _) (Below.refl _ _) (by rw [HE.2]; rfl) (by rw [HE.2]; rfl) HE.1.symm
  have hx0 : 0 ≤ ctx := by omega
  have hx1 : ctx ≤ 1048576 := by omega
  clear hx
  cases hv : valid l m n with
  | false =>
    have HE := hide (grp_script (l := l) (m := m) (n := n) ⟨hx0, hx1⟩ hv)
    have HR := hide hr
    have HV := hide hv
    clear hr hv
    go_enter Try.func30, Try.ntmps30
    go_wp2_with fail
    refine (check38 _ l m n _ HR.out (by omega)).mono ?_
    rintro e w1 ⟨rfl, hb1⟩
    rw [HV.out]
    simp only [errOf, Bool.false_eq_true, if_false]
    go_wp2_with fail
    go_ret2
    have HE := HE.out
    exact ret_row_err (World.ownsRow_nil _ _ _ _) hb1 (by rw [HE.2]; rfl) (by rw [HE.2]; rfl) HE.1.symm
  | true =>
    have HE := hide (grp_ok (l := l) (m := m) (n := n) ⟨hx0, hx1⟩ hv)
    have HR := hide hr
    have HV := hide hv
    have hvv := valid_iff.1 hv
    have HB := hide hvv.2.2.bounds
    obtain ⟨hm0, hm1⟩ := hvv.1
    clear hr hv hvv
    go_enter Try.func30, Try.ntmps30
    go_wp2_with fail
    refine (check38 _ l m n _ HR.out (by omega)).mono ?_
    rintro e w0 ⟨rfl, hb0⟩
    rw [HV.out]
    simp only [errOf, if_true]
    have hb0s := hb0.size
    obtain ⟨A, cap, rfl, hcap, hcap', hlen, hA⟩ := HR.out
    clear hlen hcap hcap'
    go_wp2_with fail
    go_loopw [11, 12] (fun v k wr => ∃ (K : Nat) (L : List Hnk), K ≤ l.length ∧ k = .int .i64 K ∧ L.length ≤ K ∧ wr.ownsRow w.heap.size 37 6 v L.length (hkVals L) ∧ Below w.heap.size w wr ∧ RgInv l m ctx K L)
      (fun _ k _ => l.length - (intOf k).toNat)
    case atStart => exact ⟨0, [], by omega, rfl, by simp, World.ownsRow_nil _ _ _ _, hb0, RgInv.start l m ctx⟩
    case round =>
      obtain ⟨K, L, hK, rfl, hL, hown, hbel, hinv⟩ := hrel
      have hbs := hbel.size
      by_cases hlt : K < l.length
      · obtain ⟨b, off, rfl, hb, hc⟩ := hA (by omega)
        have hbw : b < wr.heap.size := by omega
        obtain ⟨c0, c1, c2, c3⟩ := ch_cells hc hb hbel hlt
        have hbK := HB.out l[K] (List.getElem_mem _)
        have hi0 : (0 : Int) ≤ (K : Int) := by omega
        have hi1 : (K : Int) < (l.length : Int) := by omega
        by_cases hK0 : K = 0
        · have HI := hide (hinv.first' hK0 hlt)
          have hE : (((K : Int) == 0) : Bool) = true := by rw [beq_iff_eq]; omega
          clear hA hc hinv
          have hK1 : K ≤ 0 := by omega
          clear hK0
          generalize l[K] = D at *
          obtain ⟨P, POL, PN, PNL⟩ := D
          simp only at c0 c1 c2 c3 hbK
          rcases Int.lt_or_le P ctx with hmn | hmn
          all_goals
            go_wp2_with fail
            go_quiet (fail)
            go_wp2_with fail
            go_region_held3 (fun w' => w'.cell? ⟨b, off + K * 4, none⟩ = some (.int .i64 P) ∧ w'.cell? ⟨b, off + K * 4 + 1, none⟩ = some (.int .i64 POL) ∧ w'.cell? ⟨b, off + K * 4 + 2, none⟩ = some (.int .i64 PN) ∧ w'.cell? ⟨b, off + K * 4 + 3, none⟩ = some (.int .i64 PNL))
              (first | go_keep | exact ⟨(hb2.cell (p := ⟨b, off + K * 4, none⟩) hb).trans c0, (hb2.cell (p := ⟨b, off + K * 4 + 1, none⟩) hb).trans c1, (hb2.cell (p := ⟨b, off + K * 4 + 2, none⟩) hb).trans c2, (hb2.cell (p := ⟨b, off + K * 4 + 3, none⟩) hb).trans c3⟩)
              ((refine step_app1 rfl (.tmp 70) (.tmp 89) 27 37 6 48 _ (by rfl) Try.underlying27 info37 rfl (by omega) (by omega) wr (wr.drewN nq).drew w.heap.size L.length _ (hkVals L) (by rfl) _ _ (by rfl) rfl (by rfl) hown (own_drew (own_drewN hown _)) (Nat.le_refl _) rfl rfl (by omega) hbs ?_; intro v2 w2 hown2 hb2 hold hsz2))
            have hS : w2.cell? ⟨b, off + K * 4, none⟩ = some (.int .i64 P) ∧ w2.cell? ⟨b, off + K * 4 + 1, none⟩ = some (.int .i64 POL) ∧ w2.cell? ⟨b, off + K * 4 + 2, none⟩ = some (.int .i64 PN) ∧ w2.cell? ⟨b, off + K * 4 + 3, none⟩ = some (.int .i64 PNL) := by assumption
            clear hold
            obtain ⟨f0, f1, f2, f3⟩ := hS
            obtain ⟨g, cp, rfl, hg0, hg1⟩ := hown2.form (by omega)
            have hown3 := own_hk_app hown2
            clear hown2 hown c0 c1 c2 c3
            go_wp2_with fail
            go_quiet (fail)
            have hla := last_cells hown3
            have hz1 := hown3.frozenAt (L.length * 6 + 1)
            have hz3 := hown3.frozenAt (L.length * 6 + 3)
            have hz5 := hown3.frozenAt (L.length * 6 + 5)
            obtain ⟨hl1, hl3, hl5⟩ := hla
            go_wp2_with fail
            all_goals
              go_roundw
              case rel =>
                have hw0 : IntKind.i64.wrap 0 = 0 := rfl
                have hw1 : IntKind.i64.wrap (P - ctx) = P - ctx := IntWalk.i64_in _ (by omega)
                have hw2 : IntKind.i64.wrap (PN - ctx) = PN - ctx := IntWalk.i64_in _ (by omega)
                have hw3 : IntKind.i64.wrap (PN - P) = PN - P := IntWalk.i64_in _ (by omega)
                exact ⟨K + 1, L ++ [⟨_, _, _, _, _, _⟩], by omega, by go_num, by simp; omega, own_upd (own_drewN hown3 _), (((below_drewN (hbel.trans ((below_drewN (Below.refl _ wr) _).drew.trans hb2)) _).setCell hg0 _).setCell hg0 _).setCell hg0 _, RgInv.congr HI.out (by omega) (by first | rfl | omega | (simp only [close]; done) | (simp only [close]; omega)) (by first | rfl | omega | (simp only [close]; done) | (simp only [close]; omega)) (by first | rfl | omega | (simp only [close]; done) | (simp only [close]; omega)) (by first | rfl | omega | (simp only [close]; done) | (simp only [close]; omega)) (by first | rfl | omega | (simp only [close]; done) | (simp only [close]; omega)) (by first | rfl | omega | (simp only [close]; done) | (simp only [close]; omega))⟩
              case measure => simp [intOf]; omega
        obtain ⟨K, rfl⟩ : ∃ K', K = K' + 1 := ⟨K - 1, by omega⟩
        clear hK0
        · obtain ⟨d0, d1, d2, d3⟩ := ch_cells hc hb hbel (show K < l.length by omega)
          have hbP := HB.out l[K] (List.getElem_mem _)
          have hE : (((K : Int) + 1 == 0) : Bool) = false := by rw [beq_eq_false_iff_ne]; omega
          have hi2 : (0 : Int) ≤ (K : Int) := by omega
          have hi3 : (K : Int) < (l.length : Int) := by omega
          have hi4 : (0 : Int) ≤ (K : Int) + 1 := by omega
          have hi5 : (K : Int) + 1 < (l.length : Int) := by omega
          by_cases hg : 2 * ctx < l[K + 1].o - l[K].o - l[K].ol
          · have HI := hide (hinv.cut hlt hg)
            clear hA hc hinv
            generalize l[K + 1] = D at *
            generalize l[K] = C at *
            obtain ⟨O, OL, N, NL⟩ := C
            obtain ⟨P, POL, PN, PNL⟩ := D
            simp only at c0 c1 c2 c3 d0 d1 d2 d3 hbK hbP hg
            go_wp2_with fail
            go_quiet (fail)
            go_wp2_with fail
            go_region_held3 (fun w' => w'.cell? ⟨b, off + (K + 1) * 4, none⟩ = some (.int .i64 P) ∧ w'.cell? ⟨b, off + (K + 1) * 4 + 1, none⟩ = some (.int .i64 POL) ∧ w'.cell? ⟨b, off + (K + 1) * 4 + 2, none⟩ = some (.int .i64 PN) ∧ w'.cell? ⟨b, off + (K + 1) * 4 + 3, none⟩ = some (.int .i64 PNL))
              (first | go_keep | exact ⟨(hb2.cell (p := ⟨b, off + (K + 1) * 4, none⟩) hb).trans c0, (hb2.cell (p := ⟨b, off + (K + 1) * 4 + 1, none⟩) hb).trans c1, (hb2.cell (p := ⟨b, off + (K + 1) * 4 + 2, none⟩) hb).trans c2, (hb2.cell (p := ⟨b, off + (K + 1) * 4 + 3, none⟩) hb).trans c3⟩)
              ((refine step_app1 rfl (.tmp 70) (.tmp 89) 27 37 6 48 _ (by rfl) Try.underlying27 info37 rfl (by omega) (by omega) wr (wr.drewN nq).drew w.heap.size L.length _ (hkVals L) (by rfl) _ _ (by rfl) rfl (by rfl) hown (own_drew (own_drewN hown _)) (Nat.le_refl _) rfl rfl (by omega) hbs ?_; intro v2 w2 hown2 hb2 hold hsz2))
            have hS : w2.cell? ⟨b, off + (K + 1) * 4, none⟩ = some (.int .i64 P) ∧ w2.cell? ⟨b, off + (K + 1) * 4 + 1, none⟩ = some (.int .i64 POL) ∧ w2.cell? ⟨b, off + (K + 1) * 4 + 2, none⟩ = some (.int .i64 PN) ∧ w2.cell? ⟨b, off + (K + 1) * 4 + 3, none⟩ = some (.int .i64 PNL) := by assumption
            clear hold
            obtain ⟨f0, f1, f2, f3⟩ := hS
            obtain ⟨g, cp, rfl, hg0, hg1⟩ := hown2.form (by omega)
            have hown3 := own_hk_app hown2
            clear hown2 hown c0 c1 c2 c3
            go_wp2_with fail
            go_quiet (fail)
            have hla := last_cells hown3
            have hz1 := hown3.frozenAt (L.length * 6 + 1)
            have hz3 := hown3.frozenAt (L.length * 6 + 3)
            have hz5 := hown3.frozenAt (L.length * 6 + 5)
            obtain ⟨hl1, hl3, hl5⟩ := hla
            go_wp2_with fail
            all_goals
              go_roundw
              case rel =>
                have hw1 : IntKind.i64.wrap (P - ctx) = P - ctx := IntWalk.i64_in _ (by omega)
                have hw2 : IntKind.i64.wrap (PN - ctx) = PN - ctx := IntWalk.i64_in _ (by omega)
                exact ⟨K + 2, L ++ [⟨_, _, _, _, _, _⟩], by omega, by go_num, by simp; omega, own_upd (own_drewN hown3 _), (((below_drewN (hbel.trans ((below_drewN (Below.refl _ wr) _).drew.trans hb2)) _).setCell hg0 _).setCell hg0 _).setCell hg0 _, RgInv.congr HI.out (by omega) (by first | rfl | omega | (simp only [close]; done) | (simp only [close]; omega)) (by first | rfl | omega | (simp only [close]; done) | (simp only [close]; omega)) (by first | rfl | omega | (simp only [close]; done) | (simp only [close]; omega)) (by first | rfl | omega | (simp only [close]; done) | (simp only [close]; omega)) (by first | rfl | omega | (simp only [close]; done) | (simp only [close]; omega)) (by first | rfl | omega | (simp only [close]; done) | (simp only [close]; omega))⟩
              case measure => simp [intOf]; omega
          · obtain ⟨L0, H0, rfl, HI⟩ := hinv.keep hlt hg
            have HI := hide HI
            clear hA hc hinv
            generalize l[K + 1] = D at *
            generalize l[K] = C at *
            obtain ⟨O, OL, N, NL⟩ := C
            obtain ⟨P, POL, PN, PNL⟩ := D
            obtain ⟨x0, x1, x2, x3, x4, x5⟩ := H0
            simp only at c0 c1 c2 c3 d0 d1 d2 d3 hbK hbP hg
            obtain ⟨g, cp, rfl, hg0, hg1⟩ := hown.form (by simp)
            have hLl : (L0 ++ [(⟨x0, x1, x2, x3, x4, x5⟩ : Hnk)]).length = L0.length + 1 := by simp
            rw [hLl] at hown hL
            have hLe := hide hLl
            rw [hLl]
            clear hLl
            go_wp2_with fail
            go_quiet (fail)
            go_wp2_with fail
            go_quiet (fail)
            have hla := last_cells hown
            have hz1 := hown.frozenAt (L0.length * 6 + 1)
            have hz3 := hown.frozenAt (L0.length * 6 + 3)
            have hz5 := hown.frozenAt (L0.length * 6 + 5)
            obtain ⟨hl1, hl3, hl5⟩ := hla
            go_wp2_with fail
            all_goals
              go_roundw
              case rel => exact ⟨K + 2, L0 ++ [⟨_, _, _, _, _, _⟩], by omega, by go_num, by simp; omega, own_upd (own_drewN hown _), (((below_drewN hbel _).setCell hg0 _).setCell hg0 _).setCell hg0 _, RgInv.congr HI.out (by omega) (by first | rfl | omega | (dsimp only; omega)) (by first | rfl | omega | (dsimp only; omega)) (by first | rfl | omega | (dsimp only; omega)) (by first | rfl | omega | (dsimp only; omega)) (by first | rfl | omega | (dsimp only; omega)) (by first | rfl | omega | (dsimp only; omega))⟩
              case measure => simp [intOf]; omega
      · have hE := hide (hinv.fin (by omega))
        clear hA hinv
        go_wp2_with fail
        go_ret2
        have HE := HE.out
        have hE := hE.out
        exact ret_row_err hown hbel (by rw [HE.2, hE]) (by rw [HE.2, hE]) HE.1.symm
end Go.Proofs.Ytagembkjmnfidaa
