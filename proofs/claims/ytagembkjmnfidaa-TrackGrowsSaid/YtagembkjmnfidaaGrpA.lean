import Derived.Test.YtagembkjmnfidaaChkA
import Derived.Test.YtagembkjmnfidaaClosed
import Derived.Test.YtagembkjmnfidaaBaseB
import Derived.Test.YtagembkjmnfidaaSpecB
namespace Go.Proofs.Ytagembkjmnfidaa
open Go.RowKit
open Go.Proofs.Ml
set_option linter.unusedVariables false

/-- A list of the call's own and an error. -/
def RetRowErr (w : World) (e : TypeId) (size n : Nat) (cs : List Value) (err : Int) (x : Ending) (w' : World) : Prop := ∃ v, x = .returned (.tuple #[v, .int .i64 err]) ∧ w'.ownsRow w.heap.size e size v n cs ∧ Below w.heap.size w w'
theorem ret_row_err {w : World} {e : TypeId} {size n n' : Nat} {cs cs' : List Value} {err err' : Int} {v : Value} {w' : World} (h : w'.ownsRow w.heap.size e size v n' cs') (hb : Below w.heap.size w w') (hn : n' = n) (hcs : cs' = cs) (he : err' = err) : RetRowErr w e size n cs err (.returned (.tuple #[v, .int .i64 err'])) w' := by
  subst hn; subst hcs; subst he; exact ⟨v, rfl, h, hb⟩

set_option maxRecDepth 100000 in
set_option maxHeartbeats 800000 in
theorem group28 (v : Value) (l : List Chg) (m n ctx : Int) (w : World) (hr : Rd w v 4 l.length (chVals l)) (hl : l.length ≤ 900000) :
    Calls Try.prog 28 #[v, .int .i64 m, .int .i64 n, .int .i64 ctx] w (RetRowErr w 37 6 (grp l m n ctx).length (hkVals (grp l m n ctx)) (grpErr l m n ctx)) := by
  by_cases hx : ctx < 0 ∨ 1048576 < ctx
  · have HE := hide (grp_range (l := l) (m := m) (n := n) hx)
    rcases hx with hx | hx
    all_goals
      go_enter Try.func28, Try.ntmps28
      go_wp2_with fail
      go_ret2
      have HE := HE.out
      exact ret_row_err (World.ownsRow_nil _ _ _ _) (Below.refl _ _) (by rw [HE.2]; rfl) (by rw [HE.2]; rfl) HE.1.symm
  have hx0 : 0 ≤ ctx := by omega
  have hx1 : ctx ≤ 1048576 := by omega
  clear hx
  cases hv : valid l m n with
  | false =>
    have HE := hide (grp_script (l := l) (m := m) (n := n) ⟨hx0, hx1⟩ hv)
    have HR := hide hr
    have HV := hide hv
    clear hr hv
    go_enter Try.func28, Try.ntmps28
    go_wp2_with fail
    refine (check37 _ l m n _ HR.out (by omega)).mono ?_
    rintro e w1 ⟨rfl, hb1⟩
    rw [HV.out]
    simp only [errOf, Bool.false_eq_true, if_false]
    go_wp2_with fail
    go_ret2
    have HE := HE.out
    exact ret_row_err (World.ownsRow_nil _ _ _ _) hb1 (by rw [HE.2]; rfl) (by rw [HE.2]; rfl) HE.1.symm
  | true =>
    have HE := hide (grp_ok (l := l) (m := m) (n := n) ⟨hx0, hx1⟩ hv)
    have HR := hide hr
    have HV := hide hv
    have hvv := valid_iff.1 hv
    have HB := hide hvv.2.2.bounds
    obtain ⟨hm0, hm1⟩ := hvv.1
    clear hr hv hvv
    go_enter Try.func28, Try.ntmps28
    go_wp2_with fail
    refine (check37 _ l m n _ HR.out (by omega)).mono ?_
    rintro e w0 ⟨rfl, hb0⟩
    rw [HV.out]
    simp only [errOf, if_true]
    have hb0s := hb0.size
    obtain ⟨A, cap, rfl, hcap, hcap', hlen, hA⟩ := HR.out
    clear hlen hcap hcap'
    go_wp2_with fail
    go_loopw [11, 12, 30] (fun v f k wr => ∃ (K F : Nat) (L : List Hnk), K ≤ l.length ∧ k = .int .i64 K ∧ f = .int .i64 F ∧ F ≤ K ∧ L.length ≤ K ∧ wr.ownsRow w.heap.size 37 6 v L.length (hkVals L) ∧ Below w.heap.size w wr ∧ GrInv l m ctx K F L)
      (fun _ _ k _ => l.length - (intOf k).toNat)
    case atStart => exact ⟨0, 0, [], by omega, rfl, rfl, by omega, by simp, World.ownsRow_nil _ _ _ _, hb0, GrInv.start l m ctx⟩
    case round =>
      obtain ⟨K, F, L, hK, rfl, rfl, hF, hL, hown, hbel, hinv⟩ := hrel
      have hbs := hbel.size
      by_cases hlt : K < l.length
      · obtain ⟨b, off, rfl, hb, hc⟩ := hA (by omega)
        have hbw : b < wr.heap.size := by omega
        obtain ⟨c0, c1, c2, c3⟩ := ch_cells hc hb hbel hlt
        have hbK := HB.out l[K] (List.getElem_mem _)
        have hFl : F < l.length := by omega
        by_cases hend : K + 1 = l.length
        · have hE1 : True := trivial
          have hE : (((K : Int) + 1 == (l.length : Int)) : Bool) = true := by rw [beq_iff_eq]; omega
          have HI := hide (hinv.cut hlt hFl (.inl hend))
          have hC : ∀ W, Rd W (.slice (some ⟨b, off, none⟩) l.length cap) 4 l.length (chVals l) → Calls Try.prog 74 #[.slice (some ⟨b, off, none⟩) l.length cap, .int .i64 F, .int .i64 ((K : Int) + 1), .int .i64 m, .int .i64 ctx] W fun e w' => e = .returned (hkAgg (close m ctx F ((K : Int) + 1) (l[F]'hFl) l[K])) ∧ Below W.heap.size W w' :=
            fun W hW => closed74 _ l F K m ctx W hW hF hlt (by omega) (fun c hc => (HB.out c hc).1) ⟨hm0, hm1⟩ ⟨hx0, hx1⟩
          have HG : ∃ H, H = close m ctx F ((K : Int) + 1) (l[F]'hFl) l[K] := ⟨_, rfl⟩
          obtain ⟨H, hH⟩ := HG
          rw [← hH] at HI hC
          have hRd := (HR.out.below hbel (Nat.le_refl _))
          have HRd := hide hRd
          clear hH hRd hA hc hinv hE1
          generalize l[K] = C at *
          obtain ⟨O, OL, N, NL⟩ := C
          simp only at c0 c1 c2 c3 hbK
          clear hend
          obtain ⟨x0, x1, x2, x3, x4, x5⟩ := H
          simp only [hkAgg] at hC
          have HC := hide hC
          clear hC
          go_wp2_with fail
          go_quiet (fail)
          go_wp2_with fail
          refine (HC.out _ (HRd.out.below (below_drewN ((Below.refl wr.heap.size wr).alloc (Nat.le_refl _) _) _) (Nat.le_refl _))).mono ?_
          rintro e w1 ⟨rfl, hb1⟩
          have hb1s := hb1.size
          simp at hb1s
          have hown1 := own_below hown (((below_drewN ((Below.refl wr.heap.size wr).alloc (Nat.le_refl _) _) _)).trans (hb1.mono (by simp))) (Nat.le_refl _)
          have hbel1 := hbel.trans ((below_drewN ((Below.refl wr.heap.size wr).alloc (Nat.le_refl _) _) _ |>.trans (hb1.mono (by simp))).mono hbs)
          go_wp2_with (at_builtin; go_must (refine wp_app1 rfl (.tmp 57) (.tmp 65) 27 37 6 48 _ rfl Try.underlying27 info37 rfl (by omega) (by omega) w1 _ w.heap.size L.length _ (hkVals L) rfl _ _ rfl rfl hown1 hown1 (Nat.le_refl _) rfl rfl (by omega) (by omega) ?_); intro v2 w2 hown2 hb2 hold hsz2; clear hold)
          go_roundw
          case rel => exact ⟨K + 1, K + 1, L ++ [⟨x0, x1, x2, x3, x4, x5⟩], by omega, by go_num, by go_num, by omega, by simp; omega, own_hk (c := ⟨x0, x1, x2, x3, x4, x5⟩) hown2, hbel1.trans hb2, HI.out⟩
          case measure => simp [intOf]; omega
        have hE : (((K : Int) + 1 == (l.length : Int)) : Bool) = false := by rw [beq_eq_false_iff_ne]; omega
        have hlt2 : K + 1 < l.length := by omega
        have hi0 : (0 : Int) ≤ (K : Int) + 1 := by omega
        have hi1 : (K : Int) + 1 < (l.length : Int) := by omega
        obtain ⟨e0, e1, e2, e3⟩ := ch_cells hc hb hbel hlt2
        have hbP := HB.out l[K + 1] (List.getElem_mem _)
        by_cases hgap : 2 * ctx < l[K + 1].o - l[K].o - l[K].ol
        · have hE1 : True := trivial
          have HI := hide (hinv.cut hlt hFl (.inr ⟨hlt2, hgap⟩))
          have hC : ∀ W, Rd W (.slice (some ⟨b, off, none⟩) l.length cap) 4 l.length (chVals l) → Calls Try.prog 74 #[.slice (some ⟨b, off, none⟩) l.length cap, .int .i64 F, .int .i64 ((K : Int) + 1), .int .i64 m, .int .i64 ctx] W fun e w' => e = .returned (hkAgg (close m ctx F ((K : Int) + 1) (l[F]'hFl) l[K])) ∧ Below W.heap.size W w' :=
            fun W hW => closed74 _ l F K m ctx W hW hF hlt (by omega) (fun c hc => (HB.out c hc).1) ⟨hm0, hm1⟩ ⟨hx0, hx1⟩
          have HG : ∃ H, H = close m ctx F ((K : Int) + 1) (l[F]'hFl) l[K] := ⟨_, rfl⟩
          obtain ⟨H, hH⟩ := HG
          rw [← hH] at HI hC
          have hRd := (HR.out.below hbel (Nat.le_refl _))
          have HRd := hide hRd
          clear hH hRd hA hc hinv hE1
          generalize l[K + 1] = D at *
          generalize l[K] = C at *
          obtain ⟨O, OL, N, NL⟩ := C
          obtain ⟨P, POL, PN, PNL⟩ := D
          simp only at c0 c1 c2 c3 e0 e1 e2 e3 hbK hbP hgap
          clear e1 e2 e3
          obtain ⟨x0, x1, x2, x3, x4, x5⟩ := H
          simp only [hkAgg] at hC
          have HC := hide hC
          clear hC
          go_wp2_with fail
          go_quiet (fail)
          go_wp2_with fail
          refine (HC.out _ (HRd.out.below (below_drewN ((Below.refl wr.heap.size wr).alloc (Nat.le_refl _) _) _) (Nat.le_refl _))).mono ?_
          rintro e w1 ⟨rfl, hb1⟩
          have hb1s := hb1.size
          simp at hb1s
          have hown1 := own_below hown (((below_drewN ((Below.refl wr.heap.size wr).alloc (Nat.le_refl _) _) _)).trans (hb1.mono (by simp))) (Nat.le_refl _)
          have hbel1 := hbel.trans ((below_drewN ((Below.refl wr.heap.size wr).alloc (Nat.le_refl _) _) _ |>.trans (hb1.mono (by simp))).mono hbs)
          go_wp2_with (at_builtin; go_must (refine wp_app1 rfl (.tmp 57) (.tmp 65) 27 37 6 48 _ rfl Try.underlying27 info37 rfl (by omega) (by omega) w1 _ w.heap.size L.length _ (hkVals L) rfl _ _ rfl rfl hown1 hown1 (Nat.le_refl _) rfl rfl (by omega) (by omega) ?_); intro v2 w2 hown2 hb2 hold hsz2; clear hold)
          go_roundw
          case rel => exact ⟨K + 1, K + 1, L ++ [⟨x0, x1, x2, x3, x4, x5⟩], by omega, by go_num, by go_num, by omega, by simp; omega, own_hk (c := ⟨x0, x1, x2, x3, x4, x5⟩) hown2, hbel1.trans hb2, HI.out⟩
          case measure => simp [intOf]; omega
        · have HI := hide (hinv.keep hlt2 hFl hgap)
          clear hA hc hinv
          generalize l[K + 1] = D at *
          generalize l[K] = C at *
          obtain ⟨O, OL, N, NL⟩ := C
          obtain ⟨P, POL, PN, PNL⟩ := D
          simp only at c0 c1 c2 c3 e0 e1 e2 e3 hbK hbP hgap
          clear e1 e2 e3
          go_wp2_with fail
          go_quiet (fail)
          go_wp2_with fail
          go_roundw
          case rel => exact ⟨K + 1, F, L, by omega, by go_num, rfl, by omega, by omega, hown.alloc _, below_drewN (hbel.alloc hbs _) _, HI.out⟩
          case measure => simp [intOf]; omega
      · have hE := hide (hinv.2.2 (by omega))
        clear hA hinv
        go_wp2_with fail
        go_ret2
        have HE := HE.out
        have hE := hE.out
        exact ret_row_err hown hbel (by rw [HE.2, hE]) (by rw [HE.2, hE]) HE.1.symm
end Go.Proofs.Ytagembkjmnfidaa
