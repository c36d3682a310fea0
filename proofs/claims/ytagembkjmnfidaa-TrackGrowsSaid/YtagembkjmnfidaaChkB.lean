import Derived.Test.YtagembkjmnfidaaSmall
namespace Go.Proofs.Ytagembkjmnfidaa
open Go.RowKit
open Go.Proofs.Ml
set_option linter.unusedVariables false

set_option maxRecDepth 100000 in
set_option maxHeartbeats 800000 in
theorem check38 (v : Value) (l : List Chg) (m n : Int) (w : World) (hr : Rd w v 4 l.length (chVals l)) (hl : l.length ≤ 1000000) :
    Calls Try.prog 38 #[v, .int .i64 m, .int .i64 n] w fun e w' => e = .returned (.int .i64 (errOf (valid l m n))) ∧ Below w.heap.size w w' := by
  obtain ⟨A, cap, rfl, hcap, hcap', hlen, hA⟩ := hr
  clear hlen hcap hcap'
  by_cases hm : inL m = false
  · have HE := hide (errOf_bad (l := l) (m := m) (n := n) (.inl hm))
    clear hA
    go_enter Try.func38, Try.ntmps38
    go_wp2_with (go_at_call 75; refine (in75 _ _).mono ?_; rintro e w' ⟨rfl, rfl⟩)
    go_ret
    exact ⟨ret_int HE.out.symm, Below.refl _ _⟩
  by_cases hn : inL n = false
  · have HE := hide (errOf_bad (l := l) (m := m) (n := n) (.inr hn))
    rw [Bool.not_eq_false] at hm
    clear hA
    go_enter Try.func38, Try.ntmps38
    go_wp2_with (go_at_call 75; refine (in75 _ _).mono ?_; rintro e w' ⟨rfl, rfl⟩)
    go_ret
    exact ⟨ret_int HE.out.symm, Below.refl _ _⟩
  rw [Bool.not_eq_false] at hm hn
  obtain ⟨hm0, hm1⟩ := inL_iff.1 hm
  obtain ⟨hn0, hn1⟩ := inL_iff.1 hn
  go_enter Try.func38, Try.ntmps38
  go_wp2_with (go_at_call 75; refine (in75 _ _).mono ?_; rintro e w' ⟨rfl, rfl⟩)
  go_loopw [7, 8, 9] (fun i j k wr => ∃ (K : Nat) (I J : Int), K ≤ l.length ∧ k = .int .i64 K ∧ i = .int .i64 I ∧ j = .int .i64 J ∧ 0 ≤ I ∧ I ≤ 9000 ∧ 0 ≤ J ∧ J ≤ 9000 ∧ Below w.heap.size w wr ∧ CkInv l K I J)
    (fun _ _ k _ => l.length - (intOf k).toNat)
  case atStart => exact ⟨0, 0, 0, by omega, rfl, rfl, rfl, by omega, by omega, by omega, by omega, Below.refl _ _, CkInv.start l⟩
  case round =>
    obtain ⟨K, I, J, hK, rfl, rfl, rfl, hI0, hI1, hJ0, hJ1, hbel, hinv⟩ := hrel
    have hbs := hbel.size
    by_cases hlt : K < l.length
    · obtain ⟨b, off, rfl, hb, hc⟩ := hA (by omega)
      have hbw : b < wr.heap.size := by omega
      obtain ⟨c0, c1, c2, c3⟩ := ch_cells hc hb hbel hlt
      have Hstep := hide (hinv.step hlt)
      have Hbad := hide (fun ok => hinv.bad hlt ok m n)
      clear hA hc hinv
      generalize l[K] = C at *
      obtain ⟨O, OL, N, NL⟩ := C
      simp only at c0 c1 c2 c3
      by_cases h1 : inL O = false
      · have HE := hide (Hbad.out (okC_bad (.inl h1)))
        clear Hstep Hbad
        go_wp2_with (go_at_call 75; refine (in75 _ _).mono ?_; rintro e w' ⟨rfl, rfl⟩)
        go_ret
        exact ⟨ret_int HE.out.symm, (hbel.alloc hbs _)⟩
      rw [Bool.not_eq_false] at h1
      by_cases h2 : inL OL = false
      · have HE := hide (Hbad.out (okC_bad (.inr (.inl h2))))
        clear Hstep Hbad
        go_wp2_with (go_at_call 75; refine (in75 _ _).mono ?_; rintro e w' ⟨rfl, rfl⟩)
        go_ret
        exact ⟨ret_int HE.out.symm, (hbel.alloc hbs _)⟩
      rw [Bool.not_eq_false] at h2
      by_cases h3 : inL N = false
      · have HE := hide (Hbad.out (okC_bad (.inr (.inr (.inl h3)))))
        clear Hstep Hbad
        go_wp2_with (go_at_call 75; refine (in75 _ _).mono ?_; rintro e w' ⟨rfl, rfl⟩)
        go_ret
        exact ⟨ret_int HE.out.symm, (hbel.alloc hbs _)⟩
      rw [Bool.not_eq_false] at h3
      by_cases h4 : inL NL = false
      · have HE := hide (Hbad.out (okC_bad (.inr (.inr (.inr (.inl h4))))))
        clear Hstep Hbad
        go_wp2_with (go_at_call 75; refine (in75 _ _).mono ?_; rintro e w' ⟨rfl, rfl⟩)
        go_ret
        exact ⟨ret_int HE.out.symm, (hbel.alloc hbs _)⟩
      rw [Bool.not_eq_false] at h4
      obtain ⟨a1, b1⟩ := inL_iff.1 h1
      obtain ⟨a2, b2⟩ := inL_iff.1 h2
      obtain ⟨a3, b3⟩ := inL_iff.1 h3
      obtain ⟨a4, b4⟩ := inL_iff.1 h4
      by_cases h5 : OL + NL ≤ 0
      · have HE := hide (Hbad.out (okC_bad (.inr (.inr (.inr (.inr (.inl (by omega))))))))
        clear Hstep Hbad
        go_wp2_with (go_at_call 75; refine (in75 _ _).mono ?_; rintro e w' ⟨rfl, rfl⟩)
        go_ret
        exact ⟨ret_int HE.out.symm, (hbel.alloc hbs _)⟩
      have h5' : ((OL + NL == 0) : Bool) = false := by rw [beq_eq_false_iff_ne]; omega
      by_cases h6 : O - I < N - J ∨ N - J < O - I
      · have HE := hide (Hbad.out (okC_bad (.inr (.inr (.inr (.inr (.inr (.inl (by omega)))))))))
        clear Hstep Hbad
        have h6' : ((O - I != N - J) : Bool) = true := by rw [bne_iff_ne]; omega
        clear h6
        go_wp2_with (go_at_call 75; refine (in75 _ _).mono ?_; rintro e w' ⟨rfl, rfl⟩)
        go_ret
        exact ⟨ret_int HE.out.symm, (hbel.alloc hbs _)⟩
      have h6' : ((O - I != N - J) : Bool) = false := by rw [bne_eq_false_iff_eq]; omega
      by_cases h7 : O < I
      · have HE := hide (Hbad.out (okC_bad (.inr (.inr (.inr (.inr (.inr (.inr (.inl h7)))))))))
        clear Hstep Hbad
        go_wp2_with (go_at_call 75; refine (in75 _ _).mono ?_; rintro e w' ⟨rfl, rfl⟩)
        go_ret
        exact ⟨ret_int HE.out.symm, (hbel.alloc hbs _)⟩
      by_cases h8 : 0 < K ∧ O ≤ I
      · have HE := hide (Hbad.out (okC_bad (.inr (.inr (.inr (.inr (.inr (.inr (.inr ⟨by simp; omega, by omega⟩)))))))))
        clear Hstep Hbad
        obtain ⟨h8, h9⟩ := h8
        have h10 : ((O == I) : Bool) = true := by rw [beq_iff_eq]; omega
        go_wp2_with (go_at_call 75; refine (in75 _ _).mono ?_; rintro e w' ⟨rfl, rfl⟩)
        go_ret
        exact ⟨ret_int HE.out.symm, (hbel.alloc hbs _)⟩
      have HS := hide (Hstep.out (okC_good ⟨a1, b1⟩ ⟨a2, b2⟩ ⟨a3, b3⟩ ⟨a4, b4⟩ (by omega) (by omega) (by omega) (fun e => by simp at e; omega)))
      clear Hstep Hbad h6
      by_cases hK0 : 0 < K
      · have h11 : ((O == I) : Bool) = false := by rw [beq_eq_false_iff_ne]; omega
        clear h8
        go_wp2_with (go_at_call 75; refine (in75 _ _).mono ?_; rintro e w' ⟨rfl, rfl⟩)
        go_quiet (fail)
        go_wp2_with fail
        go_roundw
        case rel => exact ⟨K + 1, O + OL, N + NL, by omega, by go_num, rfl, rfl, by omega, by omega, by omega, by omega, below_drewN (hbel.alloc hbs _) _, HS.out⟩
        case measure => simp [intOf]; omega
      · clear h8
        go_wp2_with (go_at_call 75; refine (in75 _ _).mono ?_; rintro e w' ⟨rfl, rfl⟩)
        go_quiet (fail)
        go_wp2_with fail
        go_roundw
        case rel => exact ⟨K + 1, O + OL, N + NL, by omega, by go_num, rfl, rfl, by omega, by omega, by omega, by omega, below_drewN (hbel.alloc hbs _) _, HS.out⟩
        case measure => simp [intOf]; omega
    · have Hfin := hide (fun m n => hinv.fin (show K = l.length by omega) m n)
      clear hA hinv
      by_cases h1 : m - I < n - J ∨ n - J < m - I
      · have HE := hide (fin_false1 (show m - I ≠ n - J by omega))
        have h6' : ((m - I != n - J) : Bool) = true := by rw [bne_iff_ne]; omega
        clear h1
        go_wp2_with (go_at_call 75; refine (in75 _ _).mono ?_; rintro e w' ⟨rfl, rfl⟩)
        go_ret
        exact ⟨ret_int (by rw [Hfin.out m n hm hn, HE.out]; rfl), hbel⟩
      by_cases h2 : m < I
      · have HE := hide (fin_false2 (I := I) (J := J) (m := m) (n := n) h2)
        have h6' : ((m - I != n - J) : Bool) = false := by rw [bne_eq_false_iff_eq]; omega
        clear h1
        go_wp2_with (go_at_call 75; refine (in75 _ _).mono ?_; rintro e w' ⟨rfl, rfl⟩)
        go_ret
        exact ⟨ret_int (by rw [Hfin.out m n hm hn, HE.out]; rfl), hbel⟩
      have HE := hide (fin_true (show m - I = n - J by omega) (show I ≤ m by omega))
      have h6' : ((m - I != n - J) : Bool) = false := by rw [bne_eq_false_iff_eq]; omega
      clear h1
      go_wp2_with (go_at_call 75; refine (in75 _ _).mono ?_; rintro e w' ⟨rfl, rfl⟩)
      go_ret
      exact ⟨ret_int (by rw [Hfin.out m n hm hn, HE.out]; rfl), hbel⟩
end Go.Proofs.Ytagembkjmnfidaa
