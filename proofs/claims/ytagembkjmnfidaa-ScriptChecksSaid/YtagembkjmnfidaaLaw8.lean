import Derived.Test.YtagembkjmnfidaaAwkS
import Derived.Test.YtagembkjmnfidaaBaseF
import Derived.Test.YtagembkjmnfidaaChkB
import Derived.Test.YtagembkjmnfidaaSizA
import Derived.Test.YtagembkjmnfidaaSizC
import Derived.Test.YtagembkjmnfidaaGen2
import Derived.Deep.DeepCutAuto
namespace Go.Proofs.Ytagembkjmnfidaa
open Go.RowKit
open Go.Proofs.Ml
set_option linter.unusedVariables false

set_option maxRecDepth 100000 in
set_option maxHeartbeats 3200000 in
theorem walk8 (w : World) (v0 : Value) (l : List Chg) (r0 : Rd w v0 4 l.length (chVals l)) (b0 : l.length ≤ 9223372036854775807) (m : Int) (b1 : -9223372036854775808 ≤ m ∧ m ≤ 9223372036854775807) (n : Int) (b2 : -9223372036854775808 ≤ n ∧ n ≤ 9223372036854775807) (v3 : Value) (z0 : List Int) (r3 : Rd w v3 1 z0.length (inVals z0)) (b3 : z0.length ≤ 9223372036854775807)
    (at_ : Int) (b4 : -9223372036854775808 ≤ at_ ∧ at_ ≤ 9223372036854775807) (what : Int) (b5 : -9223372036854775808 ≤ what ∧ what ≤ 9223372036854775807) (by_ : Int) (b6 : -9223372036854775808 ≤ by_ ∧ by_ ≤ 9223372036854775807) :
    Calls Try.prog 8 #[v0, .int .i64 m, .int .i64 n, v3, .int .i64 at_, .int .i64 what, .int .i64 by_] w fun e w' => e = .returned (.bool true) ∧ Below w.heap.size w w' := by
  have H0 := hide r0
  have H3 := hide r3
  clear r3
  obtain ⟨A, cap, rfl, hcap, hcap', hlen, hA⟩ := r0
  clear hcap hcap' hlen hA b0
  by_cases hl : 12 < l.length
  · go_enter Try.func8, Try.ntmps8
    go_wp2_with fail
    refine (awake35 _).mono ?_
    rintro e w' ⟨rfl, hb⟩
    go_wp2_with fail
    go_ret
    exact ⟨rfl, hb⟩
  go_enter Try.func8, Try.ntmps8
  go_wp2_with fail
  refine (script27 _ z0 0 _ H3.out b3 (by omega) (by omega)).mono ?_
  rintro e w1 ⟨sv, s, a, b, rfl, hval, ha, hb, hsl, hs, hb1⟩
  go_wp2_with fail
  refine (mod29 by_ 5 _ (by omega) (by omega)).mono ?_
  rintro e w' ⟨rfl, rfl⟩
  obtain ⟨k0, k1⟩ := gmod_range by_ 5 (by omega) (by omega)
  generalize gmod by_ 5 = k at *
  obtain ⟨AS, capS, rfl, hAS⟩ := own_open hs
  have s1 := hb1.size
  have hvv := valid_iff.1 hval
  obtain ⟨a0, a1⟩ := hvv.1
  have hB := hide hvv.2.2.bounds
  clear hvv hval
  go_upto_if 43 with fail
  go_cut [16] (fun s16 wx => ∃ (L : List Chg) (a' : Int), s16 = .int .i64 a' ∧ L.length = s.length ∧ Rd wx (.slice AS s.length capS) 4 L.length (chVals L) ∧ Below w.heap.size w wx)
  case first =>
    by_cases hpos : 0 < s.length
    · obtain ⟨g, rfl, hg0, hg1⟩ := hAS hpos
      go_wp2_with fail
      refine (mod29 at_ s.length _ (by omega) (by omega)).mono ?_
      rintro e w' ⟨rfl, rfl⟩
      obtain ⟨q0, q1⟩ := gmod_range at_ s.length (by omega) (by omega)
      generalize gmod at_ s.length = I at *
      obtain ⟨I, rfl⟩ := Int.eq_ofNat_of_zero_le q0
      have hI : I < s.length := by omega
      go_wp2_with fail
      refine (mod29 what 6 _ (by omega) (by omega)).mono ?_
      rintro e w' ⟨rfl, rfl⟩
      obtain ⟨p0, p1⟩ := gmod_range what 6 (by omega) (by omega)
      generalize gmod what 6 = q at *
      obtain ⟨c0, c1, c2, c3⟩ := ch_cells (off := 0) (fun j u hu => by have := hs.cells (g := g) rfl j u hu; rwa [add_head, ← Nat.zero_add j] at this) hg1 (Below.refl _ _) hI
      rw [Nat.zero_add] at c0 c1 c2 c3
      have f0 := hs.frozenAt (I * 4)
      have f1 := hs.frozenAt (I * 4 + 1)
      have f2 := hs.frozenAt (I * 4 + 2)
      have f3 := hs.frozenAt (I * 4 + 3)
      have hV := hB.out s[I] (List.getElem_mem _)
      have hq : q = 0 ∨ q = 1 ∨ q = 2 ∨ q = 3 ∨ q = 4 ∨ q = 5 := by omega
      rcases hq with rfl | rfl | rfl | rfl | rfl | rfl
      · have HS' := Rd.of_own (own_ch_set hs I 0 (.int .i64 (wrap64 (s[I].o + (k - 2)))) ⟨wrap64 (s[I].o + (k - 2)), s[I].ol, s[I].n, s[I].nl⟩ hI (by omega) rfl)
        obtain ⟨L, hL⟩ : ∃ L, L = s.set I ⟨wrap64 (s[I].o + (k - 2)), s[I].ol, s[I].n, s[I].nl⟩ := ⟨_, rfl⟩
        have hLl : L.length = s.length := by rw [hL, List.length_set]
        rw [← hL] at HS'
        rw [show Value.slice (some (⟨g, 0, none⟩ : Addr)) L.length capS = Value.slice (some ⟨g, 0, none⟩) s.length capS by rw [hLl]] at HS'
        rw [Nat.add_zero] at HS'
        have HS'' := hide HS'
        have HLl := hide hLl
        clear hs hV hB HS' hL hLl
        go_wp2_with fail
        go_meet
        exact ⟨L, _, rfl, HLl.out, HS''.out, hb1.setCell (by simp; omega) _⟩
      · have HS' := Rd.of_own (own_ch_set hs I 1 (.int .i64 (wrap64 (s[I].ol + (k - 2)))) ⟨s[I].o, wrap64 (s[I].ol + (k - 2)), s[I].n, s[I].nl⟩ hI (by omega) rfl)
        obtain ⟨L, hL⟩ : ∃ L, L = s.set I ⟨s[I].o, wrap64 (s[I].ol + (k - 2)), s[I].n, s[I].nl⟩ := ⟨_, rfl⟩
        have hLl : L.length = s.length := by rw [hL, List.length_set]
        rw [← hL] at HS'
        rw [show Value.slice (some (⟨g, 0, none⟩ : Addr)) L.length capS = Value.slice (some ⟨g, 0, none⟩) s.length capS by rw [hLl]] at HS'
        have := 0
        have HS'' := hide HS'
        have HLl := hide hLl
        clear hs hV hB HS' hL hLl
        go_wp2_with fail
        go_meet
        exact ⟨L, _, rfl, HLl.out, HS''.out, hb1.setCell (by simp; omega) _⟩
      · have HS' := Rd.of_own (own_ch_set hs I 2 (.int .i64 (wrap64 (s[I].n + (k - 2)))) ⟨s[I].o, s[I].ol, wrap64 (s[I].n + (k - 2)), s[I].nl⟩ hI (by omega) rfl)
        obtain ⟨L, hL⟩ : ∃ L, L = s.set I ⟨s[I].o, s[I].ol, wrap64 (s[I].n + (k - 2)), s[I].nl⟩ := ⟨_, rfl⟩
        have hLl : L.length = s.length := by rw [hL, List.length_set]
        rw [← hL] at HS'
        rw [show Value.slice (some (⟨g, 0, none⟩ : Addr)) L.length capS = Value.slice (some ⟨g, 0, none⟩) s.length capS by rw [hLl]] at HS'
        have := 0
        have HS'' := hide HS'
        have HLl := hide hLl
        clear hs hV hB HS' hL hLl
        go_wp2_with fail
        go_meet
        exact ⟨L, _, rfl, HLl.out, HS''.out, hb1.setCell (by simp; omega) _⟩
      · have HS' := Rd.of_own (own_ch_set hs I 3 (.int .i64 (wrap64 (s[I].nl + (k - 2)))) ⟨s[I].o, s[I].ol, s[I].n, wrap64 (s[I].nl + (k - 2))⟩ hI (by omega) rfl)
        obtain ⟨L, hL⟩ : ∃ L, L = s.set I ⟨s[I].o, s[I].ol, s[I].n, wrap64 (s[I].nl + (k - 2))⟩ := ⟨_, rfl⟩
        have hLl : L.length = s.length := by rw [hL, List.length_set]
        rw [← hL] at HS'
        rw [show Value.slice (some (⟨g, 0, none⟩ : Addr)) L.length capS = Value.slice (some ⟨g, 0, none⟩) s.length capS by rw [hLl]] at HS'
        have := 0
        have HS'' := hide HS'
        have HLl := hide hLl
        clear hs hV hB HS' hL hLl
        go_wp2_with fail
        go_meet
        exact ⟨L, _, rfl, HLl.out, HS''.out, hb1.setCell (by simp; omega) _⟩
      · have HS' := hide (Rd.of_own hs)
        clear hs hV hB
        go_wp2_with fail
        go_meet
        exact ⟨s, _, rfl, rfl, HS'.out, hb1⟩
      · have HS' := hide (Rd.of_own hs)
        clear hs hV hB
        go_wp2_with fail
        go_meet
        exact ⟨s, _, rfl, rfl, HS'.out, hb1⟩
    · have HS' := hide (Rd.of_own hs)
      clear hs hB
      go_wp2_with fail
      go_meet
      exact ⟨s, _, rfl, rfl, HS'.out, hb1⟩
  case rest =>
    obtain ⟨L, a', rfl, hL, hRL, hbl⟩ := hcut
    have HL := hide hRL
    have hL18 : L.length ≤ 18 := by omega
    have HLL := hide hL
    clear hL hRL hs hB hAS hb1 s1
    have t0 := hbl.size
    go_wp2_with fail
    refine (size36 _ l _ (H0.out.below hbl (Nat.le_refl _)) (by omega)).mono ?_
    rintro e w2 ⟨rfl, hb2⟩
    have c2 := hbl.trans (hb2.mono t0)
    have t2 := c2.size
    have HL2 := hide (HL.out.below hb2 (Nat.le_refl _))
    go_wp2_with fail
    refine (size32q _ l _ (H0.out.below c2 (Nat.le_refl _)) (by omega)).mono ?_
    rintro e w' ⟨rfl, hw⟩
    obtain rfl := hw.symm
    generalize szO l = x1 at *
    generalize szN l = x2 at *
    go_wp2_with fail
    refine (size36 _ L _ HL2.out (by omega)).mono ?_
    rintro e w3 ⟨rfl, hb3⟩
    have c3 := c2.trans (hb3.mono t2)
    have t3 := c3.size
    have HL3 := hide (HL2.out.below hb3 (Nat.le_refl _))
    go_wp2_with fail
    refine (size32q _ L _ HL3.out (by omega)).mono ?_
    rintro e w' ⟨rfl, hw⟩
    obtain rfl := hw.symm
    generalize szO L = x3 at *
    generalize szN L = x4 at *
    go_wp2_with fail
    refine (check37 _ l m n _ (H0.out.below c3 (Nat.le_refl _)) (by omega)).mono ?_
    rintro e w4 ⟨rfl, hb4⟩
    have c4 := c3.trans (hb4.mono t3)
    have t4 := c4.size
    have HL4 := hide (HL3.out.below hb4 (Nat.le_refl _))
    go_wp2_with fail
    refine (check38 _ l m n _ (H0.out.below c4 (Nat.le_refl _)) (by omega)).mono ?_
    rintro e w5 ⟨rfl, hb5⟩
    have c5 := c4.trans (hb5.mono t4)
    have t5 := c5.size
    have HL5 := hide (HL4.out.below hb5 (Nat.le_refl _))
    generalize errOf (valid l m n) = x5 at *
    go_wp2_with fail
    refine (check37 _ L a' b _ HL5.out (by omega)).mono ?_
    rintro e w6 ⟨rfl, hb6⟩
    have c6 := c5.trans (hb6.mono t5)
    have t6 := c6.size
    have HL6 := hide (HL5.out.below hb6 (Nat.le_refl _))
    go_wp2_with fail
    refine (check38 _ L a' b _ HL6.out (by omega)).mono ?_
    rintro e w7 ⟨rfl, hb7⟩
    have c7 := c6.trans (hb7.mono t6)
    have t7 := c7.size
    generalize errOf (valid L a' b) = x6 at *
    go_wp2_with fail
    refine (awake35 _).mono ?_
    rintro e w8 ⟨rfl, hb8⟩
    go_wp2_with fail
    go_ret
    exact ⟨rfl, c7.trans (hb8.mono t7)⟩
end Go.Proofs.Ytagembkjmnfidaa
