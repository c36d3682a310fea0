import Derived.Test.YtagembkjmnfidaaLaw3
import Derived.Test.YtagembkjmnfidaaCovA
namespace Go.Proofs.Ytagembkjmnfidaa
open Go.RowKit
open Go.Proofs.Ml
set_option linter.unusedVariables false

theorem any_take (s : List Chg) (f : Chg → Bool) (K : Nat) (h : K < s.length) : (s.take (K + 1)).any f = ((s.take K).any f || f s[K]) := by
  rw [List.take_succ_eq_append_getElem h, List.any_append]; simp
/-- The document's verdict on line I is the program's. -/
theorem exact_law {s : List Chg} {m n ctx : Int} (hv : valid s m n = true) (h0 : 0 ≤ ctx) (M : Nat) (hM : (M : Int) = m) (I : Nat) (hI : I < M) (h' : I < (cov (hunks s m ctx) M).length) : (cov (hunks s m ctx) M)[I] = s.any (near ctx (I : Int)) := by
  have h := hunks_covers (i := (I : Int)) hv h0 (by omega) (by omega)
  simp only [cov, List.getElem_map, List.getElem_range]
  rw [Bool.eq_iff_iff, h, List.any_eq_true]

set_option maxRecDepth 100000 in
set_option maxHeartbeats 1600000 in
theorem walk6 (w : World) (v0 : Value) (z0 : List Int) (r0 : Rd w v0 1 z0.length (inVals z0)) (b0 : z0.length ≤ 9223372036854775807) (ctx : Int) (b1 : -9223372036854775808 ≤ ctx ∧ ctx ≤ 9223372036854775807) :
    Calls Try.prog 6 #[v0, .int .i64 ctx] w fun e w' => e = .returned (.bool true) ∧ Below w.heap.size w w' := by
  have H0 := hide r0
  clear r0
  obtain ⟨k, hk⟩ : ∃ k, k = gmod ctx 5 := ⟨_, rfl⟩
  have hmod : ∀ W, Calls Try.prog 29 #[.int .i64 ctx, .int .i64 5] W fun e w' => e = .returned (.int .i64 k) ∧ W = w' := fun W => by
    rw [hk]; exact mod29 ctx 5 W (by omega) (by omega)
  have hkr := gmod_range ctx 5 (by omega) (by omega)
  rw [← hk] at hkr
  obtain ⟨k0, k5⟩ := hkr
  have HM := hide hmod
  clear hmod hk
  go_enter Try.func6, Try.ntmps6
  go_wp2_with fail
  refine (script27 _ z0 0 _ H0.out b0 (by omega) (by omega)).mono ?_
  rintro e w1 ⟨sv, s, a, b, rfl, hval, ha, hb, hsl, hs, hb1⟩
  have HS := hide (Rd.of_own hs)
  have hvv := valid_iff.1 hval
  obtain ⟨a0, a1⟩ := hvv.1
  have HV := hide hval
  have HB := hide hvv.2.2.bounds
  clear hs hval hvv
  have s1 := hb1.size
  obtain ⟨M, rfl⟩ := Int.eq_ofNat_of_zero_le a0
  go_wp2_with fail
  refine (HM.out _).mono ?_
  rintro e w1' ⟨rfl, rfl⟩
  have HG := hide (grp_ok (l := s) (m := (M : Int)) (n := b) (ctx := k) ⟨k0, by omega⟩ HV.out)
  go_wp2_with fail
  refine (group28 _ s (M : Int) b k _ HS.out (by omega)).mono ?_
  rintro e w2 ⟨xv, rfl, hxo, hb2⟩
  rw [HG.out.1]
  rw [HG.out.2] at hxo
  have hgl : (hunks s (M : Int) k).length ≤ s.length := by have := grp_len s (M : Int) b k; rw [HG.out.2] at this; exact this
  have HX := hide (Rd.of_own hxo)
  have HS2 := hide (HS.out.below hb2 (Nat.le_refl _))
  have c2 := hb1.trans (hb2.mono s1)
  have s2 := c2.size
  clear hxo
  have HC := hide (covS_ok (h := hunks s (M : Int) k) (m := (M : Int)) (by omega) (by omega))
  go_wp2_with fail
  refine (cover33 _ (hunks s (M : Int) k) (M : Int) _ HX.out (by omega)).mono ?_
  rintro e w3 ⟨iv, rfl, hio, hb3⟩
  rw [HC.out, show ((M : Int)).toNat = M by omega] at hio
  have HEX := hide (fun (I : Nat) (hI : I < M) (h' : I < (cov (hunks s (M : Int) k) M).length) => exact_law HV.out k0 M rfl I hI h')
  have hcl : (cov (hunks s (M : Int) k) M).length = M := by simp [cov]
  have HI := hide (Rd.of_own hio)
  have HS3 := hide (HS2.out.below hb3 (Nat.le_refl _))
  have c3 := c2.trans (hb3.mono s2)
  have s3 := c3.size
  clear hio hb2 hb3 c2 hb1
  generalize cov (hunks s (M : Int) k) M = Cv at *
  clear HC HG HX hgl
  have hS3 := HS3.out
  have hI3 := HI.out
  rw [hcl] at hI3
  obtain ⟨As, caps, rfl, _, _, _, hAs⟩ := hS3
  obtain ⟨Ai, capi, rfl, _, _, _, hAi⟩ := hI3
  have hMM : ((M : Int) != (M : Int)) = false := by simp
  go_wp2_with fail
  go_loopw [11] (fun i wr => ∃ (I : Nat), I ≤ M ∧ i = .int .i64 I ∧ Below w3.heap.size w3 wr)
    (fun i _ => M - (intOf i).toNat)
  case atStart => exact ⟨0, by omega, rfl, Below.refl _ _⟩
  case round =>
    obtain ⟨I, hI, rfl, hbel⟩ := hrel
    obtain ⟨wo, rfl⟩ : ∃ wo : World, wo = wr := ⟨_, rfl⟩
    by_cases hlt : I < M
    · have hlI : I < Cv.length := by omega
      have hwt := HEX.out I hlt hlI
      obtain ⟨bi, oi, rfl, hbi, hci⟩ := hAi (by omega)
      go_wp2_with fail
      go_loopw [12, 13] (fun want kk wr => ∃ (K : Nat), K ≤ s.length ∧ kk = .int .i64 K ∧ want = .bool ((s.take K).any (near k (I : Int))) ∧ Below w3.heap.size w3 wr)
        (fun _ kk _ => s.length - (intOf kk).toNat)
      case atStart => exact ⟨0, by omega, rfl, by simp, hbel⟩
      case round =>
        obtain ⟨K, hK, rfl, rfl, hbel2⟩ := hrel
        have hbs2 := hbel2.size
        by_cases hlt2 : K < s.length
        · obtain ⟨bs, os, rfl, hbs, hcs⟩ := hAs (by omega)
          have hbw : bs < wr.heap.size := by omega
          obtain ⟨d0, d1, d2, d3⟩ := ch_cells hcs hbs hbel2 hlt2
          have HN := hide (any_take s (near k (I : Int)) K hlt2)
          have hbb := HB.out s[K] (List.getElem_mem _)
          clear hAs hcs hci hwt
          generalize (s.take K).any (near k (I : Int)) = bb at *
          generalize s[K] = C at *
          obtain ⟨O, OL, N, NL⟩ := C
          simp only at d0 d1 d2 d3 hbb HN
          have i0 : (0 : Int) ≤ (K : Int) := by omega
          have i1 : (K : Int) < (s.length : Int) := by omega
          cases bb with
          | true =>
            go_wp2_with fail
            go_quiet (fail)
            go_wp2_with fail
            go_roundw
            case rel => exact ⟨K + 1, by omega, by go_num, by rw [HN.out]; rfl, below_drewN hbel2 _⟩
            case measure => simp [intOf]; omega
          | false =>
            by_cases n1 : O - k ≤ (I : Int)
            · by_cases n2 : (I : Int) < O + OL + k
              · go_wp2_with fail
                go_quiet (fail)
                go_wp2_with fail
                go_roundw
                case rel => exact ⟨K + 1, by omega, by go_num, by rw [HN.out]; simp [near]; omega, below_drewN hbel2 _⟩
                case measure => simp [intOf]; omega
              · have n2' : decide ((I : Int) < O + OL + k) = false := by simpa using n2
                go_wp2_with fail
                go_quiet (fail)
                go_wp2_with fail
                go_roundw
                case rel => exact ⟨K + 1, by omega, by go_num, by rw [HN.out]; simp [near]; omega, below_drewN hbel2 _⟩
                case measure => simp [intOf]; omega
            · have n1' : decide (O - k ≤ (I : Int)) = false := by simpa using n1
              go_wp2_with fail
              go_quiet (fail)
              go_wp2_with fail
              go_roundw
              case rel => exact ⟨K + 1, by omega, by go_num, by rw [HN.out]; simp [near]; omega, below_drewN hbel2 _⟩
              case measure => simp [intOf]; omega
        · have hKs : (s.take K).any (near k (I : Int)) = s.any (near k (I : Int)) := by rw [List.take_of_length_le (by omega)]
          rw [hKs, ← hwt]
          have hbw : bi < wr.heap.size := by omega
          have e0 := bo_cells hci hbi hbel2 hlI
          have i0 : (0 : Int) ≤ (I : Int) := by omega
          have i1 : (I : Int) < (M : Int) := by omega
          clear hKs hwt hci hAs
          generalize Cv[I] = x at *
          cases x
          all_goals
            go_wp2_with fail
            go_roundw
            case rel => exact ⟨I + 1, by omega, by go_num, hbel2⟩
            case measure => simp [intOf]; omega
    · have hbs := hbel.size
      clear hAs hAi
      go_wp2_with fail
      refine (awake26 _).mono ?_
      rintro e w' ⟨rfl, hb⟩
      go_wp2_with fail
      go_ret
      exact ⟨rfl, c3.trans ((hbel.trans (hb.mono hbs)).mono s3)⟩
end Go.Proofs.Ytagembkjmnfidaa
