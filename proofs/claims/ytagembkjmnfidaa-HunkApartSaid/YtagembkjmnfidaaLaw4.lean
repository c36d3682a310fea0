import Derived.Test.YtagembkjmnfidaaLaw3
import Derived.Test.YtagembkjmnfidaaSizC
import Derived.Test.YtagembkjmnfidaaSpecF
import Derived.Test.YtagembkjmnfidaaBaseD
import Derived.IntWalk
namespace Go.Proofs.Ytagembkjmnfidaa
open Go.RowKit
open Go.Proofs.Ml
set_option linter.unusedVariables false

set_option maxRecDepth 100000 in
set_option maxHeartbeats 6400000 in
theorem walk4 (w : World) (v0 : Value) (z0 : List Int) (r0 : Rd w v0 1 z0.length (inVals z0)) (b0 : z0.length ≤ 9223372036854775807) (ctx : Int) (b1 : -9223372036854775808 ≤ ctx ∧ ctx ≤ 9223372036854775807) :
    Calls Try.prog 4 #[v0, .int .i64 ctx] w fun e w' => e = .returned (.bool true) ∧ Below w.heap.size w w' := by
  have H0 := hide r0
  clear r0
  go_enter Try.func4, Try.ntmps4
  go_wp2_with fail
  refine (script27 _ z0 0 _ H0.out b0 (by omega) (by omega)).mono ?_
  rintro e w1 ⟨sv, s, a, b, rfl, hval, ha, hb, hsl, hs, hb1⟩
  have HS := hide (Rd.of_own hs)
  have hvv := valid_iff.1 hval
  obtain ⟨a0, a1⟩ := hvv.1
  obtain ⟨n0, n1⟩ := hvv.2.1
  have HV := hide hval
  have HB := hide hvv.2.2.bounds
  clear hs hval hvv
  have s1 := hb1.size
  go_wp2_with fail
  refine (mod29 ctx 5 _ (by omega) (by omega)).mono ?_
  rintro e w' ⟨rfl, rfl⟩
  obtain ⟨k0, k1⟩ := gmod_range ctx 5 (by omega) (by omega)
  generalize gmod ctx 5 = k at *
  have HG := hide (grp_ok (l := s) (m := a) (n := b) (ctx := k) ⟨k0, by omega⟩ HV.out)
  have hgl : (grp s a b k).length ≤ s.length := grp_len s a b k
  go_wp2_with fail
  refine (group28 _ s a b k _ HS.out (by omega)).mono ?_
  rintro e w2 ⟨xv, rfl, hxo, hb2⟩
  rw [HG.out.1]
  rw [HG.out.2] at hxo hgl
  have HBD := hide (hunks_apart HV.out k0).bounds
  have HAP := ApInv.start (hunks_apart HV.out k0)
  have HWD := hide (hunks_wide HV.out k0)
  have hX := Rd.of_own hxo
  have hS2 := HS.out.below hb2 (Nat.le_refl _)
  have c2 := hb1.trans (hb2.mono s1)
  have s2 := c2.size
  clear hxo HG hb1 hb2
  generalize hunks s a k = G at *
  obtain ⟨AX, capX, rfl, _, _, _, hAX⟩ := hX
  obtain ⟨AS, capS, rfl, hcapS, hcap', hSl, hAS⟩ := hS2
  go_wp2_with fail
  go_loopw [10, 11] (fun at_ kk wr => ∃ (K : Nat) (A : Int), K ≤ G.length ∧ kk = .int .i64 K ∧ at_ = .int .i64 A ∧ 0 ≤ A ∧ A ≤ s.length ∧ Below w2.heap.size w2 wr ∧ ApInv s a b G K A)
    (fun _ kk _ => G.length - (intOf kk).toNat)
  case atStart => exact ⟨0, 0, by omega, rfl, rfl, by omega, by omega, Below.refl _ _, HAP⟩
  case round =>
    obtain ⟨K, A, hK, rfl, rfl, hA0, hA1, hbel, hinv⟩ := hrel
    have hbs := hbel.size
    by_cases hlt : K < G.length
    · obtain ⟨bx, ox, rfl, hbx, hcx⟩ := hAX (by omega)
      have hbw : bx < wr.heap.size := by omega
      obtain ⟨c0, c1, c2', c3, c4, c5⟩ := hk_cells hcx hbx hbel hlt
      have hwd := HWD.out G[K] (List.getElem_mem _)
      have i0 : (0 : Int) ≤ (K : Int) := by omega
      have i1 : (K : Int) < (G.length : Int) := by omega
      by_cases hK0 : K = 0
      · obtain ⟨p1, p2, p3, p4, p5, p6, p7, p8, p9, p10⟩ := hinv.first' hK0 hlt
        have hd : decide ((0 : Int) < (K : Int)) = false := by simp; omega
        have hd2 : decide (0 < K) = false := by simp; omega
        have HI := hide p10
        have HQ := hide p9
        clear hinv hK0 p9 p10 hcx hAX
        generalize G[K] = C at *
        obtain ⟨x0, x1, x2, x3, x4, x5⟩ := C
        simp only at c0 c1 c2' c3 c4 c5 hwd p1 p3 p4 p5 p6 p7 p8 HI HQ
        subst p1
        clear p2
        obtain ⟨F, rfl⟩ := Int.eq_ofNat_of_zero_le hA0
        obtain ⟨L, rfl⟩ := Int.eq_ofNat_of_zero_le (show 0 ≤ x1 by omega)
        obtain ⟨w01, w02⟩ := hwd
        obtain ⟨bs, os, rfl, hbs, hcs⟩ := hAS (by omega)
        have hFL : F ≤ L := by omega
        have hLc : L ≤ capS := by omega
        have hcF : ¬ (capS = F) := by omega
        have hbs' : ∀ W, Below w2.heap.size w2 W → bs < W.heap.size := fun W hW => by have := hW.size; omega
        have hlen : ((s.drop F).take (L - F)).length ≤ 1000000 := by simp; omega
        have HC := hide (fun W (hW : Below w2.heap.size w2 W) => size32q _ _ _ (Rd.cut_ch (w := W) (fun j u hu => (hW.cell (p := ⟨bs, os + j, none⟩) hbs).trans (hcs j u hu)) (hbs' W hW) hFL (show L ≤ s.length by omega) hcapS hcap') hlen)
        obtain ⟨X, Y, f1, f2, f3, f4, X0, X1, Y0, Y1⟩ := part_size (F := F) (L := L) HB.out hsl
        rw [f1, f2] at HC
        rw [f3, f4] at HQ
        clear f1 f2 f3 f4 hAS hbs' hlen hcs
        have e0 : ((x3 - x2 - X != x5 - x4 - Y) : Bool) = false := by rw [HQ.out]; simp
        have e1 := IntWalk.i64_in (x3 - x2) (by omega)
        have e2 := IntWalk.i64_in (x3 - x2 - X) (by omega)
        have e3 := IntWalk.i64_in (x5 - x4) (by omega)
        have e4 := IntWalk.i64_in (x5 - x4 - Y) (by omega)
        go_wp2_with fail
        go_quiet (fail)
        go_wp2_with fail
        go_quiet ((go_at_call 32; exact quiet_behind (HC.out _ (below_drewN hbel _))))
        go_wp2_with fail
        go_quiet (fail)
        go_wp2_with fail
        go_roundw
        case rel => exact ⟨K + 1, L, by omega, by go_num, rfl, by omega, by omega, below_drewN hbel _, HI.out⟩
        case measure => simp [intOf]; omega
      · obtain ⟨P, hP⟩ : ∃ P, K = P + 1 := ⟨K - 1, by omega⟩
        have hPl : P < G.length := by omega
        obtain ⟨p1, p3, p4, p9, p10, p11⟩ := hinv.next' P hP hlt hPl
        obtain ⟨y0, y1, y2, y3, y4, y5⟩ := hk_cells hcx hbx hbel hPl
        obtain ⟨p5, p6, p7, p8⟩ := HBD.out G[K] (List.getElem_mem _)
        obtain ⟨q5, q6, q7, q8⟩ := HBD.out G[P] (List.getElem_mem _)
        obtain ⟨w03, w04⟩ := HWD.out G[P] (List.getElem_mem _)
        obtain ⟨w01, w02⟩ := hwd
        have hd : decide ((0 : Int) < (K : Int)) = true := by simp; omega
        have hd2 : decide (0 < K) = true := by simp; omega
        have HI := hide p11
        have HQ := hide p10
        obtain ⟨g1, g2⟩ := p9
        clear hinv hK0 p10 p11 hcx hAX y0 y1 y2 y4
        generalize G[P] = D at *
        generalize G[K] = C at *
        obtain ⟨z0', z1, z2, z3, z4, z5⟩ := D
        obtain ⟨x0, x1, x2, x3, x4, x5⟩ := C
        simp only at c0 c1 c2' c3 c4 c5 w01 w02 w03 w04 p1 p3 p4 p5 p6 p7 p8 q5 q6 q7 q8 y3 y5 g1 g2 HI HQ
        subst p1
        obtain ⟨F, rfl⟩ := Int.eq_ofNat_of_zero_le hA0
        obtain ⟨L, rfl⟩ := Int.eq_ofNat_of_zero_le (show 0 ≤ x1 by omega)
        obtain ⟨bs, os, rfl, hbs, hcs⟩ := hAS (by omega)
        have hFL : F ≤ L := by omega
        have hLc : L ≤ capS := by omega
        have hcF : ¬ (capS = F) := by omega
        have hbs' : ∀ W, Below w2.heap.size w2 W → bs < W.heap.size := fun W hW => by have := hW.size; omega
        have hlen : ((s.drop F).take (L - F)).length ≤ 1000000 := by simp; omega
        have HC := hide (fun W (hW : Below w2.heap.size w2 W) => size32q _ _ _ (Rd.cut_ch (w := W) (fun j u hu => (hW.cell (p := ⟨bs, os + j, none⟩) hbs).trans (hcs j u hu)) (hbs' W hW) hFL (show L ≤ s.length by omega) hcapS hcap') hlen)
        obtain ⟨X, Y, f1, f2, f3, f4, X0, X1, Y0, Y1⟩ := part_size (F := F) (L := L) HB.out hsl
        rw [f1, f2] at HC
        rw [f3, f4] at HQ
        clear f1 f2 f3 f4 hAS hbs' hlen hcs
        have e0 : ((x3 - x2 - X != x5 - x4 - Y) : Bool) = false := by rw [HQ.out]; simp
        have g3 : ((x4 - z5 != x2 - z3) : Bool) = false := by rw [g2]; simp
        have g4 : decide (x2 ≤ z3) = false := by simp; omega
        have m1 : (0 : Int) ≤ (P : Int) := by omega
        have m2 : (P : Int) < (G.length : Int) := by omega
        have e1 := IntWalk.i64_in (x3 - x2) (by omega)
        have e2 := IntWalk.i64_in (x3 - x2 - X) (by omega)
        have e3 := IntWalk.i64_in (x5 - x4) (by omega)
        have e4 := IntWalk.i64_in (x5 - x4 - Y) (by omega)
        have e5 := IntWalk.i64_in (x4 - z5) (by omega)
        have e6 := IntWalk.i64_in (x2 - z3) (by omega)
        have e7 : IntKind.i64.wrap ((K : Int) - 1) = (P : Int) := by rw [IntWalk.i64_in _ (by omega)]; omega
        have HP := hide hP
        clear g2 hP
        go_wp2_with fail
        go_quiet (fail)
        go_wp2_with fail
        go_quiet ((go_at_call 32; exact quiet_behind (HC.out _ (below_drewN hbel _))))
        go_wp2_with fail
        go_quiet (fail)
        go_wp2_with fail
        go_roundw
        case rel => exact ⟨K + 1, L, by omega, by go_num, rfl, by omega, by omega, below_drewN hbel _, HI.out⟩
        case measure => simp [intOf]; omega
    · have hE := hide (hinv.fin (show K = G.length by omega))
      have hE2 : ((A == (s.length : Int)) : Bool) = true := by rw [beq_iff_eq]; exact hE.out
      clear hinv hAX hAS
      go_wp2_with fail
      refine (awake26 _).mono ?_
      rintro e w' ⟨rfl, hb⟩
      go_wp2_with fail
      go_ret
      exact ⟨rfl, c2.trans ((hbel.trans (hb.mono hbs)).mono s2)⟩
end Go.Proofs.Ytagembkjmnfidaa
