import Derived.Test.YtagembkjmnfidaaTrkC
namespace Go.Proofs.Ytagembkjmnfidaa
open Go.RowKit
open Go.Proofs.Ml
set_option linter.unusedVariables false

/-- What Touches hands back. -/
def TouchRet (w : World) (b : Bool) (err : Int) (e : Ending) (w' : World) : Prop := e = .returned (.tuple #[.bool b, .int .i64 err]) ∧ Below w.heap.size w w'
theorem touch_ret {w w' : World} {b b' : Bool} {err err' : Int} (h : b = b') (he : err = err') (hb : Below w.heap.size w w') : TouchRet w b err (.returned (.tuple #[.bool b', .int .i64 err'])) w' := by
  subst h; subst he; exact ⟨rfl, hb⟩
theorem tc_err {l : List Chg} {m n : Int} {s : Spn} (h : tkRes l m n s = []) : tcRes l m n s = false := by unfold tcRes; rw [h]; rfl

set_option maxRecDepth 100000 in
set_option maxHeartbeats 3200000 in
theorem touch58 (v : Value) (l : List Chg) (m n : Int) (s : Spn) (w : World) (hr : Rd w v 4 l.length (chVals l)) (hl : l.length ≤ 900000) :
    Calls Try.prog 58 #[v, .int .i64 m, .int .i64 n, spAgg s] w (TouchRet w (tcRes l m n s) (tkErr l m n s)) := by
  have hb0 : Below w.heap.size w (w.alloc (.cells #[.int .i64 s.f, .int .i64 s.t] 35)) := (Below.refl _ _).alloc (Nat.le_refl _) _
  have HR0 := hide (hr.below hb0 (Nat.le_refl _))
  clear hr
  have HC := hide (fun W (hW : Rd W v 4 l.length (chVals l)) => part80 v l m n s W hW hl)
  by_cases h0 : tkErr l m n s = 0
  · obtain ⟨hv, hP⟩ := tk_parts h0
    have H0 := hide h0
    have hpa := mat_asc hv
    have hm := (valid_iff.1 hv).1
    have HBK : Hid (tcRes l m n s = tch (tkRes l m n s)) := hide rfl
    have hrng := fun j => part_range hpa j hm.1
    have hlen : (tkRes l m n s).length ≤ 4096 := by rw [hP, parts_length]; have := tk_zero h0; have := (valid_iff.1 hv).2.1; unfold tkLen; omega
    have hget := fun i (h : i < (parts (mat 0 0 l m) s.f (tkLen s)).length) => parts_get (mat 0 0 l m) s.f (tkLen s) i h
    rw [← hP] at hget
    generalize tkRes l m n s = P at *
    have HRG := hide (fun i (h : i < P.length) => show -1 ≤ P[i] ∧ P[i] ≤ m by rw [hget i h]; exact hrng _)
    obtain ⟨m0, m1⟩ := hm
    clear hv hP h0 hpa hrng hget
    obtain ⟨F, T⟩ := s
    simp only at HR0 hb0
    have HB0 := hide hb0
    clear hb0
    unfold spAgg
    unfold spAgg at HC
    go_enter Try.func58, Try.ntmps58
    go_wp2_with fail
    refine (HC.out _ HR0.out).mono ?_
    rintro e w1 ⟨pv, rfl, hown, hb1⟩
    rw [H0.out]
    have s0 := HB0.out.size
    have c1 := HB0.out.trans (hb1.mono s0)
    have s1 := c1.size
    obtain ⟨Ap, cp, rfl, _, _, _, hAp⟩ := Rd.of_own hown
    clear hown hb1
    go_wp2_with fail
    go_loop [27] (fun k => ∃ (K : Nat), K ≤ P.length ∧ k = .int .i64 K ∧ TcInv P K)
      (fun k => P.length - (intOf k).toNat)
    case atStart => exact ⟨0, by omega, rfl, TcInv.start P⟩
    case round =>
      obtain ⟨K, hK, rfl, hinv⟩ := hrel
      by_cases hlt : K < P.length
      · obtain ⟨bb, off, rfl, hb, hc⟩ := hAp (by omega)
        have q0 := in_cells hc hb (Below.refl _ _) hlt
        obtain ⟨r1, r2⟩ := HRG.out K hlt
        by_cases hi : P[K] < 0
        · have HE := hide (hinv.yes0 hlt hi)
          clear hinv hc hAp
          generalize P[K] = i at *
          go_wp2_with fail
          go_ret2
          exact touch_ret (by rw [HBK.out, HE.out]) H0.out c1
        have hi0 : 0 ≤ P[K] := by omega
        rcases K with _ | Q
        · have HN := hide (hinv.no hlt hi0 (fun Q e => by omega))
          rw [Nat.add_zero] at q0
          clear hinv hc hAp hi
          generalize P[0] = i at *
          go_wp2_with fail
          go_round
          case rel => exact ⟨1, by omega, rfl, HN.out⟩
          case measure => simp [intOf]; omega
        · have q1 := in_cells hc hb (Below.refl _ _) (show Q < P.length by omega)
          obtain ⟨r3, r4⟩ := HRG.out Q (by omega)
          by_cases he : P[Q + 1] = P[Q] + 1
          · have HN := hide (hinv.no hlt hi0 (fun R e => by obtain rfl : Q = R := (by omega); exact he))
            have hE : ((P[Q + 1] != P[Q] + 1) : Bool) = false := by simp [he]
            clear hinv hc hAp hi he
            generalize P[Q + 1] = i at *
            generalize P[Q] = j at *
            go_wp2_with fail
            go_round
            case rel => exact ⟨Q + 1 + 1, by omega, by go_num, HN.out⟩
            case measure => simp [intOf]; omega
          · have HE := hide (hinv.yes1 hlt he)
            have hE : ((P[Q + 1] != P[Q] + 1) : Bool) = true := by simp [he]
            clear hinv hc hAp hi he
            generalize P[Q + 1] = i at *
            generalize P[Q] = j at *
            go_wp2_with fail
            go_ret2
            exact touch_ret (by rw [HBK.out, HE.out]) H0.out c1
      · have hF := hide (hinv.fin (by omega))
        clear hinv hAp
        go_wp2_with fail
        go_ret2
        exact touch_ret (by rw [HBK.out, hF.out]) H0.out c1
  · have hP : tkRes l m n s = [] := by simp [tkRes, h0]
    have HBK := hide (tc_err hP)
    have hne : ((tkErr l m n s != 0) : Bool) = true := by simp [h0]
    clear hP h0
    generalize tkErr l m n s = E at *
    obtain ⟨F, T⟩ := s
    simp only at HR0 hb0
    have HB0 := hide hb0
    clear hb0
    unfold spAgg
    unfold spAgg at HC
    go_enter Try.func58, Try.ntmps58
    go_wp2_with fail
    refine (HC.out _ HR0.out).mono ?_
    rintro e w1 ⟨pv, rfl, hown, hb1⟩
    have s0 := HB0.out.size
    have c1 := HB0.out.trans (hb1.mono s0)
    clear hown hb1
    go_wp2_with fail
    go_ret2
    exact touch_ret HBK.out rfl c1

set_option maxRecDepth 100000 in
set_option maxHeartbeats 3200000 in
theorem touch59 (v : Value) (l : List Chg) (m n : Int) (s : Spn) (w : World) (hr : Rd w v 4 l.length (chVals l)) (hl : l.length ≤ 900000) :
    Calls Try.prog 59 #[v, .int .i64 m, .int .i64 n, spAgg s] w (TouchRet w (tcRes l m n s) (tkErr l m n s)) := by
  have hb0 : Below w.heap.size w (w.alloc (.cells #[.int .i64 s.f, .int .i64 s.t] 35)) := (Below.refl _ _).alloc (Nat.le_refl _) _
  have HR := hide hr
  have HR0 := hide (hr.below hb0 (Nat.le_refl _))
  clear hr
  have HC := hide (fun W (hW : Rd W v 4 l.length (chVals l)) => check81 v l m n s W hW hl)
  by_cases h0 : tkErr l m n s = 0
  · obtain ⟨hv, hP⟩ := tk_parts h0
    obtain ⟨_, f0, f1, f2⟩ := tk_zero h0
    have H0 := hide h0
    have hpa := mat_asc hv
    have hvv := valid_iff.1 hv
    have hm := hvv.1
    have hn := hvv.2.1
    have HBK : Hid (tcRes l m n s = tch (tkRes l m n s)) := hide rfl
    have hrng := fun j => part_range hpa j hm.1
    have hkl : (tkRes l m n s).length = tkLen s := by rw [hP, parts_length]
    have hget := fun i (h : i < (parts (mat 0 0 l m) s.f (tkLen s)).length) => parts_get (mat 0 0 l m) s.f (tkLen s) i h
    rw [← hP] at hget
    have HPA := hide (fun W (hW : Rd W v 4 l.length (chVals l)) j => partner82 v l m n j W hW hv hl)
    have hklT : s.f + ((tkRes l m n s).length : Int) = s.t := by rw [hkl]; unfold tkLen; omega
    generalize tkRes l m n s = P at *
    have HRG := hide (fun i (h : i < P.length) => show -1 ≤ P[i] ∧ P[i] ≤ m by rw [hget i h]; exact hrng _)
    have HGET := hide hget
    obtain ⟨m0, m1⟩ := hm
    obtain ⟨n0, n1⟩ := hn
    have hPl : P.length ≤ 4096 := by omega
    have HKT := hide hklT
    clear hv hP h0 hpa hrng hget hkl hvv hklT
    obtain ⟨F, T⟩ := s
    simp only at HR0 hb0 f0 f1 f2 HKT HGET
    have HB0 := hide hb0
    clear hb0
    unfold spAgg
    unfold spAgg at HC
    go_enter Try.func59, Try.ntmps59
    go_wp2_with fail
    refine (HC.out _ HR0.out).mono ?_
    rintro e w1 ⟨rfl, hb1⟩
    rw [H0.out]
    have s0 := HB0.out.size
    have c1 := HB0.out.trans (hb1.mono s0)
    have s1 := c1.size
    have hts := (Two.new w 35 (.int .i64 F) (.int .i64 T)).below hb1 (by simp)
    have HTS := hide hts
    have u0 := hts.c0
    have u1 := hts.c1
    have hlt0 := hts.lt
    clear hb1 hts
    go_wp2_with fail
    go_loopw [11] (fun j wr => ∃ (K : Nat), K ≤ P.length ∧ j = .int .i64 (F + (K : Int)) ∧ Below w1.heap.size w1 wr ∧ TcInv P K)
      (fun j _ => (T - intOf j).toNat)
    case atStart => exact ⟨0, by omega, by simp, Below.refl _ _, TcInv.start P⟩
    case round =>
      obtain ⟨K, hK, rfl, hbel, hinv⟩ := hrel
      have hbs := hbel.size
      have cr := c1.trans (hbel.mono s1)
      have sr := cr.size
      have hts := HTS.out.below hbel hlt0
      have t0 := hts.c0
      have t1 := hts.c1
      have hltr := hts.lt
      by_cases hlt : K < P.length
      · have hlT : F + (K : Int) < T := by have := HKT.out; omega
        obtain ⟨r1, r2⟩ := HRG.out K hlt
        have HG := hide (HGET.out K hlt)
        have HTR := hide hts
        clear hts
        go_wp2_with fail
        refine (HPA.out _ (HR.out.below cr (Nat.le_refl _)) _).mono ?_
        rintro e w2 ⟨rfl, hb2⟩
        rw [← HG.out]
        have ht2 := HTR.out.below hb2 hltr
        have y0 := ht2.c0
        have y1 := ht2.c1
        have hb12 := hbel.trans (hb2.mono hbs)
        have c2 := cr.trans (hb2.mono sr)
        have s2 := c2.size
        have s12 := hb12.size
        clear ht2 hb2 t0 t1 HTR
        by_cases hi : P[K] < 0
        · have HE := hide (hinv.yes0 hlt hi)
          clear hinv
          generalize P[K] = i at *
          go_wp2_with fail
          go_ret2
          exact touch_ret (by rw [HBK.out, HE.out]) H0.out c2
        have hi0 : 0 ≤ P[K] := by omega
        rcases K with _ | Q
        · have HN := hide (hinv.no hlt hi0 (fun Q e => by omega))
          have hd : ¬ (F < F + ((0 : Nat) : Int)) := by omega
          clear hinv hi
          generalize P[0] = i at *
          go_wp2_with fail
          go_roundw
          case rel => exact ⟨1, by omega, by first | rfl | (congr 1; omega) | (simp; done), hb12, HN.out⟩
          case measure => simp [intOf]; omega
        · obtain ⟨r3, r4⟩ := HRG.out Q (by omega)
          have HG2 := hide (HGET.out Q (by omega))
          have hd : F < F + ((Q : Int) + 1) := by omega
          by_cases he : P[Q + 1] = P[Q] + 1
          · have HN := hide (hinv.no hlt hi0 (fun R e => by obtain rfl : Q = R := (by omega); exact he))
            have hE : ((P[Q + 1] != P[Q] + 1) : Bool) = false := by simp [he]
            clear hinv hi he
            generalize P[Q + 1] = i at *
            go_wp2_with fail
            refine (HPA.out _ (HR.out.below c2 (Nat.le_refl _)) _).mono ?_
            rintro e w3 ⟨rfl, hb3⟩
            rw [show F + ((Q : Int) + 1) - 1 = F + (Q : Int) by omega, ← HG2.out]
            generalize P[Q] = j at *
            go_wp2_with fail
            go_roundw
            case rel => exact ⟨Q + 1 + 1, by omega, by first | rfl | (congr 1; omega), hb12.trans (hb3.mono s12), HN.out⟩
            case measure => simp [intOf]; omega
          · have HE := hide (hinv.yes1 hlt he)
            have hE : ((P[Q + 1] != P[Q] + 1) : Bool) = true := by simp [he]
            clear hinv hi he
            generalize P[Q + 1] = i at *
            go_wp2_with fail
            refine (HPA.out _ (HR.out.below c2 (Nat.le_refl _)) _).mono ?_
            rintro e w3 ⟨rfl, hb3⟩
            rw [show F + ((Q : Int) + 1) - 1 = F + (Q : Int) by omega, ← HG2.out]
            generalize P[Q] = j at *
            go_wp2_with fail
            go_ret2
            exact touch_ret (by rw [HBK.out, HE.out]) H0.out (c2.trans (hb3.mono s2))
      · have hlT : ¬ F + (K : Int) < T := by have := HKT.out; omega
        have hF := hide (hinv.fin (by omega))
        clear hinv hts
        go_wp2_with fail
        go_ret2
        exact touch_ret (by rw [HBK.out, hF.out]) H0.out cr
  · have hP : tkRes l m n s = [] := by simp [tkRes, h0]
    have HBK := hide (tc_err hP)
    have hne : ((tkErr l m n s != 0) : Bool) = true := by simp [h0]
    clear hP h0
    generalize tkErr l m n s = E at *
    obtain ⟨F, T⟩ := s
    simp only at HR0 hb0
    have HB0 := hide hb0
    clear hb0
    unfold spAgg
    unfold spAgg at HC
    go_enter Try.func59, Try.ntmps59
    go_wp2_with fail
    refine (HC.out _ HR0.out).mono ?_
    rintro e w1 ⟨rfl, hb1⟩
    have s0 := HB0.out.size
    have c1 := HB0.out.trans (hb1.mono s0)
    clear hb1
    go_wp2_with fail
    go_ret2
    exact touch_ret HBK.out rfl c1
end Go.Proofs.Ytagembkjmnfidaa
