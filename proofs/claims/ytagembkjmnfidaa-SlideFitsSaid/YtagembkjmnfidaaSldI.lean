import Derived.Test.YtagembkjmnfidaaSldY
namespace Go.Proofs.Ytagembkjmnfidaa
open Go.RowKit
open Go.Proofs.Ml
set_option linter.unusedVariables false

/-- What Down and Up hand back. -/
def SlRet (can : List Chg → Nat → Prop) (d : Int) (ks : List Nat) (w : World) (l : List Chg) (a b : List Int) (e : Ending) (w' : World) : Prop :=
  (fits l a b = false ∧ e = .returned (.tuple #[.slice none 0 0, .int .i64 80]) ∧ Below w.heap.size w w') ∨
  (fits l a b = true ∧ ∃ (r : List Chg) (v : Value), e = .returned (.tuple #[v, .int .i64 0]) ∧ Mvs can d ks l r ∧ fits r a b = true ∧ w'.ownsRow w.heap.size 45 4 v r.length (chVals r) ∧ Below w.heap.size w w')

set_option maxRecDepth 100000 in
set_option maxHeartbeats 1600000 in
theorem down68 (v va vb : Value) (l : List Chg) (a b : List Int) (w : World) (hr : Rd w v 4 l.length (chVals l)) (hra : Rd w va 1 a.length (inVals a)) (hrb : Rd w vb 1 b.length (inVals b)) (hl : l.length ≤ 900000) :
    Calls Try.prog 68 #[v, va, vb] w (SlRet (canD a b) (1) ((List.range l.length).reverse) w l a b) := by
  have H84 := hide (start84 v va vb l a b w hr hra hrb hl)
  obtain ⟨Aa, ca, rfl, _, _, _, _⟩ := hra
  obtain ⟨Ab, cb, rfl, _, _, _, _⟩ := hrb
  obtain ⟨A, cap, rfl, _, _, _, hA⟩ := hr
  clear hA
  have e0 := IntWalk.i64_in ((l.length : Int) - 1) (by omega)
  go_enter Try.func68, Try.ntmps68
  go_wp2_with fail
  refine H84.out.mono ?_
  rintro e w1 (⟨hf, rfl, hb⟩ | ⟨hf, M, v', rfl, hm⟩)
  · have HF := hide hf
    clear hf
    go_wp2_with fail
    go_returns
    exact .inl ⟨HF.out, rfl, hb⟩
  · have HF := hide hf
    have HM := hide hm
    obtain ⟨Av, cv, hve, _⟩ := own_open hm.own
    subst hve
    clear hf hm H84
    go_wp2_with fail
    go_loopw [10] (fun k wr => ∃ (z : Int) (J : Nat) (cur : List Chg), k = .int .i64 z ∧ z = (J : Int) - 1 ∧ J ≤ l.length ∧ cur.length = l.length ∧ (∀ r, Mvs (canD a b) 1 (List.range J).reverse cur r → Mvs (canD a b) 1 (List.range l.length).reverse l r) ∧ MV w M (.slice Av l.length cv) (.slice Aa a.length ca) (.slice Ab b.length cb) cur a b wr)
      (fun k _ => (intOf k + 1).toNat)
    case atStart => exact ⟨_, l.length, l, rfl, rfl, Nat.le_refl _, rfl, fun r h => h, HM.out⟩
    case round =>
      obtain ⟨z, J, cur, rfl, hz, hJ, hlen, hinv, hmv⟩ := hrel
      have HI := hide hinv
      have HMV := hide hmv
      clear hinv
      by_cases h0 : 0 ≤ z
      · obtain ⟨P, rfl⟩ := Int.eq_ofNat_of_zero_le h0
        obtain rfl : J = P + 1 := by omega
        have HS := hide (often_down w M P _ _ _ cur a b wr hmv (by omega))
        have e1 := IntWalk.i64_in ((P : Int) - 1) (by omega)
        clear hmv hz
        go_wp2_with fail
        refine HS.out.mono ?_
        rintro e w' ⟨c, r, rfl, hmv, hm⟩
        have HM' := hide hm
        have HV' := hide hmv
        clear hm hmv HS
        go_wp2_with fail
        go_roundw
        case rel => exact ⟨_, P, r, rfl, rfl, by omega, HV'.out.same.1.trans hlen, fun s hs => HI.out s (by rw [List.range_succ, List.reverse_append]; exact .cons P _ c cur r s HV'.out hs), HM'.out⟩
        case measure => simp [intOf]
      · obtain rfl : J = 0 := by omega
        have y0 := hmv.thr.c0
        have y1 := hmv.thr.lt
        clear hmv
        go_wp2_with fail
        go_returns
        exact .inr ⟨HF.out, cur, _, rfl, HI.out cur (.nil _), HMV.out.fit, HMV.out.own, HMV.out.below⟩

set_option maxRecDepth 100000 in
set_option maxHeartbeats 1600000 in
theorem up70 (v va vb : Value) (l : List Chg) (a b : List Int) (w : World) (hr : Rd w v 4 l.length (chVals l)) (hra : Rd w va 1 a.length (inVals a)) (hrb : Rd w vb 1 b.length (inVals b)) (hl : l.length ≤ 900000) :
    Calls Try.prog 70 #[v, va, vb] w (SlRet (canU a b) (-1) (List.range' 0 l.length) w l a b) := by
  have H84 := hide (start84 v va vb l a b w hr hra hrb hl)
  obtain ⟨Aa, ca, rfl, _, _, _, _⟩ := hra
  obtain ⟨Ab, cb, rfl, _, _, _, _⟩ := hrb
  obtain ⟨A, cap, rfl, _, _, _, hA⟩ := hr
  clear hA
  go_enter Try.func70, Try.ntmps70
  go_wp2_with fail
  refine H84.out.mono ?_
  rintro e w1 (⟨hf, rfl, hb⟩ | ⟨hf, M, v', rfl, hm⟩)
  · have HF := hide hf
    clear hf
    go_wp2_with fail
    go_returns
    exact .inl ⟨HF.out, rfl, hb⟩
  · have HF := hide hf
    have HM := hide hm
    obtain ⟨Av, cv, hve, _⟩ := own_open hm.own
    subst hve
    clear hf hm H84
    go_wp2_with fail
    go_loopw [10, 23] (fun _ k wr => ∃ (J : Nat) (cur : List Chg), k = .int .i64 J ∧ J ≤ l.length ∧ cur.length = l.length ∧ (∀ r, Mvs (canU a b) (-1) (List.range' J (l.length - J)) cur r → Mvs (canU a b) (-1) (List.range' 0 l.length) l r) ∧ MV w M (.slice Av l.length cv) (.slice Aa a.length ca) (.slice Ab b.length cb) cur a b wr)
      (fun _ k _ => l.length - (intOf k).toNat)
    case atStart => exact ⟨0, l, rfl, by omega, rfl, fun r h => h, HM.out⟩
    case round =>
      obtain ⟨J, cur, rfl, hJ, hlen, hinv, hmv⟩ := hrel
      have HI := hide hinv
      have HMV := hide hmv
      clear hinv
      by_cases h0 : J < l.length
      · have HS := hide (often_up w M J _ _ _ cur a b wr hmv (by omega))
        have e1 : IntKind.i64.wrap ((J : Int) + 1) = ((J + 1 : Nat) : Int) := by rw [IntWalk.i64_in _ (by omega)]; omega
        clear hmv
        go_wp2_with fail
        refine HS.out.mono ?_
        rintro e w' ⟨c, r, rfl, hmv, hm⟩
        have HM' := hide hm
        have HV' := hide hmv
        clear hm hmv HS
        go_wp2_with fail
        go_roundw
        case rel => exact ⟨J + 1, r, by go_num, by omega, HV'.out.same.1.trans hlen, fun s hs => HI.out s (by rw [show l.length - J = (l.length - (J + 1)) + 1 by omega, List.range'_succ]; exact .cons J _ c cur r s HV'.out hs), HM'.out⟩
        case measure => simp [intOf]; omega
      · have y0 := hmv.thr.c0
        have y1 := hmv.thr.lt
        have HE := hide (show l.length - J = 0 by omega)
        clear hmv
        go_wp2_with fail
        go_returns
        exact .inr ⟨HF.out, cur, _, rfl, HI.out cur (by rw [HE.out]; exact .nil _), HMV.out.fit, HMV.out.own, HMV.out.below⟩
end Go.Proofs.Ytagembkjmnfidaa
