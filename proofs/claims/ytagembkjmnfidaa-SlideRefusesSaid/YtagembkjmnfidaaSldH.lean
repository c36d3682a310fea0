import Derived.Test.YtagembkjmnfidaaSldG
import Derived.Test.YtagembkjmnfidaaSpecV
namespace Go.Proofs.Ytagembkjmnfidaa
open Go.RowKit
open Go.Proofs.Ml
set_option linter.unusedVariables false

/-- What often leaves. -/
def Often (can : List Chg → Nat → Prop) (d : Int) (W0 : World) (M : Nat) (v va vb : Value) (l : List Chg) (a b : List Int) (K : Nat) (e : Ending) (w' : World) : Prop :=
  ∃ (c : Nat) (r : List Chg), e = .returned (.int .i64 c) ∧ Mv can d K c l r ∧ MV W0 M v va vb r a b w'
theorem MV.get {W0 : World} {M : Nat} {v va vb : Value} {l : List Chg} {a b : List Int} {w : World} (h : MV W0 M v va vb l a b w) : M < w.heap.size := h.thr.lt

set_option maxRecDepth 100000 in
set_option maxHeartbeats 1600000 in
theorem often_down (W0 : World) (M K : Nat) (v va vb : Value) (l : List Chg) (a b : List Int) (w : World) (h : MV W0 M v va vb l a b w) (hK : K < l.length) :
    Calls Try.prog 85 #[.func (.func 87) #[.pointer (some ⟨M, 0, none⟩)] #[], .int .i64 K] w (Often (canD a b) (1) W0 M v va vb l a b K) := by
  have HF := hide h.fit
  go_enter Try.func85, Try.ntmps85
  go_wp2_with fail
  go_loopw [5] (fun n wr => ∃ (c : Nat) (cur : List Chg), n = .int .i64 c ∧ c ≤ 4096 ∧ OfInv (canD a b) (1) K l c cur ∧ MV W0 M v va vb cur a b wr)
    (fun n _ => 5000 - (intOf n).toNat)
  case atStart => exact ⟨0, l, rfl, by omega, OfInv.start _ _ _ _, h⟩
  case round =>
    obtain ⟨c, cur, rfl, hc, hinv, hmv⟩ := hrel
    have HI := hide hinv
    have hKc : K < cur.length := by rw [hinv.len]; exact hK
    have HS := hide (down87 W0 M K v va vb cur a b wr hmv hKc)
    clear hinv hmv h
    go_wp2_with fail
    refine HS.out.mono ?_
    rintro e w' (⟨hcan, rfl, hm⟩ | ⟨hcan, rfl, hm⟩)
    · have HM := hide hm
      have HC := hide hcan
      clear hm hcan HS
      go_wp2_with fail
      go_ret
      exact ⟨c, cur, rfl, HI.out.fin HC.out, HM.out⟩
    · have HM := hide hm
      have hb := (HI.out.next hcan).bound (by omega) hK HF.out hm.fit
      have HC := hide hcan
      clear hm hcan HS
      have e1 : IntKind.i64.wrap ((c : Int) + 1) = ((c + 1 : Nat) : Int) := by rw [IntWalk.i64_in _ (by omega)]; omega
      go_wp2_with fail
      go_roundw
      case rel => exact ⟨c + 1, _, by go_num, hb, HI.out.next HC.out, HM.out⟩
      case measure => simp [intOf]; omega

set_option maxRecDepth 100000 in
set_option maxHeartbeats 1600000 in
theorem often_up (W0 : World) (M K : Nat) (v va vb : Value) (l : List Chg) (a b : List Int) (w : World) (h : MV W0 M v va vb l a b w) (hK : K < l.length) :
    Calls Try.prog 85 #[.func (.func 86) #[.pointer (some ⟨M, 0, none⟩)] #[], .int .i64 K] w (Often (canU a b) (-1) W0 M v va vb l a b K) := by
  have HF := hide h.fit
  go_enter Try.func85, Try.ntmps85
  go_wp2_with fail
  go_loopw [5] (fun n wr => ∃ (c : Nat) (cur : List Chg), n = .int .i64 c ∧ c ≤ 4096 ∧ OfInv (canU a b) (-1) K l c cur ∧ MV W0 M v va vb cur a b wr)
    (fun n _ => 5000 - (intOf n).toNat)
  case atStart => exact ⟨0, l, rfl, by omega, OfInv.start _ _ _ _, h⟩
  case round =>
    obtain ⟨c, cur, rfl, hc, hinv, hmv⟩ := hrel
    have HI := hide hinv
    have hKc : K < cur.length := by rw [hinv.len]; exact hK
    have HS := hide (up86 W0 M K v va vb cur a b wr hmv hKc)
    clear hinv hmv h
    go_wp2_with fail
    refine HS.out.mono ?_
    rintro e w' (⟨hcan, rfl, hm⟩ | ⟨hcan, rfl, hm⟩)
    · have HM := hide hm
      have HC := hide hcan
      clear hm hcan HS
      go_wp2_with fail
      go_ret
      exact ⟨c, cur, rfl, HI.out.fin HC.out, HM.out⟩
    · have HM := hide hm
      have hb := (HI.out.next hcan).bound (by omega) hK HF.out hm.fit
      have HC := hide hcan
      clear hm hcan HS
      have e1 : IntKind.i64.wrap ((c : Int) + 1) = ((c + 1 : Nat) : Int) := by rw [IntWalk.i64_in _ (by omega)]; omega
      go_wp2_with fail
      go_roundw
      case rel => exact ⟨c + 1, _, by go_num, hb, HI.out.next HC.out, HM.out⟩
      case measure => simp [intOf]; omega
end Go.Proofs.Ytagembkjmnfidaa
