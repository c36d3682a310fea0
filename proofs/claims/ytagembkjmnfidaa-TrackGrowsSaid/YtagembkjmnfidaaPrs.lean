import Derived.Test.YtagembkjmnfidaaMatB
import Derived.Test.YtagembkjmnfidaaChkB
import Derived.Test.YtagembkjmnfidaaSpecK
namespace Go.Proofs.Ytagembkjmnfidaa
open Go.RowKit
open Go.Proofs.Ml
set_option linter.unusedVariables false

set_option maxRecDepth 100000 in
set_option maxHeartbeats 800000 in
theorem prs39 (v : Value) (l : List Chg) (m n : Int) (w : World) (hr : Rd w v 4 l.length (chVals l)) (hl : l.length ≤ 900000) :
    Calls Try.prog 39 #[v, .int .i64 m, .int .i64 n] w (RetRowErr w 35 2 (prRes l m n).length (spVals (prRes l m n)) (errOf (valid l m n))) := by
  have HR := hide hr
  clear hr
  cases hv : valid l m n with
  | false =>
    have HE := hide (prRes_bad hv)
    have HV := hide hv
    clear hv
    go_enter Try.func39, Try.ntmps39
    go_wp2_with fail
    refine (check37 _ l m n _ HR.out (by omega)).mono ?_
    rintro e w1 ⟨rfl, hb1⟩
    rw [HV.out]
    simp only [errOf, Bool.false_eq_true, if_false]
    go_wp2_with fail
    go_ret2
    exact ret_row_err (n' := 0) (cs' := []) (World.ownsRow_nil _ _ _ _) hb1 (by rw [HE.out]; rfl) (by rw [HE.out]; rfl) rfl
  | true =>
    have HE := hide (prRes_ok hv)
    have HV := hide hv
    clear hv
    go_enter Try.func39, Try.ntmps39
    go_wp2_with fail
    refine (check37 _ l m n _ HR.out (by omega)).mono ?_
    rintro e w1 ⟨rfl, hb1⟩
    rw [HV.out]
    simp only [errOf, if_true]
    go_wp2_with fail
    refine (pairs78 _ l m n _ (HR.out.below hb1 (Nat.le_refl _)) HV.out hl).mono ?_
    rintro e w2 ⟨v2, rfl, hown, hb2⟩
    have hs := hb1.size
    go_wp2_with fail
    go_ret2
    exact ret_row_err (own_base hown hs) (hb1.trans (hb2.mono hs)) (by rw [HE.out]) (by rw [HE.out]) rfl

set_option maxRecDepth 100000 in
set_option maxHeartbeats 800000 in
theorem prs40 (v : Value) (l : List Chg) (m n : Int) (w : World) (hr : Rd w v 4 l.length (chVals l)) (hl : l.length ≤ 900000) :
    Calls Try.prog 40 #[v, .int .i64 m, .int .i64 n] w (RetRowErr w 35 2 (prRes l m n).length (spVals (prRes l m n)) (errOf (valid l m n))) := by
  have HR := hide hr
  clear hr
  cases hv : valid l m n with
  | false =>
    have HE := hide (prRes_bad hv)
    have HV := hide hv
    clear hv
    go_enter Try.func40, Try.ntmps40
    go_wp2_with fail
    refine (check38 _ l m n _ HR.out (by omega)).mono ?_
    rintro e w1 ⟨rfl, hb1⟩
    rw [HV.out]
    simp only [errOf, Bool.false_eq_true, if_false]
    go_wp2_with fail
    go_ret2
    exact ret_row_err (n' := 0) (cs' := []) (World.ownsRow_nil _ _ _ _) hb1 (by rw [HE.out]; rfl) (by rw [HE.out]; rfl) rfl
  | true =>
    have HE := hide (prRes_ok hv)
    have HV := hide hv
    clear hv
    go_enter Try.func40, Try.ntmps40
    go_wp2_with fail
    refine (check38 _ l m n _ HR.out (by omega)).mono ?_
    rintro e w1 ⟨rfl, hb1⟩
    rw [HV.out]
    simp only [errOf, if_true]
    go_wp2_with fail
    refine (matched46 _ l m n _ (HR.out.below hb1 (Nat.le_refl _)) HV.out hl).mono ?_
    rintro e w2 ⟨v2, rfl, hown, hb2⟩
    have hs := hb1.size
    go_wp2_with fail
    go_ret2
    exact ret_row_err (own_base hown hs) (hb1.trans (hb2.mono hs)) (by rw [HE.out]) (by rw [HE.out]) rfl
end Go.Proofs.Ytagembkjmnfidaa
