import Derived.Test.YtagembkjmnfidaaBaseH
namespace Go.Proofs.Ytagembkjmnfidaa
open Go.RowKit
open Go.Proofs.Ml
set_option linter.unusedVariables false
theorem Rd.nil (w : World) (size : Nat) : Rd w (.slice none 0 0) size 0 [] := ⟨none, 0, rfl, Nat.le_refl _, by simp, by simp, fun h => by simp at h⟩
theorem Rd.nil_ch (w : World) : Rd w (.slice none 0 0) 4 ([] : List Chg).length (chVals []) := Rd.nil w 4
end Go.Proofs.Ytagembkjmnfidaa
