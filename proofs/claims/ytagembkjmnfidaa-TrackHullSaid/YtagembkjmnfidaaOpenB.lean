import Derived.Test.YtagembkjmnfidaaOpen
import Derived.Test.YtagembkjmnfidaaTrkA
namespace Go.Proofs.Ytagembkjmnfidaa
open Go.ChangeShapes Go.WideShapes Go.ChangeAt Go.RowKit
open Go.Deep
open Go.Proofs.Ml
set_option linter.unusedVariables false
section
variable {H : Type} {enc : TypeId × Value → H} {W : World} {base : Nat} {spare : Nat → Bool} {held : Bool}
set_option maxRecDepth 100000 in
/-- A span that came in by value. -/
theorem open_span {r : Reach} {b0 : Nat} {v : Value} {d : DataW H} {p : List MemPlace} (hv : Value.okWide Try.prog W r b0 35 v) (hj : DataW.Trod enc Try.prog W base spare held 35 v d p) : ∃ s : Spn, v = spAgg s := by
  obtain ⟨cs, rfl, hsz⟩ := okWide_struct Try.underlying35 hv
  obtain ⟨fuel, hf⟩ := hj
  obtain ⟨c, hc⟩ := trod_spn hf
  have h2 : cs.toList = [.int .i64 c.f, .int .i64 c.t] := hc
  refine ⟨c, ?_⟩
  unfold spAgg
  congr 1
  exact Array.ext' h2
end
end Go.Proofs.Ytagembkjmnfidaa
