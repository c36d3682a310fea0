import Derived.Test.YtagembkjmnfidaaBaseE
namespace Go.Proofs.Ytagembkjmnfidaa
theorem Two.drew {w : World} {B : Nat} {t : TypeId} {x y : Value} (h : Two w B t x y) : Two w.drew B t x y := h
end Go.Proofs.Ytagembkjmnfidaa
