import Derived.Test.YtagembkjmnfidaaSpecK
namespace Go.Proofs.Ml
set_option linter.unusedVariables false

theorem FkInv.next {p : List Spn} {a b : List Int} {K : Nat} (h : FkInv p a b K) (hK : K < p.length) (he : a[p[K].f.toNat]? = b[p[K].t.toNat]?) : FkInv p a b (K + 1) := by
  intro i hi hlt
  rcases Nat.eq_or_lt_of_le (show i ≤ K by omega) with rfl | hlt
  · exact he
  · exact h i hi hlt
end Go.Proofs.Ml
