import Derived.Test.YtagembkjmnfidaaBase
namespace Go.Proofs.Ytagembkjmnfidaa
open Go.RowKit
open Go.Proofs.Ml
set_option linter.unusedVariables false

theorem own_below {w w' : World} {B N : Nat} {e : TypeId} {size n : Nat} {v : Value} {cs : List Value} (h : w.ownsRow B e size v n cs) (hb : Below N w w') (hN : w.heap.size ≤ N) : w'.ownsRow B e size v n cs := by
  refine ⟨h.1, ?_⟩
  rcases h.2 with h2 | ⟨g, cap, cur, hv, hg, hgg, r⟩
  · exact .inl h2
  · have hlt := (Array.getElem?_eq_some_iff.1 hgg).1
    exact .inr ⟨g, cap, cur, hv, hg, by rw [hb.block g (by omega)]; exact hgg, r⟩
theorem own_drew {w : World} {B : Nat} {e : TypeId} {size n : Nat} {v : Value} {cs : List Value} (h : w.ownsRow B e size v n cs) : w.drew.ownsRow B e size v n cs := h
theorem hkAgg_len : True := trivial
end Go.Proofs.Ytagembkjmnfidaa
