import Derived.Test.YtagembkjmnfidaaBaseD
namespace Go.Proofs.Ytagembkjmnfidaa
open Go.RowKit
open Go.Proofs.Ml
set_option linter.unusedVariables false

theorem flatMap_set {α : Type} (f : α → List Value) (s : Nat) (hs : ∀ a, (f a).length = s) : ∀ (l : List α) (k j : Nat) (u : Value) (a : α) (hk : k < l.length), j < s → (f l[k]).set j u = f a → (l.flatMap f).set (k * s + j) u = (l.set k a).flatMap f
  | x :: l, 0, j, u, a, _, hj, h => by
    simp only [List.flatMap_cons, List.set_cons_zero]
    rw [List.set_append_left _ _ (by rw [hs]; omega)]
    simpa using h
  | x :: l, k + 1, j, u, a, hk, hj, h => by
    simp only [List.flatMap_cons, List.set_cons_succ]
    rw [List.set_append_right _ _ (by rw [hs, Nat.add_mul]; omega), hs, show (k + 1) * s + j - s = k * s + j by rw [Nat.add_mul]; omega]
    rw [flatMap_set f s hs l k j u a (by simpa using hk) hj (by simpa using h)]
/-- A field of one change of a list of the call's own is stored anew. -/
theorem own_ch_set {w : World} {B g cap : Nat} {l : List Chg} (h : w.ownsRow B 45 4 (.slice (some ⟨g, 0, none⟩) l.length cap) l.length (chVals l)) (k j : Nat) (u : Value) (c : Chg) (hk : k < l.length) (hj : j < 4) (hc : (chCells l[k]).set j u = chCells c) :
    (w.setCell ⟨g, k * 4 + j, none⟩ u).ownsRow B 45 4 (.slice (some ⟨g, 0, none⟩) (l.set k c).length cap) (l.set k c).length (chVals (l.set k c)) := by
  have h1 := (h.stored (k * 4 + j) u).1
  rw [show (chVals l).set (k * 4 + j) u = chVals (l.set k c) from flatMap_set chCells 4 (fun _ => rfl) l k j u c hk hj hc] at h1
  rw [List.length_set]
  exact h1
/-- The value of a list of the call's own. -/
theorem own_open {w : World} {B : Nat} {e : TypeId} {size n : Nat} {v : Value} {cs : List Value} (h : w.ownsRow B e size v n cs) : ∃ A cap, v = .slice A n cap ∧ (0 < n → ∃ g, A = some ⟨g, 0, none⟩ ∧ B ≤ g ∧ g < w.heap.size) := by
  rcases h.2 with ⟨rfl, rfl⟩ | ⟨g, cap, cur, rfl, hb, hg, hn, hcap, _, _⟩
  · exact ⟨none, 0, rfl, fun h => absurd h (by omega)⟩
  · exact ⟨_, cap, rfl, fun _ => ⟨g, rfl, hb, (Array.getElem?_eq_some_iff.1 hg).1⟩⟩
end Go.Proofs.Ytagembkjmnfidaa
