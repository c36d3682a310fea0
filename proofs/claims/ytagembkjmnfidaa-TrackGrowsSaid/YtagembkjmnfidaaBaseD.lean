import Derived.Test.YtagembkjmnfidaaBaseC
namespace Go.Proofs.Ytagembkjmnfidaa
open Go.RowKit
open Go.Proofs.Ml
set_option linter.unusedVariables false

theorem flatMap_drop {α : Type} (f : α → List Value) (s : Nat) (hs : ∀ a, (f a).length = s) : ∀ (l : List α) (F : Nat), (l.drop F).flatMap f = (l.flatMap f).drop (F * s)
  | l, 0 => by simp
  | [], F + 1 => by simp
  | a :: l, F + 1 => by
    rw [List.drop_succ_cons, List.flatMap_cons, flatMap_drop f s hs l F, show (F + 1) * s = (f a).length + F * s by rw [hs, Nat.add_mul]; omega, ← List.drop_drop, List.drop_left]
/-- A part of a slice of changes, as Go cuts it. -/
theorem Rd.cut_ch {w : World} {b off cap : Nat} {l : List Chg} {F L : Nat} (hc : ∀ j u, (chVals l)[j]? = some u → w.cell? ⟨b, off + j, none⟩ = some u) (hb : b < w.heap.size) (hF : F ≤ L) (hL : L ≤ l.length) (hn : l.length ≤ cap) (hcap : cap ≤ maxLen) :
    Rd w (.slice (some ⟨b, off + F * 4, none⟩) (L - F) (cap - F)) 4 ((l.drop F).take (L - F)).length (chVals ((l.drop F).take (L - F))) := by
  have hlen : ((l.drop F).take (L - F)).length = L - F := by simp; omega
  refine ⟨_, cap - F, by rw [hlen], by omega, by omega, chVals_len _, fun _ => ⟨b, off + F * 4, rfl, hb, fun j u hj => ?_⟩⟩
  have hjl : j < ((l.drop F).take (L - F)).length * 4 := by
    rw [← chVals_len]; exact (List.getElem?_eq_some_iff.1 hj).1
  have e1 : chVals (l.drop F) = chVals ((l.drop F).take (L - F)) ++ chVals ((l.drop F).drop (L - F)) := by rw [← chVals_app, List.take_append_drop]
  have e2 : (chVals (l.drop F))[j]? = some u := by rw [e1, List.getElem?_append_left (by rw [chVals_len]; exact hjl)]; exact hj
  have e3 : chVals (l.drop F) = (chVals l).drop (F * 4) := flatMap_drop chCells 4 (fun _ => rfl) l F
  rw [e3, List.getElem?_drop] at e2
  have := hc (F * 4 + j) u e2
  rwa [← Nat.add_assoc] at this
/-- A contract that leaves the world alone, at a call of a quiet region that begins behind draws. -/
theorem quiet_behind {P : Program} {f : FuncId} {args : Array Value} {w : World} {a n : Nat} {v : Value} (h : Calls P f args (w.drewN (a + n)) fun e w' => e = .returned v ∧ w' = w.drewN (a + n)) :
    Calls P f args (w.drewN (a + n)) fun e w' => e = .returned v ∧ ∃ m, w' = w.drewN (a + m) := h.mono fun _ _ hh => ⟨hh.1, n, hh.2⟩
end Go.Proofs.Ytagembkjmnfidaa
