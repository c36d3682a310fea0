import Derived.Test.YtagembkjmnfidaaSpecK
import Derived.Test.YtagembkjmnfidaaBaseE
namespace Go.Proofs.Ytagembkjmnfidaa
open Go.RowKit
open Go.Proofs.Ml
set_option linter.unusedVariables false

def chAgg (c : Chg) : Value := .agg #[.int .i64 c.o, .int .i64 c.ol, .int .i64 c.n, .int .i64 c.nl]
/-- What side answers: which text, the first line, the length. -/
def sideVal (va vb : Value) (c : Chg) : Value :=
  if c.nl = 0 then .tuple #[va, .int .i64 c.o, .int .i64 c.ol, .bool true]
  else if c.ol = 0 then .tuple #[vb, .int .i64 c.n, .int .i64 c.nl, .bool true]
  else .tuple #[.slice none 0 0, .int .i64 0, .int .i64 0, .bool false]

set_option maxRecDepth 100000 in
set_option maxHeartbeats 1600000 in
theorem side97 (va vb : Value) (c : Chg) (w : World) (a b : List Int) (ha : Rd w va 1 a.length (inVals a)) (hb : Rd w vb 1 b.length (inVals b)) :
    Calls Try.prog 97 #[chAgg c, va, vb] w fun e w' => e = .returned (sideVal va vb c) ∧ Below w.heap.size w w' := by
  obtain ⟨Aa, ca, rfl, _, _, _, _⟩ := ha
  obtain ⟨Ab, cb, rfl, _, _, _, _⟩ := hb
  obtain ⟨o, ol, n, nl⟩ := c
  unfold chAgg sideVal
  simp only
  by_cases h1 : nl = 0
  · subst h1
    rw [if_pos rfl]
    go_enter Try.func97, Try.ntmps97
    go_wp2_with fail
    go_quiet (fail)
    go_wp2_with fail
    go_returns
    exact ⟨rfl, below_drewN (by go_grown) _⟩
  · rw [if_neg h1]
    have d1 : ((nl == 0) : Bool) = false := by simpa using h1
    clear h1
    by_cases h2 : ol = 0
    · subst h2
      rw [if_pos rfl]
      go_enter Try.func97, Try.ntmps97
      go_wp2_with fail
      go_quiet (fail)
      go_wp2_with fail
      go_returns
      exact ⟨rfl, below_drewN (by go_grown) _⟩
    · rw [if_neg h2]
      have d2 : ((ol == 0) : Bool) = false := by simpa using h2
      clear h2
      go_enter Try.func97, Try.ntmps97
      go_wp2_with fail
      go_returns
      exact ⟨rfl, by go_grown⟩

/-- Which value of the walk stands for the text that `side` names. -/
theorem side_val {va vb : Value} {a b : List Int} {c : Chg} {t : List Int} {f n : Int} (h : side a b c = some (t, f, n)) :
    (sideVal va vb c = .tuple #[va, .int .i64 f, .int .i64 n, .bool true] ∧ t = a) ∨ (sideVal va vb c = .tuple #[vb, .int .i64 f, .int .i64 n, .bool true] ∧ t = b) := by
  unfold side at h
  unfold sideVal
  by_cases h1 : c.nl = 0
  · rw [if_pos h1] at h ⊢; cases h; exact .inl ⟨rfl, rfl⟩
  · rw [if_neg h1] at h ⊢
    by_cases h2 : c.ol = 0
    · rw [if_pos h2] at h ⊢; cases h; exact .inr ⟨rfl, rfl⟩
    · rw [if_neg h2] at h; cases h
theorem side_val_no {va vb : Value} {a b : List Int} {c : Chg} (h : side a b c = none) : sideVal va vb c = .tuple #[.slice none 0 0, .int .i64 0, .int .i64 0, .bool false] := by
  unfold side at h
  unfold sideVal
  by_cases h1 : c.nl = 0
  · rw [if_pos h1] at h; cases h
  · rw [if_neg h1] at h ⊢
    by_cases h2 : c.ol = 0
    · rw [if_pos h2] at h; cases h
    · rw [if_neg h2]
/-- The text that `side` names is a slice that reads as it. -/
theorem side_rd {va vb : Value} {a b : List Int} {c : Chg} {w : World} {t : List Int} {f n : Int} (ha : Rd w va 1 a.length (inVals a)) (hb : Rd w vb 1 b.length (inVals b)) (h : side a b c = some (t, f, n)) :
    ∃ vt, sideVal va vb c = .tuple #[vt, .int .i64 f, .int .i64 n, .bool true] ∧ Rd w vt 1 t.length (inVals t) := by
  rcases side_val (va := va) (vb := vb) h with ⟨h1, rfl⟩ | ⟨h1, rfl⟩
  · exact ⟨va, h1, ha⟩
  · exact ⟨vb, h1, hb⟩
end Go.Proofs.Ytagembkjmnfidaa
