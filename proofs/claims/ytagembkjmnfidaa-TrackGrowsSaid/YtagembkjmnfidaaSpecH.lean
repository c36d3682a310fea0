import Derived.Test.YtagembkjmnfidaaSpecB
namespace Go.Proofs.Ml
set_option linter.unusedVariables false

/-- FromPairs: the error and the script. -/
def fpErr (p : List Spn) (m n : Int) : Int := if inL m && inL n then (if Asc 0 0 p m n then 0 else 3) else 80
def fpRes (p : List Spn) (m n : Int) : List Chg := if inL m && inL n then (if Asc 0 0 p m n then made 0 0 p m n else []) else []
theorem fp_bad {p : List Spn} {m n : Int} (h : inL m = false ∨ inL n = false) : fpErr p m n = 80 ∧ fpRes p m n = [] := by
  unfold fpErr fpRes
  rcases h with h | h <;> simp [h]
theorem fp_range {p : List Spn} {m n : Int} (h1 : inL m = true) (h2 : inL n = true) (h : ¬ Asc 0 0 p m n) : fpErr p m n = 3 ∧ fpRes p m n = [] := by
  unfold fpErr fpRes
  simp [h1, h2, h]
theorem fp_ok {p : List Spn} {m n : Int} (h1 : inL m = true) (h2 : inL n = true) (h : Asc 0 0 p m n) : fpErr p m n = 0 ∧ fpRes p m n = made 0 0 p m n := by
  unfold fpErr fpRes
  simp [h1, h2, h]
/-- What FromPairs has seen behind K pairs; the last one: (F, T). -/
def FpInv (p : List Spn) (m n : Int) (K : Nat) (F T : Int) : Prop :=
  (Asc 0 0 p m n ↔ Asc (F + 1) (T + 1) (p.drop K) m n) ∧ F + 1 ≤ m ∧ T + 1 ≤ n ∧ -1 ≤ F ∧ -1 ≤ T ∧ (K = 0 → F = -1 ∧ T = -1) ∧ ∀ P, K = P + 1 → ∀ h : P < p.length, F = p[P].f ∧ T = p[P].t
theorem FpInv.start {p : List Spn} {m n : Int} (hm : 0 ≤ m) (hn : 0 ≤ n) : FpInv p m n 0 (-1) (-1) :=
  ⟨by simp, by omega, by omega, by omega, by omega, fun _ => ⟨rfl, rfl⟩, fun P e => by omega⟩
theorem FpInv.bad {p : List Spn} {m n : Int} {K : Nat} {F T : Int} (h : FpInv p m n K F T) (hK : K < p.length) (hb : p[K].f ≤ F ∨ m ≤ p[K].f ∨ p[K].t ≤ T ∨ n ≤ p[K].t) : ¬ Asc 0 0 p m n := by
  rw [h.1, List.drop_eq_getElem_cons hK]
  intro ha
  obtain ⟨a1, a2, a3⟩ := ha
  have := a3.le
  omega
theorem FpInv.step {p : List Spn} {m n : Int} {K : Nat} {F T : Int} (h : FpInv p m n K F T) (hK : K < p.length) (h1 : F < p[K].f) (h2 : p[K].f < m) (h3 : T < p[K].t) (h4 : p[K].t < n) : FpInv p m n (K + 1) p[K].f p[K].t := by
  obtain ⟨b1, b2, b3, b4, b5, b6, b7⟩ := h
  refine ⟨?_, by omega, by omega, by omega, by omega, fun e => by omega, fun P e hP => ?_⟩
  · rw [b1, List.drop_eq_getElem_cons hK]
    constructor
    · intro ha; exact ha.2.2
    · intro ha; exact ⟨by omega, by omega, ha⟩
  · obtain rfl : K = P := by omega
    exact ⟨rfl, rfl⟩
theorem FpInv.fin {p : List Spn} {m n : Int} {K : Nat} {F T : Int} (h : FpInv p m n K F T) (hK : K = p.length) : Asc 0 0 p m n := by
  rw [h.1, hK, List.drop_length]
  exact ⟨h.2.1, h.2.2.1⟩
end Go.Proofs.Ml
