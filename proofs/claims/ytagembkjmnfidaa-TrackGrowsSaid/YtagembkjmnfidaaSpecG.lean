import Derived.Test.YtagembkjmnfidaaSpec
namespace Go.Proofs.Ml
set_option linter.unusedVariables false

theorem rp_step {I J O : Int} (h : I < O) : runP I J (O - I).toNat = ⟨I, J⟩ :: runP (I + 1) (J + 1) (O - (I + 1)).toNat := by
  rw [show (O - I).toNat = (O - (I + 1)).toNat + 1 by omega, runP]
theorem rp_done {I J O : Int} (h : O ≤ I) : runP I J (O - I).toNat = [] := by
  rw [show (O - I).toNat = 0 by omega, runP]

/-- Behind K changes, at lines I and J, with the partners L so far. -/
def MtInv (l : List Chg) (m n : Int) (K : Nat) (I J : Int) (L : List Spn) : Prop := Val (decide (K = 0)) I J (l.drop K) m n ∧ mat 0 0 l m = L ++ mat I J (l.drop K) m
/-- In the run up to line O. -/
def MtRun (T R : List Spn) (O I J : Int) (L : List Spn) : Prop := T = L ++ (runP I J (O - I).toNat ++ R)
theorem MtInv.start {l : List Chg} {m n : Int} (h : valid l m n = true) : MtInv l m n 0 0 0 [] := ⟨by simpa using valid_val h, by simp⟩
theorem MtInv.run {l : List Chg} {m n : Int} {K : Nat} {I J : Int} {L : List Spn} (h : MtInv l m n K I J L) (hK : K < l.length) :
    I ≤ l[K].o ∧ l[K].o - I = l[K].n - J ∧ l[K].o + l[K].ol ≤ m ∧ l[K].n + l[K].nl ≤ n ∧ MtRun (mat 0 0 l m) (mat (l[K].o + l[K].ol) (l[K].n + l[K].nl) (l.drop (K + 1)) m) l[K].o I J L ∧
      ∀ L', mat 0 0 l m = L' ++ mat (l[K].o + l[K].ol) (l[K].n + l[K].nl) (l.drop (K + 1)) m → MtInv l m n (K + 1) (l[K].o + l[K].ol) (l[K].n + l[K].nl) L' := by
  obtain ⟨h1, h2⟩ := h
  rw [List.drop_eq_getElem_cons hK] at h1 h2
  have h3 := h1.1
  rw [okC_iff] at h3
  have h4 := h1.2.le
  refine ⟨by omega, by omega, h4.1, h4.2, h2, fun L' e => ⟨?_, e⟩⟩
  have := h1.2
  simpa using this
theorem MtInv.last {l : List Chg} {m n : Int} {K : Nat} {I J : Int} {L : List Spn} (h : MtInv l m n K I J L) (hK : K = l.length) : MtRun (mat 0 0 l m) [] m I J L ∧ I ≤ m ∧ m - I = n - J := by
  obtain ⟨h1, h2⟩ := h
  rw [List.drop_eq_nil_of_le (by omega)] at h1 h2
  exact ⟨by unfold MtRun; simpa [mat] using h2, h1.2, h1.1⟩
theorem MtRun.step {T R : List Spn} {O I J : Int} {L : List Spn} (h : MtRun T R O I J L) (hI : I < O) : MtRun T R O (I + 1) (J + 1) (L ++ [⟨I, J⟩]) := by
  unfold MtRun at *
  rw [h, rp_step hI]
  simp
theorem MtRun.done {T R : List Spn} {O I J : Int} {L : List Spn} (h : MtRun T R O I J L) (hI : O ≤ I) : T = L ++ R := by
  unfold MtRun at h
  rw [h, rp_done hI]
  simp
theorem mat_len {l : List Chg} {m n : Int} (h : valid l m n = true) : (mat 0 0 l m).length ≤ 4096 := by
  have h1 := (mat_asc h).length
  have h2 := (valid_iff.1 h).1
  omega
end Go.Proofs.Ml
