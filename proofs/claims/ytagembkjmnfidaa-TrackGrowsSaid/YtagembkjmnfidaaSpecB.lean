import Derived.Test.YtagembkjmnfidaaSpec
namespace Go.Proofs.Ml
set_option linter.unusedVariables false

/-- What Group hands back. -/
def grpErr (l : List Chg) (m n ctx : Int) : Int := if ctx < 0 ∨ 1048576 < ctx then 3 else if valid l m n then 0 else 80
def grp (l : List Chg) (m n ctx : Int) : List Hnk := if ctx < 0 ∨ 1048576 < ctx then [] else if valid l m n then hunks l m ctx else []
theorem grp_range {l : List Chg} {m n ctx : Int} (h : ctx < 0 ∨ 1048576 < ctx) : grpErr l m n ctx = 3 ∧ grp l m n ctx = [] := by simp [grpErr, grp, h]
theorem grp_script {l : List Chg} {m n ctx : Int} (h : 0 ≤ ctx ∧ ctx ≤ 1048576) (hv : valid l m n = false) : grpErr l m n ctx = 80 ∧ grp l m n ctx = [] := by
  have h' : ¬ (ctx < 0 ∨ 1048576 < ctx) := by omega
  simp [grpErr, grp, hv, h']
theorem grp_ok {l : List Chg} {m n ctx : Int} (h : 0 ≤ ctx ∧ ctx ≤ 1048576) (hv : valid l m n = true) : grpErr l m n ctx = 0 ∧ grp l m n ctx = hunks l m ctx := by
  have h' : ¬ (ctx < 0 ∨ 1048576 < ctx) := by omega
  simp [grpErr, grp, hv, h']

/-- How far Group has come at change number K: the hunk from change F on is open. -/
def GrInv (l : List Chg) (m ctx : Int) (K F : Nat) (L : List Hnk) : Prop :=
  F ≤ K ∧ (∀ (h : K < l.length) (h' : F < l.length), hunks l m ctx = L ++ hunksGo m ctx ((K : Int) + 1) F l[F] l[K] (l.drop (K + 1))) ∧ (K = l.length → hunks l m ctx = L)
theorem GrInv.start (l : List Chg) (m ctx : Int) : GrInv l m ctx 0 0 [] := by
  refine ⟨Nat.le_refl _, fun h h' => ?_, fun h => ?_⟩
  · cases l with
    | nil => simp at h
    | cons c l => simp [hunks, hunksFrom]
  · cases l with
    | nil => rfl
    | cons c l => simp at h
theorem GrInv.cut {l : List Chg} {m ctx : Int} {K F : Nat} {L : List Hnk} (h : GrInv l m ctx K F L) (hK : K < l.length) (hF : F < l.length) (hc : K + 1 = l.length ∨ ∃ h2 : K + 1 < l.length, 2 * ctx < l[K + 1].o - l[K].o - l[K].ol) :
    GrInv l m ctx (K + 1) (K + 1) (L ++ [close m ctx F ((K : Int) + 1) l[F] l[K]]) := by
  obtain ⟨h1, h2, h3⟩ := h
  have h2' := h2 hK hF
  refine ⟨Nat.le_refl _, fun ha hb => ?_, fun he => ?_⟩
  · rcases hc with hc | ⟨hk, hc⟩
    · omega
    · rw [h2', List.drop_eq_getElem_cons hk, hunksGo, if_pos hc, List.append_assoc]
      rfl
  · rw [h2', List.drop_eq_nil_of_le (by omega), hunksGo]
theorem GrInv.keep {l : List Chg} {m ctx : Int} {K F : Nat} {L : List Hnk} (h : GrInv l m ctx K F L) (hK : K + 1 < l.length) (hF : F < l.length) (hc : ¬ 2 * ctx < l[K + 1].o - l[K].o - l[K].ol) :
    GrInv l m ctx (K + 1) F L := by
  obtain ⟨h1, h2, h3⟩ := h
  have h2' := h2 (by omega) hF
  refine ⟨by omega, fun ha hb => ?_, fun he => by omega⟩
  rw [h2', List.drop_eq_getElem_cons hK, hunksGo, if_neg hc]
  rfl
theorem Val.bounds : ∀ {l : List Chg} {b : Bool} {i j m n : Int}, Val b i j l m n → ∀ c ∈ l, ((0 ≤ c.o ∧ c.o ≤ 4096) ∧ (0 ≤ c.ol ∧ c.ol ≤ 4096) ∧ (0 ≤ c.n ∧ c.n ≤ 4096) ∧ (0 ≤ c.nl ∧ c.nl ≤ 4096)) ∧ c.o + c.ol ≤ m ∧ c.n + c.nl ≤ n
  | [], _, _, _, _, _, _, c, hc => by cases hc
  | x :: l, _, _, _, _, _, h, c, hc => by
    rcases List.mem_cons.1 hc with rfl | hc'
    · have h1 := h.1
      rw [okC_iff] at h1
      have := h.2.le
      exact ⟨⟨h1.1, h1.2.1, h1.2.2.1, h1.2.2.2.1⟩, this.1, this.2⟩
    · exact h.2.bounds c hc'

end Go.Proofs.Ml
