import Derived.Test.YtagembkjmnfidaaBase
namespace Go.Proofs.Ytagembkjmnfidaa
open Go.RowKit
open Go.Proofs.Ml
set_option linter.unusedVariables false

theorem inL_tt {n : Int} (h0 : 0 ≤ n) (h1 : n ≤ 4096) : inL n = true := inL_iff.2 ⟨h0, h1⟩
set_option maxHeartbeats 400000 in
theorem length77 (n : Int) (w : World) : Calls Try.prog 77 #[.int .i64 n] w fun e w' => e = .returned (.bool (inL n)) ∧ w = w' := by
  go_enter Try.func77, Try.ntmps77
  go_wp2
  all_goals go_ret
  · have : 0 ≤ n := by assumption
    exact ⟨ret_bool (by simp [inL, this]), rfl⟩
  · have : n < 0 := by assumption
    exact ⟨ret_bool (by simp [inL]; omega), rfl⟩
set_option maxHeartbeats 400000 in
theorem in75 (n : Int) (w : World) : Calls Try.prog 75 #[.int .i64 n] w fun e w' => e = .returned (.bool (inL n)) ∧ w = w' := by
  go_enter Try.func75, Try.ntmps75
  go_wp2
  all_goals go_ret
  · have : 0 ≤ n := by assumption
    exact ⟨ret_bool (by simp [inL, this]), rfl⟩
  · have : n < 0 := by assumption
    exact ⟨ret_bool (by simp [inL]; omega), rfl⟩

/-- OK or ErrScript. -/
def errOf (b : Bool) : Int := if b then 0 else 80
/-- How far Check has come behind k changes. -/
def CkInv (l : List Chg) (k : Nat) (i j : Int) : Prop := chkGo true 0 0 l = chkGo (decide (k = 0)) i j (l.drop k)
theorem CkInv.start (l : List Chg) : CkInv l 0 0 0 := rfl
theorem CkInv.step {l : List Chg} {k : Nat} {i j : Int} (h : CkInv l k i j) (hk : k < l.length) (ok : okC (decide (k = 0)) i j l[k] = true) : CkInv l (k + 1) (l[k].o + l[k].ol) (l[k].n + l[k].nl) := by
  unfold CkInv at *
  rw [h, List.drop_eq_getElem_cons hk, chkGo, if_pos ok]
  rfl
theorem CkInv.bad {l : List Chg} {k : Nat} {i j : Int} (h : CkInv l k i j) (hk : k < l.length) (ok : okC (decide (k = 0)) i j l[k] = false) (m n : Int) : errOf (valid l m n) = 80 := by
  unfold CkInv at *
  rw [valid, h, List.drop_eq_getElem_cons hk, chkGo, if_neg (by rw [ok]; simp)]
  simp [finO, errOf]
theorem CkInv.fin {l : List Chg} {k : Nat} {i j : Int} (h : CkInv l k i j) (hk : k = l.length) (m n : Int) (hm : inL m = true) (hn : inL n = true) : errOf (valid l m n) = errOf (Ml.fin i j m n) := by
  unfold CkInv at *
  rw [valid, h, hk, List.drop_length, chkGo, hm, hn]
  simp [finO]
theorem errOf_bad {l : List Chg} {m n : Int} (h : inL m = false ∨ inL n = false) : errOf (valid l m n) = 80 := by
  rcases h with h | h <;> simp [valid, h, errOf]
theorem fin_false1 {I J m n : Int} (h : m - I ≠ n - J) : Ml.fin I J m n = false := by rw [← Bool.not_eq_true]; simp only [Ml.fin, Bool.and_eq_true, beq_iff_eq, decide_eq_true_eq]; omega
theorem fin_false2 {I J m n : Int} (h : m < I) : Ml.fin I J m n = false := by rw [← Bool.not_eq_true]; simp only [Ml.fin, Bool.and_eq_true, beq_iff_eq, decide_eq_true_eq]; omega
theorem fin_true {I J m n : Int} (h : m - I = n - J) (h' : I ≤ m) : Ml.fin I J m n = true := by simp only [Ml.fin, Bool.and_eq_true, beq_iff_eq, decide_eq_true_eq]; omega
theorem okC_bad {b : Bool} {i j O OL N NL : Int} (h : inL O = false ∨ inL OL = false ∨ inL N = false ∨ inL NL = false ∨ OL + NL = 0 ∨ O - i ≠ N - j ∨ O < i ∨ (b = false ∧ O = i)) : okC b i j ⟨O, OL, N, NL⟩ = false := by
  rw [← Bool.not_eq_true, okC_iff]
  intro hh
  simp only at hh
  rcases h with h | h | h | h | h | h | h | ⟨h, h'⟩
  · rw [← Bool.not_eq_true, inL_iff] at h; omega
  · rw [← Bool.not_eq_true, inL_iff] at h; omega
  · rw [← Bool.not_eq_true, inL_iff] at h; omega
  · rw [← Bool.not_eq_true, inL_iff] at h; omega
  · omega
  · omega
  · omega
  · have := hh.2.2.2.2.2.2.2 h; omega
theorem okC_good {b : Bool} {i j O OL N NL : Int} (h1 : 0 ≤ O ∧ O ≤ 4096) (h2 : 0 ≤ OL ∧ OL ≤ 4096) (h3 : 0 ≤ N ∧ N ≤ 4096) (h4 : 0 ≤ NL ∧ NL ≤ 4096) (h5 : OL + NL ≠ 0) (h6 : O - i = N - j) (h7 : i ≤ O) (h8 : b = false → i < O) : okC b i j ⟨O, OL, N, NL⟩ = true := by
  rw [okC_iff]; exact ⟨h1, h2, h3, h4, h5, h6, h7, h8⟩
end Go.Proofs.Ytagembkjmnfidaa
