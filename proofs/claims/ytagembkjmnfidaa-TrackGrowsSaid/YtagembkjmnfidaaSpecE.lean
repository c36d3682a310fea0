import Derived.Test.YtagembkjmnfidaaSpec
namespace Go.Proofs.Ml
set_option linter.unusedVariables false

/-- Size: what counts. -/
def cnt (x : Int) : Int := if inL x then x else 0
theorem cnt_range (x : Int) : 0 ≤ cnt x ∧ cnt x ≤ 4096 := by
  unfold cnt
  split
  · rename_i h; rw [inL_iff] at h; exact h
  · omega
def szO (l : List Chg) : Int := (l.map fun c => cnt c.ol).sum
def szN (l : List Chg) : Int := (l.map fun c => cnt c.nl).sum
theorem szO_take (l : List Chg) (k : Nat) (hk : k < l.length) : szO (l.take (k + 1)) = szO (l.take k) + cnt l[k].ol := by
  unfold szO
  rw [List.take_succ_eq_append_getElem hk, List.map_append, List.sum_append, List.map_cons, List.map_nil, List.sum_cons, List.sum_nil]; omega
theorem szN_take (l : List Chg) (k : Nat) (hk : k < l.length) : szN (l.take (k + 1)) = szN (l.take k) + cnt l[k].nl := by
  unfold szN
  rw [List.take_succ_eq_append_getElem hk, List.map_append, List.sum_append, List.map_cons, List.map_nil, List.sum_cons, List.sum_nil]; omega
theorem szO_sum {l : List Chg} (h : ∀ c ∈ l, inL c.ol = true) : szO l = sumO l := by
  unfold szO sumO
  congr 1
  apply List.map_congr_left
  intro c hc
  simp [cnt, h c hc]
theorem szN_sum {l : List Chg} (h : ∀ c ∈ l, inL c.nl = true) : szN l = sumN l := by
  unfold szN sumN
  congr 1
  apply List.map_congr_left
  intro c hc
  simp [cnt, h c hc]
end Go.Proofs.Ml
