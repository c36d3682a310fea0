import Derived.Test.YtagembkjmnfidaaSpec
namespace Go.Proofs.Ml
set_option linter.unusedVariables false

def covS (h : List Hnk) (m : Int) : List Bool := if m < 0 ∨ 4096 < m then [] else cov h m.toNat
theorem covS_bad {h : List Hnk} {m : Int} (hm : m < 0 ∨ 4096 < m) : covS h m = [] := by rw [covS, if_pos hm]
theorem covS_ok {h : List Hnk} {m : Int} (h0 : 0 ≤ m) (h1 : m ≤ 4096) : covS h m = cov h m.toNat := by rw [covS, if_neg (by omega)]
/-- What is covered by the first k hunks. -/
def cvd (h : List Hnk) (k : Nat) (t : Nat) : Bool := (h.take k).any (covers (t : Int))
theorem cvd_zero (h : List Hnk) (t : Nat) : cvd h 0 t = false := by simp [cvd]
theorem cvd_succ (h : List Hnk) (k t : Nat) (hk : k < h.length) : cvd h (k + 1) t = (cvd h k t || covers (t : Int) h[k]) := by
  unfold cvd
  rw [List.take_succ_eq_append_getElem hk, List.any_append]
  simp
theorem cov_of_cvd {h : List Hnk} {M : Nat} {f : Nat → Bool} (hf : ∀ t, t < M → f t = cvd h h.length t) : (List.range M).map f = cov h M := by
  unfold cov
  apply List.map_congr_left
  intro t ht
  rw [hf t (List.mem_range.1 ht), cvd, List.take_length]
theorem range_set (M : Nat) (f : Nat → Bool) (I : Nat) (b : Bool) : ((List.range M).map f).set I b = (List.range M).map fun t => if t = I then b else f t := by
  apply List.ext_getElem?
  intro t
  rw [List.getElem?_set]
  by_cases h : I = t
  · subst h
    by_cases h2 : I < M <;> simp [h2]
  · have : t ≠ I := fun e => h e.symm
    by_cases h2 : t < M <;> simp [h2, h, this]
end Go.Proofs.Ml
