import Derived.Test.YtagembkjmnfidaaSpecU
namespace Go.Proofs.Ml
set_option linter.unusedVariables false

/-- The loop of moves of one change: c moves are done, cur is the list now. -/
structure OfInv (can : List Chg → Nat → Prop) (d : Int) (K : Nat) (l : List Chg) (c : Nat) (cur : List Chg) : Prop where
  mv : ∀ n r, Mv can d K n cur r → Mv can d K (n + c) l r
  at_ : ∀ C0, l[K]? = some C0 → ∃ C, cur[K]? = some C ∧ C.o = C0.o + c * d
  len : cur.length = l.length
theorem OfInv.start (can : List Chg → Nat → Prop) (d : Int) (K : Nat) (l : List Chg) : OfInv can d K l 0 l :=
  ⟨fun n r h => h, fun C0 h => ⟨C0, h, by simp⟩, rfl⟩
theorem OfInv.next {can : List Chg → Nat → Prop} {d : Int} {K : Nat} {l cur : List Chg} {c : Nat} (h : OfInv can d K l c cur) (hc : can cur K) : OfInv can d K l (c + 1) (Ml.mv d cur K) := by
  refine ⟨fun n r hr => ?_, fun C0 h0 => ?_, by rw [mv_length]; exact h.len⟩
  · have := h.mv (n + 1) r (.step n cur r hc hr)
    rwa [show n + (c + 1) = n + 1 + c by omega]
  · obtain ⟨C, h1, h2⟩ := h.at_ C0 h0
    refine ⟨C.up d, by rw [mv_eq, h1]; rfl, ?_⟩
    show C.o + d = _
    rw [h2, show ((c + 1 : Nat) : Int) = (c : Int) + 1 by omega, Int.add_mul]
    omega
theorem OfInv.fin {can : List Chg → Nat → Prop} {d : Int} {K : Nat} {l cur : List Chg} {c : Nat} (h : OfInv can d K l c cur) (hc : ¬ can cur K) : Mv can d K c l cur := by
  have := h.mv 0 cur (.stop cur hc)
  rwa [Nat.zero_add] at this
theorem OfInv.bound {can : List Chg → Nat → Prop} {d : Int} {K : Nat} {l cur : List Chg} {a b : List Int} {c : Nat} (h : OfInv can d K l c cur) (hd : d = 1 ∨ d = -1) (hK : K < l.length) (hl : fits l a b = true) (hf : fits cur a b = true) : c ≤ 4096 := by
  obtain ⟨C, h1, h2⟩ := h.at_ l[K] (List.getElem?_eq_getElem hK)
  have b1 := (valid_iff.1 (fits_iff.1 hl).1).2.2.bounds l[K] (List.getElem_mem _)
  have b2 := (valid_iff.1 (fits_iff.1 hf).1).2.2.bounds C (List.mem_of_getElem? h1)
  rcases hd with rfl | rfl <;> omega
end Go.Proofs.Ml
