import Derived.Test.YtagembkjmnfidaaSpecJ
namespace Go.Proofs.Ml
set_option linter.unusedVariables false

/-- A span of new lines: no error, and what Back gives. -/
theorem bk_is {l : List Chg} {m n : Int} {s : Spn} (hv : valid l m n = true) (h0 : 0 ≤ s.f) (h1 : s.f < s.t) (h2 : s.t ≤ n) : tkErr l m n s = 0 ∧ BackIs (mat 0 0 l m) s.f s.t (bkRes l m n s).1 (bkRes l m n s).2 := by
  obtain ⟨e1, e2⟩ := tk_ok hv (s := s) (by omega)
  refine ⟨e1, ?_⟩
  have h := back_is (mat_asc hv) (Int.le_refl _) s.f (tkLen s)
  rw [show s.f + (tkLen s : Int) = s.t by unfold tkLen; omega, ← e2] at h
  exact h
theorem BackIs.range {p : List Spn} {m n f t : Int} {o : Spn} {b : Bool} (h : BackIs p f t o b) (ha : Asc 0 0 p m n) (hm : 0 ≤ m) : 0 ≤ o.f ∧ o.f ≤ m ∧ 0 ≤ o.t ∧ o.t ≤ m := by
  cases b with
  | false =>
    obtain ⟨rfl, _⟩ := h.none rfl
    simp only; omega
  | true =>
    obtain ⟨s, hs, h1, h2, h3⟩ := h.first rfl
    obtain ⟨u, hu, g1, g2, g3⟩ := h.last rfl
    have := ha.mem s hs
    have := ha.mem u hu
    omega
theorem BackIs.lt {p : List Spn} {f t : Int} {o : Spn} (h : BackIs p f t o true) : o.f < o.t := by
  obtain ⟨s, hs, h1, h2, h3⟩ := h.first rfl
  have := h.all s hs h1 h2
  omega
/-- Touches, for a span of new lines. -/
theorem tc_is {l : List Chg} {m n : Int} {s : Spn} (hv : valid l m n = true) (h0 : 0 ≤ s.f) (h1 : s.f < s.t) (h2 : s.t ≤ n) : ∃ k : Nat, s.t = s.f + ((k + 1 : Nat) : Int) ∧ tcRes l m n s = tch (parts (mat 0 0 l m) s.f (k + 1)) := by
  obtain ⟨e1, e2⟩ := tk_ok hv (s := s) (by omega)
  obtain ⟨k, hk⟩ : ∃ k, tkLen s = k + 1 := ⟨tkLen s - 1, by unfold tkLen; omega⟩
  refine ⟨k, by unfold tkLen at hk; omega, ?_⟩
  unfold tcRes
  rw [e2, hk]

theorem any_step (p : List Spn) (q : Spn → Bool) {K : Nat} (hK : K < p.length) : (p.take (K + 1)).any q = ((p.take K).any q || q p[K]) := by
  rw [List.take_succ_eq_append_getElem hK, List.any_append]
  simp
/-- The flags of TrackLeast behind K pairs. -/
def LsInv (p : List Spn) (f t : Int) (o : Spn) (K : Nat) (a b c : Bool) : Prop :=
  a = (p.take K).any (inR f t) ∧ b = (p.take K).any (fun s => inR f t s && (s.f == o.f)) ∧ c = (p.take K).any (fun s => inR f t s && (s.f == o.t - 1))
theorem LsInv.start (p : List Spn) (f t : Int) (o : Spn) : LsInv p f t o 0 false false false := by simp [LsInv]
theorem LsInv.out {p : List Spn} {f t : Int} {o : Spn} {K : Nat} {a b c : Bool} (h : LsInv p f t o K a b c) (hK : K < p.length) (hn : p[K].t < f ∨ t ≤ p[K].t) : LsInv p f t o (K + 1) a b c := by
  obtain ⟨h1, h2, h3⟩ := h
  have hr : inR f t p[K] = false := by rw [← Bool.not_eq_true, inR_iff]; omega
  exact ⟨by rw [any_step p _ hK, hr, Bool.or_false, h1], by rw [any_step p _ hK]; simp only [hr, Bool.false_and, Bool.or_false]; exact h2, by rw [any_step p _ hK]; simp only [hr, Bool.false_and, Bool.or_false]; exact h3⟩
theorem LsInv.inn {p : List Spn} {f t : Int} {o : Spn} {K : Nat} {a b c : Bool} (h : LsInv p f t o K a b c) (hK : K < p.length) (h1 : f ≤ p[K].t) (h2 : p[K].t < t) : LsInv p f t o (K + 1) true (b || (p[K].f == o.f)) (c || (p[K].f == o.t - 1)) := by
  obtain ⟨g1, g2, g3⟩ := h
  have hr : inR f t p[K] = true := inR_iff.2 ⟨h1, h2⟩
  exact ⟨by rw [any_step p _ hK, hr, Bool.or_true], by rw [any_step p _ hK]; simp only [hr, Bool.true_and]; rw [g2], by rw [any_step p _ hK]; simp only [hr, Bool.true_and]; rw [g3]⟩
theorem LsInv.fin {p : List Spn} {f t : Int} {o : Spn} {K : Nat} {a b c ok : Bool} (h : LsInv p f t o K a b c) (hK : K = p.length) (hB : BackIs p f t o ok) : a = ok ∧ (ok = true → b = true ∧ c = true) ∧ (ok = false → o = ⟨0, 0⟩) := by
  obtain ⟨g1, g2, g3⟩ := h
  rw [hK, List.take_length] at g1 g2 g3
  exact ⟨by rw [g1, hB.some], fun e => ⟨by rw [g2, hB.firsts e], by rw [g3, hB.lasts e]⟩, fun e => (hB.none e).1⟩

/-- The count of TrackUntouched behind K pairs. -/
def UtInv (p : List Spn) (f t : Int) (o : Spn) (ok : Bool) (K : Nat) (c : Nat) : Prop := c = ((p.take K).filter (fun s => ok && sameP f t o s)).length
theorem UtInv.start (p : List Spn) (f t : Int) (o : Spn) (ok : Bool) : UtInv p f t o ok 0 0 := by simp [UtInv]
theorem UtInv.yes {p : List Spn} {f t : Int} {o : Spn} {K c : Nat} (h : UtInv p f t o true K c) (hK : K < p.length) (h1 : f ≤ p[K].t) (h2 : p[K].t < t) (h3 : p[K].t - f = p[K].f - o.f) : UtInv p f t o true (K + 1) (c + 1) := by
  unfold UtInv at *
  rw [List.take_succ_eq_append_getElem hK, List.filter_append, List.length_append, ← h, List.filter_cons_of_pos (by rw [Bool.true_and, sameP_iff]; exact ⟨⟨h1, h2⟩, h3⟩)]
  simp
theorem UtInv.no {p : List Spn} {f t : Int} {o : Spn} {ok : Bool} {K c : Nat} (h : UtInv p f t o ok K c) (hK : K < p.length) (hn : ok = false ∨ p[K].t < f ∨ t ≤ p[K].t ∨ p[K].t - f ≠ p[K].f - o.f) : UtInv p f t o ok (K + 1) c := by
  unfold UtInv at *
  rw [List.take_succ_eq_append_getElem hK, List.filter_append, List.length_append, ← h, List.filter_cons_of_neg]
  · simp
  · rw [Bool.and_eq_true, sameP_iff]
    rintro ⟨rfl, h1, h2⟩
    rcases hn with hn | hn | hn | hn
    · cases hn
    · omega
    · omega
    · exact hn h2
theorem UtInv.le {p : List Spn} {f t : Int} {o : Spn} {ok : Bool} {K c : Nat} (h : UtInv p f t o ok K c) : c ≤ K := by
  unfold UtInv at h
  have h1 := List.length_filter_le (fun s => ok && sameP f t o s) (p.take K)
  have h2 := List.length_take_le K p
  omega
theorem UtInv.fin {p : List Spn} {m n f t : Int} {o : Spn} {ok : Bool} {K c k : Nat} (h : UtInv p f t o ok K c) (hK : K = p.length) (ha : Asc 0 0 p m n) (hf : 0 ≤ f) (ht : t = f + ((k + 1 : Nat) : Int)) (htn : t ≤ n) (hB : BackIs p f t o ok) :
    tch (parts p f (k + 1)) = !(ok && ((c : Int) == t - f) && (o.t - o.f == t - f)) := by
  subst ht
  have hu := untouched ha f hf k htn hB
  unfold UtInv at h
  rw [hK, List.take_length] at h
  cases ok with
  | false =>
    simp only [Bool.false_and, Bool.not_false]
    cases hx : tch (parts p f (k + 1)) with
    | true => rfl
    | false => have := (hu.1 hx).1; cases this
  | true =>
    simp only [Bool.true_and] at h ⊢
    rw [Bool.eq_iff_iff, Bool.not_eq_true', ← Bool.not_eq_false, hu]
    have hl : (List.filter (sameP f (f + ((k + 1 : Nat) : Int)) o) p).length = c := h.symm
    rw [hl, ← Bool.not_eq_true, Bool.and_eq_true, beq_iff_eq, beq_iff_eq]
    constructor
    · intro h1 h2; exact h1 ⟨rfl, by omega, by omega⟩
    · intro h1 h2; exact h1 ⟨by omega, by omega⟩
end Go.Proofs.Ml
namespace Go.Proofs.Ml
theorem composed1 {p q : List Spn} {f t : Int} {o o' : Spn} {b b' : Bool} (h : BackIs (compP p q) f t o b) (h' : BackIs q f t o' b') (hb : b = true) : b' = true := by
  obtain ⟨s, hs, h1, h2, _⟩ := h.first hb
  rw [mem_compP] at hs
  obtain ⟨a, ha, c, hc, _, rfl⟩ := hs
  cases b' with
  | true => rfl
  | false => exact absurd ⟨h1, h2⟩ ((h'.none rfl).2 c hc)
end Go.Proofs.Ml
