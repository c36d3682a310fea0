import Derived.Test.YtagembkjmnfidaaSpecK
import Derived.Test.YtagembkjmnfidaaSpecB
namespace Go.Proofs.Ml
set_option linter.unusedVariables false

theorem Val.last : ∀ {l : List Chg} {x : Bool} {i j m n : Int}, Val x i j l m n → ∀ (k : Nat) (c : Chg), l[k]? = some c → k + 1 = l.length → m - (c.o + c.ol) = n - (c.n + c.nl)
  | [], _, _, _, _, _, _, k, c, h, _ => by simp at h
  | e :: l, x, i, j, m, n, hv, 0, c, h1, h2 => by
    simp only [List.getElem?_cons_zero, Option.some.injEq] at h1
    subst h1
    have h4 := hv.2
    cases l with
    | nil => exact h4.1
    | cons f l => simp at h2
  | e :: l, x, i, j, m, n, hv, k + 1, c, h1, h2 => hv.2.last k c (by simpa using h1) (by simpa using h2)
theorem Val.first {l : List Chg} {x : Bool} {i j m n : Int} (h : Val x i j l m n) {c : Chg} (hc : l[0]? = some c) : c.o - i = c.n - j := by
  cases l with
  | nil => simp at hc
  | cons d l =>
    simp only [List.getElem?_cons_zero, Option.some.injEq] at hc
    subst hc
    have h1 := h.1
    rw [okC_iff] at h1
    exact h1.2.2.2.2.2.1
theorem side_cases {a b : List Int} {c : Chg} {t : List Int} {f n : Int} (h : side a b c = some (t, f, n)) : (t = a ∧ f = c.o ∧ n = c.ol) ∨ (t = b ∧ f = c.n ∧ n = c.nl) := by
  unfold side at h
  split at h
  · injection h with h; injection h with h1 h2; injection h2 with h2 h3; exact .inl ⟨h1.symm, h2.symm, h3.symm⟩
  · split at h
    · injection h with h; injection h with h1 h2; injection h2 with h2 h3; exact .inr ⟨h1.symm, h2.symm, h3.symm⟩
    · cases h
theorem dn_some {a b : List Int} {l : List Chg} {K : Nat} (hv : valid l a.length b.length = true) (hK : K < l.length) {t : List Int} {f n : Int} (hs : side a b l[K] = some (t, f, n)) {A : Int}
    (hA : (∃ h : K + 1 < l.length, A = l[K + 1].o - (l[K].o + l[K].ol) - 1) ∨ (K + 1 = l.length ∧ A = a.length - (l[K].o + l[K].ol))) :
    (A < 1 → ¬ canD a b l K) ∧ (1 ≤ A → f + n < t.length ∧ (canD a b l K ↔ t[f.toNat]? = t[(f + n).toNat]?)) := by
  rw [canD_iff hK hs]
  have hb := (valid_iff.1 hv).2.2.bounds
  have hsc := side_cases hs
  have hk := List.getElem?_eq_getElem hK
  rcases hA with ⟨h, hA⟩ | ⟨h, hA⟩
  · rw [List.getElem?_eq_getElem h]
    have hbt := ((valid_val hv).between K _ _ hk (List.getElem?_eq_getElem h)).1
    have h3 := hb l[K + 1] (List.getElem_mem _)
    simp only [room]
    refine ⟨fun h1 h2 => by have := h2.2.2; omega, fun h1 => ?_⟩
    have hlt : f + n < t.length := by rcases hsc with ⟨rfl, rfl, rfl⟩ | ⟨rfl, rfl, rfl⟩ <;> omega
    exact ⟨hlt, fun h => h.2.1, fun h => ⟨hlt, h, by omega⟩⟩
  · have hno : l[K + 1]? = none := List.getElem?_eq_none (by omega)
    rw [hno]
    have hbt := (valid_val hv).last K _ hk h
    simp only [room]
    refine ⟨fun h1 h2 => by have := h2.1; rcases hsc with ⟨rfl, rfl, rfl⟩ | ⟨rfl, rfl, rfl⟩ <;> omega, fun h1 => ?_⟩
    have hlt : f + n < t.length := by rcases hsc with ⟨rfl, rfl, rfl⟩ | ⟨rfl, rfl, rfl⟩ <;> omega
    exact ⟨hlt, fun h => h.2.1, fun h => ⟨hlt, h, trivial⟩⟩
theorem up_some {a b : List Int} {l : List Chg} {K : Nat} (hv : valid l a.length b.length = true) (hK : K < l.length) {t : List Int} {f n : Int} (hs : side a b l[K] = some (t, f, n)) {A : Int}
    (hA : (∃ P, ∃ h : P < l.length, K = P + 1 ∧ A = l[K].o - (l[P].o + l[P].ol + 1)) ∨ (K = 0 ∧ A = l[K].o)) :
    (A < 1 → ¬ canU a b l K) ∧ (1 ≤ A → 0 < f ∧ (canU a b l K ↔ t[(f - 1).toNat]? = t[(f + n - 1).toNat]?)) := by
  rw [canU_iff hK hs]
  have hb := (valid_iff.1 hv).2.2.bounds
  have hsc := side_cases hs
  have hk := List.getElem?_eq_getElem hK
  rcases hA with ⟨P, h, hP, hA⟩ | ⟨h, hA⟩
  · have hbt := ((valid_val hv).between P _ _ (List.getElem?_eq_getElem h) (by rw [← hP]; exact hk)).1
    have h3 := hb l[P] (List.getElem_mem _)
    refine ⟨fun h1 h2 => by have := h2.2.2 P hP h; omega, fun h1 => ?_⟩
    have hlt : 0 < f := by rcases hsc with ⟨rfl, rfl, rfl⟩ | ⟨rfl, rfl, rfl⟩ <;> omega
    exact ⟨hlt, fun h => h.2.1, fun h => ⟨hlt, h, fun p hp hpl => by have e : p = P := by omega
                                                                     subst e; omega⟩⟩
  · subst h
    have hbt := (valid_val hv).first hk
    refine ⟨fun h1 h2 => by have := h2.1; rcases hsc with ⟨rfl, rfl, rfl⟩ | ⟨rfl, rfl, rfl⟩ <;> omega, fun h1 => ?_⟩
    have hlt : 0 < f := by rcases hsc with ⟨rfl, rfl, rfl⟩ | ⟨rfl, rfl, rfl⟩ <;> omega
    exact ⟨hlt, fun h => h.2.1, fun h => ⟨hlt, h, fun p hp hpl => by omega⟩⟩
end Go.Proofs.Ml
