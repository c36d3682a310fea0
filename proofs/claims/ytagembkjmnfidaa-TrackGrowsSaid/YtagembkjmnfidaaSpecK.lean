import Derived.Test.YtagembkjmnfidaaSpecI
namespace Go.Proofs.Ml
set_option linter.unusedVariables false

/-- A script made of pairs of equal lines fits. -/
theorem fits_made {p : List Spn} {a b : List Int} (h : Asc 0 0 p a.length b.length) (hm : (a.length : Int) ≤ 4096) (hn : (b.length : Int) ≤ 4096) (he : ∀ s ∈ p, a[s.f.toNat]? = b[s.t.toNat]?) : fits (made 0 0 p a.length b.length) a b = true := by
  rw [fits_iff]
  refine ⟨made_valid h hm hn, ?_⟩
  rw [mat_made h]
  exact he
/-- The lines of the second text are made equal, pair by pair. -/
def FkInv (p : List Spn) (a b : List Int) (K : Nat) : Prop := ∀ i (h : i < p.length), i < K → a[p[i].f.toNat]? = b[p[i].t.toNat]?
theorem FkInv.start (p : List Spn) (a b : List Int) : FkInv p a b 0 := fun i h hi => by omega
theorem Asc.get_lt : ∀ {p : List Spn} {i j m n : Int}, Asc i j p m n → ∀ (x y : Nat) (hy : y < p.length) (h : x < y), (p[x]'(by omega)).t < p[y].t
  | [], _, _, _, _, _, x, y, hy, _ => by simp at hy
  | s :: p, i, j, m, n, ha, 0, y + 1, hy, _ => by
    have := ha.2.2.mem (p[y]'(by simpa using hy)) (List.getElem_mem _)
    simp only [List.getElem_cons_zero, List.getElem_cons_succ]
    omega
  | s :: p, i, j, m, n, ha, x + 1, y + 1, hy, h => by
    simp only [List.getElem_cons_succ]
    exact ha.2.2.get_lt x y (by simpa using hy) (by omega)
theorem FkInv.step {p : List Spn} {a b : List Int} {i j m n : Int} {K : Nat} {v : Int} (h : FkInv p a b K) (ha : Asc i j p m n) (hK : K < p.length) (hj : 0 ≤ j) (hb : p[K].t < b.length) (hv : a[p[K].f.toNat]? = some v) : FkInv p a (b.set p[K].t.toNat v) (K + 1) := by
  intro x hx hlt
  rcases Nat.eq_or_lt_of_le (show x ≤ K by omega) with rfl | hlt
  · have hm := ha.mem p[x] (List.getElem_mem _)
    rw [List.getElem?_set_self (by omega), hv]
  · have h1 := ha.get_lt x K hK hlt
    have hm := ha.mem p[x] (List.getElem_mem _)
    rw [List.getElem?_set_ne (by omega)]
    exact h x hx hlt
theorem FkInv.fin {l : List Chg} {a b : List Int} {K : Nat} (h : FkInv (mat 0 0 l a.length) a b K) (hK : K = (mat 0 0 l a.length).length) (hv : valid l a.length b.length = true) : fits l a b = true := by
  rw [fits_iff]
  refine ⟨hv, fun s hs => ?_⟩
  obtain ⟨i, hi, rfl⟩ := List.getElem_of_mem hs
  exact h i hi (by omega)

/-! what one move is, spelled out -/
theorem mv_get (d : Int) (l : List Chg) (k : Nat) (hk : k < l.length) : mv d l k = l.set k (l[k].up d) := by
  apply List.ext_getElem?
  intro x
  by_cases hx : k = x
  · subst hx
    rw [mv_eq, List.getElem?_set_self hk, List.getElem?_eq_getElem hk]
    rfl
  · rw [mv_ne d l hx, List.getElem?_set_ne hx]
theorem side_a {a b : List Int} {c : Chg} (h : c.nl = 0) : side a b c = some (a, c.o, c.ol) := by simp [side, h]
theorem side_b {a b : List Int} {c : Chg} (h : c.nl ≠ 0) (h' : c.ol = 0) : side a b c = some (b, c.n, c.nl) := by simp [side, h, h']
theorem side_no {a b : List Int} {c : Chg} (h : c.nl ≠ 0) (h' : c.ol ≠ 0) : side a b c = none := by simp [side, h, h']
theorem not_canD_side {a b : List Int} {l : List Chg} {k : Nat} (hk : k < l.length) (h : side a b l[k] = none) : ¬ canD a b l k := by
  rintro ⟨c, t, f, n, e1, e2, _⟩
  rw [List.getElem?_eq_getElem hk, Option.some.injEq] at e1
  rw [← e1, h] at e2
  cases e2
theorem canD_iff {a b : List Int} {l : List Chg} {k : Nat} (hk : k < l.length) {t : List Int} {f n : Int} (h : side a b l[k] = some (t, f, n)) : canD a b l k ↔ f + n < t.length ∧ t[f.toNat]? = t[(f + n).toNat]? ∧ room l[k] l[k + 1]? := by
  constructor
  · rintro ⟨c, t', f', n', e1, e2, e3⟩
    rw [List.getElem?_eq_getElem hk, Option.some.injEq] at e1
    rw [← e1, h] at e2
    injection e2 with e2; injection e2 with e2 e4; injection e4 with e4 e5; subst e2; subst e4; subst e5
    rw [e1]
    exact e3
  · rintro ⟨h1, h2, h3⟩
    exact ⟨l[k], t, f, n, List.getElem?_eq_getElem hk, h, h1, h2, h3⟩
theorem not_canU_side {a b : List Int} {l : List Chg} {k : Nat} (hk : k < l.length) (h : side a b l[k] = none) : ¬ canU a b l k := by
  rintro ⟨c, t, f, n, e1, e2, _⟩
  rw [List.getElem?_eq_getElem hk, Option.some.injEq] at e1
  rw [← e1, h] at e2
  cases e2
theorem canU_iff {a b : List Int} {l : List Chg} {k : Nat} (hk : k < l.length) {t : List Int} {f n : Int} (h : side a b l[k] = some (t, f, n)) : canU a b l k ↔ 0 < f ∧ t[(f - 1).toNat]? = t[(f + n - 1).toNat]? ∧ (∀ p, k = p + 1 → ∀ hp : p < l.length, l[p].o + l[p].ol < l[k].o - 1) := by
  constructor
  · rintro ⟨c, t', f', n', e1, e2, e3, e4, e5⟩
    rw [List.getElem?_eq_getElem hk, Option.some.injEq] at e1
    rw [← e1, h] at e2
    injection e2 with e2; injection e2 with e2 e6; injection e6 with e6 e7; subst e2; subst e6; subst e7
    subst e1
    exact ⟨e3, e4, fun p hp hpl => e5 p l[p] hp (List.getElem?_eq_getElem hpl)⟩
  · rintro ⟨h1, h2, h3⟩
    refine ⟨l[k], t, f, n, List.getElem?_eq_getElem hk, h, h1, h2, fun p d hp hd => ?_⟩
    obtain ⟨hpl, rfl⟩ := List.getElem?_eq_some_iff.1 hd
    exact h3 p hp hpl
end Go.Proofs.Ml
