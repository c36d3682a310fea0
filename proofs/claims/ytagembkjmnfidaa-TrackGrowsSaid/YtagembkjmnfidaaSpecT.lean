import Derived.Test.YtagembkjmnfidaaSpec
namespace Go.Proofs.Ml
set_option linter.unusedVariables false

/-- Is the partner's new line in the range? -/
def inR (f t : Int) (s : Spn) : Bool := decide (f ≤ s.t) && decide (s.t < t)
theorem inR_iff {f t : Int} {s : Spn} : inR f t s = true ↔ f ≤ s.t ∧ s.t < t := by simp [inR]

/-- TrackLeast. -/
theorem BackIs.some {p : List Spn} {f t : Int} {o : Spn} {b : Bool} (h : BackIs p f t o b) : p.any (inR f t) = b := by
  rw [Bool.eq_iff_iff, List.any_eq_true]
  constructor
  · rintro ⟨s, hs, hr⟩
    rw [inR_iff] at hr
    cases b with
    | true => rfl
    | false => exact absurd hr ((h.none rfl).2 s hs)
  · intro hb
    obtain ⟨s, hs, h1, h2, _⟩ := h.first hb
    exact ⟨s, hs, inR_iff.2 ⟨h1, h2⟩⟩
theorem BackIs.firsts {p : List Spn} {f t : Int} {o : Spn} {b : Bool} (h : BackIs p f t o b) (hb : b = true) : p.any (fun s => inR f t s && (s.f == o.f)) = true := by
  obtain ⟨s, hs, h1, h2, h3⟩ := h.first hb
  rw [List.any_eq_true]
  exact ⟨s, hs, by rw [Bool.and_eq_true, inR_iff]; exact ⟨⟨h1, h2⟩, by simpa using h3⟩⟩
theorem BackIs.lasts {p : List Spn} {f t : Int} {o : Spn} {b : Bool} (h : BackIs p f t o b) (hb : b = true) : p.any (fun s => inR f t s && (s.f == o.t - 1)) = true := by
  obtain ⟨s, hs, h1, h2, h3⟩ := h.last hb
  rw [List.any_eq_true]
  exact ⟨s, hs, by rw [Bool.and_eq_true, inR_iff]; exact ⟨⟨h1, h2⟩, by simpa using h3⟩⟩

/-- A part of an ascending list ascends. -/
theorem Asc.filter : ∀ {p : List Spn} {i j m n : Int} (q : Spn → Bool), Asc i j p m n → Asc i j (p.filter q) m n
  | [], _, _, _, _, q, h => h
  | x :: p, i, j, m, n, q, h => by
    obtain ⟨h1, h2, h3⟩ := h
    by_cases hq : q x = true
    · rw [List.filter_cons_of_pos hq]
      exact ⟨h1, h2, h3.filter q⟩
    · rw [List.filter_cons_of_neg hq]
      exact (h3.filter q).mono (by omega) (by omega)
/-- Its bounds may be drawn in to its members. -/
theorem Asc.bounds : ∀ {p : List Spn} {i j m n : Int} (i' j' m' n' : Int), Asc i j p m n → (∀ s ∈ p, i' ≤ s.f ∧ s.f < m' ∧ j' ≤ s.t ∧ s.t < n') → i' ≤ m' → j' ≤ n' → Asc i' j' p m' n'
  | [], _, _, _, _, _, _, _, _, _, _, h1, h2 => ⟨h1, h2⟩
  | x :: p, i, j, m, n, i', j', m', n', h, hs, h1, h2 => by
    obtain ⟨a1, a2, a3⟩ := h
    have hx := hs x (by simp)
    refine ⟨by omega, by omega, a3.bounds _ _ _ _ (fun s hs' => ?_) (by omega) (by omega)⟩
    have := hs s (by simp [hs'])
    have := a3.mem s hs'
    omega
/-- A list that fills its range holds every line. -/
theorem Asc.full : ∀ {p : List Spn} {i j m n : Int}, Asc i j p m n → (p.length : Int) = n - j → ∀ x, j ≤ x → x < n → ∃ s ∈ p, s.t = x
  | [], _, _, _, _, h, hl, x, h1, h2 => by simp at hl; omega
  | y :: p, i, j, m, n, h, hl, x, h1, h2 => by
    obtain ⟨a1, a2, a3⟩ := h
    have := a3.length
    simp only [List.length_cons] at hl
    by_cases hx : x = j
    · exact ⟨y, by simp, by omega⟩
    · obtain ⟨s, hs, e⟩ := a3.full (by omega) x (by omega) h2
      exact ⟨s, by simp [hs], e⟩

def sameP (f t : Int) (o : Spn) (s : Spn) : Bool := inR f t s && (s.t - f == s.f - o.f)
theorem sameP_iff {f t : Int} {o s : Spn} : sameP f t o s = true ↔ (f ≤ s.t ∧ s.t < t) ∧ s.t - f = s.f - o.f := by simp [sameP, inR]

/-- TrackUntouched: the range is untouched exactly if its lines are the lines of Back, one by one. -/
theorem untouched {p : List Spn} {m n : Int} (h : Asc 0 0 p m n) (f : Int) (hf : 0 ≤ f) (k : Nat) (hk : f + ((k + 1 : Nat) : Int) ≤ n) {o : Spn} {b : Bool} (hb : BackIs p f (f + ((k + 1 : Nat) : Int)) o b) :
    tch (parts p f (k + 1)) = false ↔ b = true ∧ (((p.filter (sameP f (f + ((k + 1 : Nat) : Int)) o)).length : Int) = ((k + 1 : Nat) : Int)) ∧ o.t - o.f = ((k + 1 : Nat) : Int) := by
  rw [tch_iff]
  constructor
  · rintro ⟨h0, hall⟩
    have hmem : ∀ x : Nat, x < k + 1 → (⟨part p f + x, f + x⟩ : Spn) ∈ p := fun x hx => by
      have e := hall x hx
      rcases part_cases h (f + x) with ⟨h1, _⟩ | h1
      · omega
      · rw [e] at h1; exact h1
    have m0 := hmem 0 (by omega)
    have mk := hmem k (by omega)
    have hbt : b = true := by
      cases b with
      | true => rfl
      | false => exact absurd ⟨by simp, by simp; omega⟩ ((hb.none rfl).2 _ m0)
    have hof : o.f = part p f := by
      obtain ⟨s, hs, h1, h2, h3⟩ := hb.first hbt
      have h4 := hb.all _ m0 (by simp) (by simp; omega)
      simp only at h4
      have e := hall (s.t - f).toNat (by omega)
      rw [show f + ((s.t - f).toNat : Int) = s.t by omega, part_of_mem h hs] at e
      omega
    have hot : o.t = part p f + ((k + 1 : Nat) : Int) := by
      obtain ⟨s, hs, h1, h2, h3⟩ := hb.last hbt
      have h4 := hb.all _ mk (by simp; omega) (by simp; omega)
      simp only at h4
      have e := hall (s.t - f).toNat (by omega)
      rw [show f + ((s.t - f).toNat : Int) = s.t by omega, part_of_mem h hs] at e
      omega
    refine ⟨hbt, ?_, by omega⟩
    have hq : p.filter (sameP f (f + ((k + 1 : Nat) : Int)) o) = runP (part p f) f (k + 1) := by
      have hr := Asc.runP (part p f + ((k + 1 : Nat) : Int)) (f + ((k + 1 : Nat) : Int)) [] (k + 1) (part p f) f ⟨Int.le_refl _, Int.le_refl _⟩
      rw [List.append_nil] at hr
      refine Asc.ext (h.filter _) hr fun s => ?_
      rw [List.mem_filter, sameP_iff, runP_mem]
      constructor
      · rintro ⟨_, h1, h2⟩; omega
      · rintro ⟨h1, h2, h3⟩
        refine ⟨?_, by omega, by omega⟩
        have := hmem (s.t - f).toNat (by omega)
        have e : (⟨part p f + ((s.t - f).toNat : Int), f + ((s.t - f).toNat : Int)⟩ : Spn) = s := by
          cases s; simp only [Spn.mk.injEq] at *; omega
        rw [e] at this
        exact this
    rw [hq, runP_length]
  · rintro ⟨hbt, hcount, hlen⟩
    have hA := (h.filter (sameP f (f + ((k + 1 : Nat) : Int)) o)).bounds o.f f o.t (f + ((k + 1 : Nat) : Int)) (fun s hs => by
      rw [List.mem_filter, sameP_iff] at hs
      have := hb.all s hs.1 hs.2.1.1 hs.2.1.2
      omega) (by omega) (by omega)
    have hfull := hA.full (by omega)
    have key : ∀ x : Nat, x < k + 1 → part p (f + x) = o.f + x := fun x hx => by
      obtain ⟨s, hs, e⟩ := hfull (f + x) (by omega) (by omega)
      rw [List.mem_filter, sameP_iff] at hs
      rw [← e, part_of_mem h hs.1]
      omega
    have k0 := key 0 (by omega)
    simp only [Int.natCast_zero, Int.add_zero] at k0
    have hpos : 0 ≤ o.f := by
      obtain ⟨s, hs, h1, h2, h3⟩ := hb.first hbt
      have := h.mem s hs
      omega
    exact ⟨by omega, fun x hx => by rw [key x hx, k0]⟩

/-- TrackComposed. -/
theorem composed {p q : List Spn} {f t : Int} {o o' o'' : Spn} {b b' b'' : Bool} (h : BackIs (compP p q) f t o b) (h' : BackIs q f t o' b') (h'' : BackIs p o'.f o'.t o'' b'') (hb : b = true) :
    b' = true ∧ o'.f < o'.t ∧ b'' = true ∧ o''.f ≤ o.f ∧ o.t ≤ o''.t := by
  have key : ∀ s ∈ compP p q, f ≤ s.t → s.t < t → b' = true ∧ o'.f < o'.t ∧ b'' = true ∧ o''.f ≤ s.f ∧ s.f < o''.t := by
    intro s hs h1 h2
    rw [mem_compP] at hs
    obtain ⟨a, ha, c, hc, e, rfl⟩ := hs
    simp only at h1 h2
    have g1 := h'.all c hc h1 h2
    have g2 := h''.all a ha (by omega) (by omega)
    refine ⟨?_, by omega, ?_, g2.1, g2.2⟩
    · cases b' with
      | true => rfl
      | false => exact absurd ⟨h1, h2⟩ ((h'.none rfl).2 c hc)
    · cases b'' with
      | true => rfl
      | false => exact absurd ⟨by omega, by omega⟩ ((h''.none rfl).2 a ha)
  obtain ⟨s, hs, h1, h2, h3⟩ := h.first hb
  obtain ⟨u, hu, g1, g2, g3⟩ := h.last hb
  have a1 := key s hs h1 h2
  have a2 := key u hu g1 g2
  exact ⟨a1.1, a1.2.1, a1.2.2.1, by omega, by omega⟩
end Go.Proofs.Ml
