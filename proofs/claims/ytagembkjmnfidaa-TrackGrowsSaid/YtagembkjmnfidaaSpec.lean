namespace Go.Proofs.Ml
set_option linter.unusedVariables false

/-- A change and a span of api, as plain data. -/
structure Chg where
  o : Int
  ol : Int
  n : Int
  nl : Int
deriving DecidableEq

structure Spn where
  f : Int
  t : Int
deriving DecidableEq

def inL (n : Int) : Bool := decide (0 ≤ n) && decide (n ≤ 4096)
theorem inL_iff {n : Int} : inL n = true ↔ 0 ≤ n ∧ n ≤ 4096 := by simp [inL]

/-- One change behind the ends i, j of the change before; b: it is the first. -/
def okC (b : Bool) (i j : Int) (c : Chg) : Bool :=
  inL c.o && inL c.ol && inL c.n && inL c.nl && !(c.ol + c.nl == 0) && (c.o - i == c.n - j) && (if b then decide (i ≤ c.o) else decide (i < c.o))

theorem okC_iff {b : Bool} {i j : Int} {c : Chg} : okC b i j c = true ↔
    (0 ≤ c.o ∧ c.o ≤ 4096) ∧ (0 ≤ c.ol ∧ c.ol ≤ 4096) ∧ (0 ≤ c.n ∧ c.n ≤ 4096) ∧ (0 ≤ c.nl ∧ c.nl ≤ 4096) ∧ c.ol + c.nl ≠ 0 ∧ c.o - i = c.n - j ∧ i ≤ c.o ∧ (b = false → i < c.o) := by
  unfold okC
  cases b <;> simp [inL] <;> omega

def chkGo : Bool → Int → Int → List Chg → Option (Int × Int)
  | _, i, j, [] => some (i, j)
  | b, i, j, c :: l => if okC b i j c then chkGo false (c.o + c.ol) (c.n + c.nl) l else none

def fin (i j m n : Int) : Bool := (m - i == n - j) && decide (i ≤ m)
def finO (m n : Int) : Option (Int × Int) → Bool
  | none => false
  | some (i, j) => fin i j m n

/-- The script is valid for m and n. -/
def valid (l : List Chg) (m n : Int) : Bool := inL m && inL n && finO m n (chkGo true 0 0 l)

/-- Validity as a relation: behind the ends i, j. -/
def Val : Bool → Int → Int → List Chg → Int → Int → Prop
  | _, i, j, [], m, n => m - i = n - j ∧ i ≤ m
  | b, i, j, c :: l, m, n => okC b i j c = true ∧ Val false (c.o + c.ol) (c.n + c.nl) l m n

theorem val_iff : ∀ (l : List Chg) (b : Bool) (i j m n : Int), finO m n (chkGo b i j l) = true ↔ Val b i j l m n
  | [], b, i, j, m, n => by simp [chkGo, finO, fin, Val]
  | c :: l, b, i, j, m, n => by
    by_cases h : okC b i j c = true
    · simp [chkGo, Val, h, val_iff l]
    · simp [chkGo, Val, h, finO]

theorem valid_iff {l : List Chg} {m n : Int} : valid l m n = true ↔ (0 ≤ m ∧ m ≤ 4096) ∧ (0 ≤ n ∧ n ≤ 4096) ∧ Val true 0 0 l m n := by
  simp [valid, inL, val_iff]; constructor
  · rintro ⟨⟨h1, h2⟩, h3⟩; exact ⟨h1, h2, h3⟩
  · rintro ⟨h1, h2, h3⟩; exact ⟨⟨h1, h2⟩, h3⟩

theorem Val.le : ∀ {l : List Chg} {b : Bool} {i j m n : Int}, Val b i j l m n → i ≤ m ∧ j ≤ n
  | [], _, _, _, _, _, h => by simp [Val] at h; omega
  | c :: l, b, i, j, m, n, h => by
    obtain ⟨h1, h2⟩ := h
    have := h2.le
    rw [okC_iff] at h1
    omega

/-- A run of partners. -/
def runP (i j : Int) : Nat → List Spn
  | 0 => []
  | k + 1 => ⟨i, j⟩ :: runP (i + 1) (j + 1) k

theorem runP_length (k : Nat) : ∀ i j : Int, (runP i j k).length = k := by
  induction k with
  | zero => intro i j; rfl
  | succ k ih => intro i j; simp [runP, ih]

theorem runP_snoc (k : Nat) : ∀ i j : Int, runP i j (k + 1) = runP i j k ++ [⟨i + k, j + k⟩] := by
  induction k with
  | zero => intro i j; simp [runP]
  | succ k ih =>
    intro i j
    rw [runP, ih (i + 1) (j + 1)]
    simp [runP]
    constructor <;> omega

theorem runP_add (a : Nat) : ∀ (b : Nat) (i j : Int), runP i j (a + b) = runP i j a ++ runP (i + a) (j + a) b := by
  induction a with
  | zero => intro b i j; simp [runP]
  | succ a ih =>
    intro b i j
    rw [show a + 1 + b = (a + b) + 1 by omega, runP, ih b (i + 1) (j + 1), runP]
    simp only [List.cons_append, List.cons.injEq, true_and]
    congr 2 <;> omega

/-- The partners of a script behind the ends i, j. -/
def mat : Int → Int → List Chg → Int → List Spn
  | i, j, [], m => runP i j (m - i).toNat
  | i, j, c :: l, m => runP i j (c.o - i).toNat ++ mat (c.o + c.ol) (c.n + c.nl) l m

/-- The script whose partners are p. -/
def gap (i j f t : Int) : List Chg := if i < f ∨ j < t then [⟨i, f - i, j, t - j⟩] else []
def made : Int → Int → List Spn → Int → Int → List Chg
  | i, j, [], m, n => gap i j m n
  | i, j, p :: ps, m, n => gap i j p.f p.t ++ made (p.f + 1) (p.t + 1) ps m n

/-- Ascending pairs from i, j on, below m, n. -/
def Asc : Int → Int → List Spn → Int → Int → Prop
  | i, j, [], m, n => i ≤ m ∧ j ≤ n
  | i, j, p :: ps, m, n => i ≤ p.f ∧ j ≤ p.t ∧ Asc (p.f + 1) (p.t + 1) ps m n

instance decAsc : ∀ (i j : Int) (p : List Spn) (m n : Int), Decidable (Asc i j p m n)
  | i, j, [], m, n => by unfold Asc; infer_instance
  | i, j, p :: ps, m, n => by
    unfold Asc
    have := decAsc (p.f + 1) (p.t + 1) ps m n
    infer_instance

theorem Asc.le : ∀ {p : List Spn} {i j m n : Int}, Asc i j p m n → i ≤ m ∧ j ≤ n
  | [], _, _, _, _, h => h
  | x :: p, i, j, m, n, h => by
    obtain ⟨h1, h2, h3⟩ := h
    have := h3.le
    omega

theorem Asc.mono : ∀ {p : List Spn} {i j i' j' m n : Int}, Asc i j p m n → i' ≤ i → j' ≤ j → Asc i' j' p m n
  | [], _, _, _, _, _, _, h, h1, h2 => by simp only [Asc] at *; omega
  | x :: p, i, j, i', j', m, n, h, h1, h2 => by
    obtain ⟨h3, h4, h5⟩ := h
    exact ⟨by omega, by omega, h5⟩

theorem Asc.runP (m n : Int) (p : List Spn) : ∀ (k : Nat) (i j : Int), Asc (i + k) (j + k) p m n → Asc i j (runP i j k ++ p) m n
  | 0, i, j, h => by simpa [Ml.runP] using h
  | k + 1, i, j, h => by
    refine ⟨Int.le_refl _, Int.le_refl _, ?_⟩
    exact Asc.runP m n p k (i + 1) (j + 1) (by have e1 : i + 1 + k = i + (k + 1 : Nat) := by omega
                                               have e2 : j + 1 + k = j + (k + 1 : Nat) := by omega
                                               rw [e1, e2]; exact h)

/-- The partners of a valid script ascend. -/
theorem Val.asc : ∀ {l : List Chg} {b : Bool} {i j m n : Int}, Val b i j l m n → Asc i j (mat i j l m) m n
  | [], b, i, j, m, n, h => by
    obtain ⟨h1, h2⟩ := h
    have := Asc.runP m n [] (m - i).toNat i j (by simp only [Asc]; omega)
    simpa [mat] using this
  | c :: l, b, i, j, m, n, h => by
    obtain ⟨h1, h2⟩ := h
    have h3 := h2.asc
    rw [okC_iff] at h1
    refine Asc.runP m n _ _ i j (h3.mono ?_ ?_) <;> omega

theorem mat_shift (l : List Chg) (m : Int) (d : Nat) : ∀ (i j : Int), (∀ c l', l = c :: l' → i ≤ c.o) → (l = [] → i ≤ m) → mat (i - d) (j - d) l m = runP (i - d) (j - d) d ++ mat i j l m := by
  intro i j h1 h2
  cases l with
  | nil =>
    have := h2 rfl
    simp only [mat]
    rw [show (m - (i - d)).toNat = d + (m - i).toNat by omega, runP_add]
    congr 2 <;> omega
  | cons c l =>
    have := h1 c l rfl
    simp only [mat]
    rw [show (c.o - (i - d)).toNat = d + (c.o - i).toNat by omega, runP_add, List.append_assoc]
    congr 3 <;> omega

/-- The script made of ascending pairs has these partners. -/
theorem mat_made : ∀ {p : List Spn} {i j m n : Int}, Asc i j p m n → mat i j (made i j p m n) m = p
  | [], i, j, m, n, h => by
    simp only [Asc] at h
    simp only [made, gap]
    split
    · simp only [mat]
      rw [show (i - i).toNat = 0 by omega, show (m - (i + (m - i))).toNat = 0 by omega]
      rfl
    · simp only [mat]
      rw [show (m - i).toNat = 0 by omega]
      rfl
  | x :: p, i, j, m, n, h => by
    obtain ⟨h1, h2, h3⟩ := h
    have ih := mat_made h3
    have hhead : ∀ c l', made (x.f + 1) (x.t + 1) p m n = c :: l' → x.f + 1 ≤ c.o := by
      clear ih
      intro c l' he
      have hle := h3.le
      cases p with
      | nil =>
        simp only [made, gap] at he
        split at he
        · simp at he; rw [← he.1]; exact Int.le_refl _
        · cases he
      | cons y p =>
        obtain ⟨h4, h5, h6⟩ := h3
        simp only [made, gap] at he
        split at he
        · simp at he; rw [← he.1]; exact Int.le_refl _
        · have : ∀ (p : List Spn) (i j : Int), Asc i j p m n → ∀ c l', made i j p m n = c :: l' → i ≤ c.o := by
            intro p
            induction p with
            | nil =>
              intro i j ha c l' he
              simp only [made, gap] at he
              split at he
              · simp at he; rw [← he.1]; exact Int.le_refl _
              · cases he
            | cons z p ihp =>
              intro i j ha c l' he
              obtain ⟨a1, a2, a3⟩ := ha
              simp only [made, gap] at he
              split at he
              · simp at he; rw [← he.1]; exact Int.le_refl _
              · have := ihp _ _ a3 c l' (by simpa using he)
                omega
          have := this p _ _ h6 c l' (by simpa using he)
          omega
    have hs : mat x.f x.t (made (x.f + 1) (x.t + 1) p m n) m = x :: p := by
      have := mat_shift (made (x.f + 1) (x.t + 1) p m n) m 1 (x.f + 1) (x.t + 1) hhead (fun _ => by have := h3.le; omega)
      rw [show x.f + 1 - ((1 : Nat) : Int) = x.f by omega, show x.t + 1 - ((1 : Nat) : Int) = x.t by omega, ih] at this
      simpa [runP] using this
    simp only [made, gap]
    split
    · simp only [List.cons_append, List.nil_append, mat]
      rw [show (i - i).toNat = 0 by omega, show i + (x.f - i) = x.f by omega, show j + (x.t - j) = x.t by omega, hs]
      rfl
    · rw [show i = x.f by omega, show j = x.t by omega]
      simpa using hs

theorem made_run (m n : Int) (ps : List Spn) : ∀ (k : Nat) (i j : Int), made i j (runP i j k ++ ps) m n = made (i + k) (j + k) ps m n
  | 0, i, j => by simp [runP]
  | k + 1, i, j => by
    rw [runP, List.cons_append, made, made_run m n ps k]
    simp only [gap]
    rw [if_neg (by omega), List.nil_append]
    congr 1 <;> omega

theorem made_gap : ∀ {l : List Chg} {i j m n : Int} (i0 j0 : Int), Val false i j l m n → made i0 j0 (mat i j l m) m n = gap i0 j0 i j ++ l
  | [], i, j, m, n, i0, j0, h => by
    obtain ⟨h1, h2⟩ := h
    simp only [mat]
    rcases Nat.eq_zero_or_pos (m - i).toNat with h0 | h0
    · rw [h0]
      obtain rfl : m = i := by omega
      obtain rfl : n = j := by omega
      simp [runP, made]
    · obtain ⟨k, hk⟩ : ∃ k, (m - i).toNat = k + 1 := ⟨(m - i).toNat - 1, by omega⟩
      rw [hk, runP, made]
      have := made_run m n [] k (i + 1) (j + 1)
      rw [List.append_nil] at this
      simp only []
      rw [this, made]
      congr 1
      simp only [gap]
      rw [if_neg (by omega)]
  | c :: l, i, j, m, n, i0, j0, h => by
    obtain ⟨h1, h2⟩ := h
    rw [okC_iff] at h1
    obtain ⟨k, hk⟩ : ∃ k, (c.o - i).toNat = k + 1 := ⟨(c.o - i).toNat - 1, by have := h1.2.2.2.2.2.2.2 rfl; omega⟩
    simp only [mat]
    rw [hk, runP, List.cons_append, made]
    simp only []
    rw [made_run m n _ k (i + 1) (j + 1), show i + 1 + (k : Int) = c.o by omega, show j + 1 + (k : Int) = c.n by omega, made_gap c.o c.n h2]
    congr 1
    simp only [gap]
    rw [if_pos (by omega)]
    simp only [List.cons_append, List.nil_append, List.cons.injEq, and_true]
    cases c; simp; omega

theorem made_mat {l : List Chg} {b : Bool} {i j m n : Int} (h : Val b i j l m n) : made i j (mat i j l m) m n = l := by
  cases l with
  | nil =>
    obtain ⟨h1, h2⟩ := h
    simp only [mat]
    have := made_run m n [] (m - i).toNat i j
    rw [List.append_nil] at this
    rw [this, made, gap, if_neg (by omega)]
  | cons c l =>
    obtain ⟨h1, h2⟩ := h
    rw [okC_iff] at h1
    simp only [mat]
    rw [made_run m n _ _ i j, show i + ((c.o - i).toNat : Int) = c.o by omega, show j + ((c.o - i).toNat : Int) = c.n by omega, made_gap c.o c.n h2]
    simp only [gap]
    rw [if_pos (by omega)]
    simp only [List.cons_append, List.nil_append, List.cons.injEq, and_true]
    cases c; simp; omega

/-- The script of ascending pairs is valid. -/
theorem Val.weak : ∀ {l : List Chg} {i j m n : Int}, Val false i j l m n → Val true i j l m n
  | [], _, _, _, _, h => h
  | c :: l, _, _, _, _, h => ⟨by have := h.1; rw [okC_iff] at *; exact ⟨this.1, this.2.1, this.2.2.1, this.2.2.2.1, this.2.2.2.2.1, this.2.2.2.2.2.1, this.2.2.2.2.2.2.1, fun e => by cases e⟩, h.2⟩

theorem Val.back : ∀ {l : List Chg} {b : Bool} {i j m n : Int} (d : Int), Val true i j l m n → (b = false → 0 < d) → 0 ≤ d → Val b (i - d) (j - d) l m n
  | [], _, _, _, _, _, d, h, hb, h0 => by simp only [Val] at *; omega
  | c :: l, b, i, j, _, _, d, h, hb, h0 => by
    refine ⟨?_, h.2⟩
    have := h.1
    rw [okC_iff] at *
    refine ⟨this.1, this.2.1, this.2.2.1, this.2.2.2.1, this.2.2.2.2.1, by omega, by omega, fun e => ?_⟩
    have := hb e
    omega

theorem okC_true {i j : Int} {c : Chg} (h : (0 ≤ c.o ∧ c.o ≤ 4096) ∧ (0 ≤ c.ol ∧ c.ol ≤ 4096) ∧ (0 ≤ c.n ∧ c.n ≤ 4096) ∧ (0 ≤ c.nl ∧ c.nl ≤ 4096) ∧ c.ol + c.nl ≠ 0 ∧ c.o - i = c.n - j ∧ i ≤ c.o) : okC true i j c = true := by
  rw [okC_iff]
  exact ⟨h.1, h.2.1, h.2.2.1, h.2.2.2.1, h.2.2.2.2.1, h.2.2.2.2.2.1, h.2.2.2.2.2.2, fun e => by cases e⟩

theorem made_val : ∀ {p : List Spn} {i j m n : Int}, Asc i j p m n → 0 ≤ i → 0 ≤ j → m ≤ 4096 → n ≤ 4096 → Val true i j (made i j p m n) m n
  | [], i, j, m, n, h, hi, hj, hm, hn => by
    simp only [Asc] at h
    simp only [made, gap]
    split
    · refine ⟨?_, ?_⟩
      · refine okC_true ?_; simp only []; omega
      · simp only [Val]; omega
    · simp only [Val]; omega
  | x :: p, i, j, m, n, h, hi, hj, hm, hn => by
    obtain ⟨h1, h2, h3⟩ := h
    have hle := h3.le
    have ih := made_val h3 (by omega) (by omega) hm hn
    have ih' := Val.back (b := false) 1 ih (by omega) (by omega)
    rw [show x.f + 1 - 1 = x.f by omega, show x.t + 1 - 1 = x.t by omega] at ih'
    simp only [made, gap]
    split
    · simp only [List.cons_append, List.nil_append]
      refine ⟨?_, ?_⟩
      · refine okC_true ?_; simp only []; omega
      · simp only []
        rw [show i + (x.f - i) = x.f by omega, show j + (x.t - j) = x.t by omega]
        exact ih'
    · rw [show i = x.f by omega, show j = x.t by omega]
      exact ih'.weak

theorem made_valid {p : List Spn} {m n : Int} (h : Asc 0 0 p m n) (hm : m ≤ 4096) (hn : n ≤ 4096) : valid (made 0 0 p m n) m n = true := by
  have := h.le
  exact valid_iff.2 ⟨by omega, by omega, made_val h (by omega) (by omega) hm hn⟩

/-! sizes -/
def sumO (l : List Chg) : Int := (l.map (·.ol)).sum
def sumN (l : List Chg) : Int := (l.map (·.nl)).sum
theorem mat_length : ∀ {l : List Chg} {b : Bool} {i j m n : Int}, Val b i j l m n → ((mat i j l m).length : Int) = m - i - sumO l ∧ ((mat i j l m).length : Int) = n - j - sumN l
  | [], b, i, j, m, n, h => by
    obtain ⟨h1, h2⟩ := h
    simp [mat, runP_length, sumO, sumN]; omega
  | c :: l, b, i, j, m, n, h => by
    obtain ⟨h1, h2⟩ := h
    have ih := mat_length h2
    rw [okC_iff] at h1
    simp only [mat, List.length_append, runP_length, sumO, sumN, List.map_cons, List.sum_cons] at *
    omega

/-! the inverse -/
def Chg.swap (c : Chg) : Chg := ⟨c.n, c.nl, c.o, c.ol⟩
def Spn.swap (c : Spn) : Spn := ⟨c.t, c.f⟩
def inv (l : List Chg) : List Chg := l.map Chg.swap
def swp (p : List Spn) : List Spn := p.map Spn.swap
theorem inv_inv (l : List Chg) : inv (inv l) = l := by
  induction l with
  | nil => rfl
  | cons c l ih => simp only [inv, List.map_cons] at *; rw [ih]; rfl
theorem swp_swp (l : List Spn) : swp (swp l) = l := by
  induction l with
  | nil => rfl
  | cons c l ih => simp only [swp, List.map_cons] at *; rw [ih]; rfl
theorem Val.inv : ∀ {l : List Chg} {b : Bool} {i j m n : Int}, Val b i j l m n → Val b j i (inv l) n m
  | [], _, _, _, _, _, h => by simp only [Ml.inv, List.map_nil, Val] at *; omega
  | c :: l, _, _, _, _, _, h => by
    refine ⟨?_, h.2.inv⟩
    have := h.1
    rw [okC_iff] at *
    simp only [Chg.swap]
    refine ⟨by omega, by omega, by omega, by omega, by omega, by omega, by omega, fun e => ?_⟩
    have := this.2.2.2.2.2.2.2 e
    omega
theorem valid_inv {l : List Chg} {m n : Int} (h : valid l m n = true) : valid (inv l) n m = true := by
  rw [valid_iff] at *
  exact ⟨h.2.1, h.1, h.2.2.inv⟩
theorem runP_swap (k : Nat) : ∀ i j : Int, swp (runP i j k) = runP j i k := by
  induction k with
  | zero => intro i j; rfl
  | succ k ih => intro i j; simp only [swp, runP, List.map_cons] at *; rw [ih]; rfl
theorem mat_inv : ∀ {l : List Chg} {b : Bool} {i j m n : Int}, Val b i j l m n → mat j i (inv l) n = swp (mat i j l m)
  | [], _, i, j, m, n, h => by
    obtain ⟨h1, h2⟩ := h
    simp only [Ml.inv, List.map_nil, mat]
    rw [runP_swap, show (n - j).toNat = (m - i).toNat by omega]
  | c :: l, _, i, j, m, n, h => by
    have ih := mat_inv h.2
    have h1 := h.1
    rw [okC_iff] at h1
    simp only [Ml.inv, List.map_cons, mat, Chg.swap] at *
    rw [swp, List.map_append]
    rw [show List.map Spn.swap (runP i j (c.o - i).toNat) = runP j i (c.o - i).toNat from runP_swap _ _ _, show (c.n - j).toNat = (c.o - i).toNat by omega]
    congr 1
theorem gap_swap (i j f t : Int) : gap j i t f = inv (gap i j f t) := by
  simp only [gap]
  by_cases h : i < f ∨ j < t
  · rw [if_pos h, if_pos (by omega)]; rfl
  · rw [if_neg h, if_neg (by omega)]; rfl
theorem made_swap : ∀ (p : List Spn) (i j m n : Int), made j i (swp p) n m = inv (made i j p m n)
  | [], _, _, _, _ => gap_swap _ _ _ _
  | x :: p, i, j, m, n => by
    have ih := made_swap p (x.f + 1) (x.t + 1) m n
    simp only [swp, List.map_cons, made, Spn.swap] at *
    rw [ih, gap_swap i j x.f x.t]
    simp [inv]
theorem Asc.swap : ∀ {p : List Spn} {i j m n : Int}, Asc i j p m n → Asc j i (swp p) n m
  | [], _, _, _, _, h => ⟨h.2, h.1⟩
  | _ :: _, _, _, _, _, h => ⟨h.2.1, h.1, h.2.2.swap⟩

/-! composition -/
def compP (p q : List Spn) : List Spn := p.flatMap fun a => (q.filter fun b => a.t == b.f).map fun b => ⟨a.f, b.t⟩
def comp (x y : List Chg) (m k n : Int) : List Chg := made 0 0 (compP (mat 0 0 x m) (mat 0 0 y k)) m n

theorem mem_compP {p q : List Spn} {s : Spn} : s ∈ compP p q ↔ ∃ a ∈ p, ∃ b ∈ q, a.t = b.f ∧ s = ⟨a.f, b.t⟩ := by
  simp only [compP, List.mem_flatMap, List.mem_map, List.mem_filter, beq_iff_eq]
  constructor
  · rintro ⟨a, ha, b, ⟨hb, he⟩, rfl⟩; exact ⟨a, ha, b, hb, he, rfl⟩
  · rintro ⟨a, ha, b, hb, he, rfl⟩; exact ⟨a, ha, b, ⟨hb, he⟩, rfl⟩

theorem flatMap_filter_map {α β : Type} (l : List α) (g : α → List β) (f : β → Bool) : (l.flatMap g).filter f = l.flatMap fun a => (g a).filter f := by
  induction l with
  | nil => rfl
  | cons a l ih => simp [List.flatMap_cons, List.filter_append, ih]

theorem compP_assoc (p q r : List Spn) : compP (compP p q) r = compP p (compP q r) := by
  induction p with
  | nil => rfl
  | cons a p ih =>
    have hc : ∀ (x : List Spn), compP (a :: p) x = ((x.filter fun b => a.t == b.f).map fun b => ⟨a.f, b.t⟩) ++ compP p x := fun x => by simp [compP]
    rw [hc q, hc (compP q r), ← ih]
    have happ : ∀ (x y : List Spn), compP (x ++ y) r = compP x r ++ compP y r := fun x y => by simp [compP]
    rw [happ]
    congr 1
    clear hc happ ih
    induction q with
    | nil => rfl
    | cons b q ih =>
      have e : compP (b :: q) r = ((r.filter fun c => b.t == c.f).map fun c => ⟨b.f, c.t⟩) ++ compP q r := by simp [compP]
      rw [e, List.filter_append, List.map_append, ← ih]
      by_cases h : a.t = b.f
      · rw [List.filter_cons_of_pos (by simpa using h)]
        simp only [List.map_cons]
        have e2 : ∀ (y : Spn) (ys : List Spn), compP (y :: ys) r = ((r.filter fun c => y.t == c.f).map fun c => ⟨y.f, c.t⟩) ++ compP ys r := fun y ys => by simp [compP]
        rw [e2]
        have hz : (List.map (fun c => (⟨b.f, c.t⟩ : Spn)) (List.filter (fun c => b.t == c.f) r)).filter (fun b => a.t == b.f) = List.map (fun c => (⟨b.f, c.t⟩ : Spn)) (List.filter (fun c => b.t == c.f) r) := by
          rw [List.filter_eq_self]
          intro s hs
          simp only [List.mem_map] at hs
          obtain ⟨c, _, rfl⟩ := hs
          simpa using h
        rw [hz, List.map_map]
        rfl
      · rw [List.filter_cons_of_neg (by simpa using h)]
        have hz : (List.map (fun c => (⟨b.f, c.t⟩ : Spn)) (List.filter (fun c => b.t == c.f) r)).filter (fun b => a.t == b.f) = [] := by
          rw [List.filter_eq_nil_iff]
          intro s hs
          simp only [List.mem_map] at hs
          obtain ⟨c, _, rfl⟩ := hs
          simpa using h
        rw [hz]
        simp

theorem Asc.mem : ∀ {p : List Spn} {i j m n : Int}, Asc i j p m n → ∀ s ∈ p, i ≤ s.f ∧ s.f < m ∧ j ≤ s.t ∧ s.t < n
  | [], _, _, _, _, _, s, hs => by cases hs
  | x :: p, i, j, m, n, h, s, hs => by
    obtain ⟨h1, h2, h3⟩ := h
    have := h3.le
    rcases List.mem_cons.1 hs with rfl | hs
    · omega
    · have := h3.mem s hs
      omega

/-- Two ascending lists with the same members are one. -/
theorem Asc.ext : ∀ {p q : List Spn} {i j m n i' j' m' n' : Int}, Asc i j p m n → Asc i' j' q m' n' → (∀ s, s ∈ p ↔ s ∈ q) → p = q
  | [], [], _, _, _, _, _, _, _, _, _, _, _ => rfl
  | [], y :: _, _, _, _, _, _, _, _, _, _, _, h => by have := (h y).2 (by simp); cases this
  | x :: _, [], _, _, _, _, _, _, _, _, _, _, h => by have := (h x).1 (by simp); cases this
  | x :: p, y :: q, i, j, m, n, i', j', m', n', hp, hq, h => by
    have hp3 := hp.2.2
    have hq3 := hq.2.2
    have hxy : x = y := by
      rcases List.mem_cons.1 ((h x).1 (by simp)) with e | hx
      · exact e
      · rcases List.mem_cons.1 ((h y).2 (by simp)) with e | hy
        · exact e.symm
        · have a := hq3.mem x hx
          have b := hp3.mem y hy
          omega
    subst hxy
    congr 1
    refine Asc.ext hp3 hq3 fun s => ?_
    constructor
    · intro hs
      rcases List.mem_cons.1 ((h s).1 (by simp [hs])) with e | h'
      · subst e; have := hp3.mem s hs; omega
      · exact h'
    · intro hs
      rcases List.mem_cons.1 ((h s).2 (by simp [hs])) with e | h'
      · subst e; have := hq3.mem s hs; omega
      · exact h'

theorem Asc.filter_le_one : ∀ {q : List Spn} {i j m n : Int} (v : Int), Asc i j q m n → (q.filter fun b => v == b.f) = [] ∨ ∃ b, b ∈ q ∧ v = b.f ∧ (q.filter fun b => v == b.f) = [b]
  | [], _, _, _, _, _, _ => .inl rfl
  | y :: q, i, j, m, n, v, h => by
    have h3 := h.2.2
    by_cases hv : v = y.f
    · refine .inr ⟨y, by simp, hv, ?_⟩
      rw [List.filter_cons_of_pos (by simpa using hv), List.filter_eq_nil_iff.2]
      intro s hs
      have := h3.mem s hs
      simp; omega
    · rw [List.filter_cons_of_neg (by simpa using hv)]
      rcases filter_le_one v h3 with e | ⟨b, hb, e, h'⟩
      · exact .inl e
      · exact .inr ⟨b, by simp [hb], e, h'⟩

theorem Asc.compP : ∀ {p q : List Spn} {i j m k n i' j' : Int}, Asc i j p m k → Asc i' j' q k n → i' ≤ j → Asc i j' (Ml.compP p q) m n
  | [], q, i, j, m, k, n, i', j', hp, hq, hij => by
    have := hq.le
    exact ⟨hp.1, this.2⟩
  | x :: p, q, i, j, m, k, n, i', j', hp, hq, hij => by
    obtain ⟨h1, h2, h3⟩ := hp
    have hc : Ml.compP (x :: p) q = ((q.filter fun b => x.t == b.f).map fun b => ⟨x.f, b.t⟩) ++ Ml.compP p q := by simp [Ml.compP]
    rw [hc]
    rcases hq.filter_le_one x.t with e | ⟨b, hb, e, h'⟩
    · rw [e]
      exact (Asc.compP h3 hq (by omega)).mono (by omega) (Int.le_refl _)
    · rw [h']
      have hbm := hq.mem b hb
      refine ⟨h1, by simp only []; omega, ?_⟩
      simp only []
      have : ∃ q1 q2, q = q1 ++ b :: q2 := List.append_of_mem hb
      obtain ⟨q1, q2, rfl⟩ := this
      have hq2 : ∀ (q1 : List Spn) (i' j' : Int), Asc i' j' (q1 ++ b :: q2) k n → Asc (b.f + 1) (b.t + 1) q2 k n ∧ ∀ s ∈ q1, s.f < b.f + 1 := by
        intro q1
        induction q1 with
        | nil => intro i' j' h; exact ⟨h.2.2, fun s hs => by cases hs⟩
        | cons z q1 ih =>
          intro i' j' h
          obtain ⟨a1, a2⟩ := ih _ _ h.2.2
          have := Asc.mem h.2.2 b (by simp)
          refine ⟨a1, fun s hs => ?_⟩
          rcases List.mem_cons.1 hs with rfl | hs
          · omega
          · exact a2 s hs
      obtain ⟨hA, hB⟩ := hq2 q1 i' j' hq
      have hpm := h3.mem
      have heq : Ml.compP p (q1 ++ b :: q2) = Ml.compP p q2 := by
        simp only [Ml.compP]
        have : ∀ a ∈ p, (List.map (fun b => (⟨a.f, b.t⟩ : Spn)) (List.filter (fun b => a.t == b.f) (q1 ++ b :: q2))) = (List.map (fun b => (⟨a.f, b.t⟩ : Spn)) (List.filter (fun b => a.t == b.f) q2)) := by
          intro a ha
          have := hpm a ha
          have hz : q1.filter (fun b => a.t == b.f) = [] := by
            rw [List.filter_eq_nil_iff]
            intro s hs
            have := hB s hs
            simp; omega
          rw [List.filter_append, hz, List.nil_append, List.filter_cons_of_neg]
          simp; omega
        clear hA hB hq2 hpm h' hc h3
        induction p with
        | nil => rfl
        | cons a p ih =>
          rw [List.flatMap_cons, List.flatMap_cons, this a (by simp), ih (fun a ha => this a (by simp [ha]))]
      rw [heq]
      exact Asc.compP h3 hA (by omega)

theorem swp_mem {p : List Spn} {s : Spn} : s ∈ swp p ↔ s.swap ∈ p := by
  simp only [swp, List.mem_map]
  constructor
  · rintro ⟨a, ha, rfl⟩; exact ha
  · intro h; exact ⟨s.swap, h, rfl⟩

theorem swp_compP {p q : List Spn} {m k n : Int} (hp : Asc 0 0 p m k) (hq : Asc 0 0 q k n) : swp (compP p q) = compP (swp q) (swp p) := by
  refine Asc.ext (hp.compP hq (Int.le_refl _)).swap (hq.swap.compP hp.swap (Int.le_refl _)) fun s => ?_
  rw [swp_mem, mem_compP, mem_compP]
  constructor
  · rintro ⟨a, ha, b, hb, e, hs⟩
    refine ⟨b.swap, by rw [swp_mem]; exact hb, a.swap, by rw [swp_mem]; exact ha, e.symm, ?_⟩
    cases s; simp only [Spn.swap, Spn.mk.injEq] at hs ⊢; exact ⟨hs.2, hs.1⟩
  · rintro ⟨b, hb, a, ha, e, hs⟩
    refine ⟨a.swap, swp_mem.1 ha, b.swap, swp_mem.1 hb, e.symm, ?_⟩
    subst hs; rfl

theorem runP_mem {s : Spn} (k : Nat) : ∀ i j : Int, s ∈ runP i j k ↔ i ≤ s.f ∧ s.f < i + k ∧ s.t - j = s.f - i := by
  induction k with
  | zero => intro i j; simp [runP]; omega
  | succ k ih =>
    intro i j
    rw [runP, List.mem_cons, ih]
    cases s with | mk f t =>
    simp only [Spn.mk.injEq]
    omega

theorem compP_id_left {q : List Spn} {m n : Int} (h : Asc 0 0 q m n) : compP (mat 0 0 [] m) q = q := by
  have hm := h.le
  have ha : Asc 0 0 (mat 0 0 [] m) m m := Val.asc (b := true) (l := []) ⟨rfl, hm.1⟩
  refine Asc.ext (ha.compP h (Int.le_refl _)) h fun s => ?_
  rw [mem_compP]
  simp only [mat, runP_mem]
  constructor
  · rintro ⟨a, ha, b, hb, e, rfl⟩
    have : (⟨a.f, b.t⟩ : Spn) = b := by cases b; simp only [Spn.mk.injEq, and_true] at *; omega
    rw [this]; exact hb
  · intro hs
    have := h.mem s hs
    refine ⟨⟨s.f, s.f⟩, ?_, s, hs, rfl, rfl⟩
    show 0 ≤ s.f ∧ s.f < 0 + ((m - 0).toNat : Int) ∧ s.f - 0 = s.f - 0
    omega

theorem compP_id_right {p : List Spn} {m n : Int} (h : Asc 0 0 p m n) : compP p (mat 0 0 [] n) = p := by
  have hm := h.le
  have ha : Asc 0 0 (mat 0 0 [] n) n n := Val.asc (b := true) (l := []) ⟨rfl, hm.2⟩
  refine Asc.ext (h.compP ha (Int.le_refl _)) h fun s => ?_
  rw [mem_compP]
  simp only [mat, runP_mem]
  constructor
  · rintro ⟨a, ha, b, hb, e, rfl⟩
    have : (⟨a.f, b.t⟩ : Spn) = a := by cases a; simp only [Spn.mk.injEq, true_and] at *; omega
    rw [this]; exact ha
  · intro hs
    have := h.mem s hs
    refine ⟨s, hs, ⟨s.t, s.t⟩, ?_, rfl, rfl⟩
    show 0 ≤ s.t ∧ s.t < 0 + ((n - 0).toNat : Int) ∧ s.t - 0 = s.t - 0
    omega

theorem valid_val {l : List Chg} {m n : Int} (h : valid l m n = true) : Val true 0 0 l m n := (valid_iff.1 h).2.2
theorem mat_asc {l : List Chg} {m n : Int} (h : valid l m n = true) : Asc 0 0 (mat 0 0 l m) m n := (valid_val h).asc

theorem comp_valid {x y : List Chg} {m k n : Int} (hx : valid x m k = true) (hy : valid y k n = true) : valid (comp x y m k n) m n = true :=
  made_valid ((mat_asc hx).compP (mat_asc hy) (Int.le_refl _)) (valid_iff.1 hx).1.2 (valid_iff.1 hy).2.1.2

theorem mat_comp {x y : List Chg} {m k n : Int} (hx : valid x m k = true) (hy : valid y k n = true) : mat 0 0 (comp x y m k n) m = compP (mat 0 0 x m) (mat 0 0 y k) :=
  mat_made ((mat_asc hx).compP (mat_asc hy) (Int.le_refl _))

theorem comp_assoc {x y z : List Chg} {a b c d : Int} (hx : valid x a b = true) (hy : valid y b c = true) (hz : valid z c d = true) :
    comp (comp x y a b c) z a c d = comp x (comp y z b c d) a b d := by
  unfold comp
  have h1 := mat_comp hx hy
  have h2 := mat_comp hy hz
  unfold comp at h1 h2
  rw [h1, h2, compP_assoc]

theorem comp_nil_left {x : List Chg} {a b : Int} (hx : valid x a b = true) : comp [] x a a b = x := by
  unfold comp
  rw [compP_id_left (mat_asc hx), made_mat (valid_val hx)]

theorem comp_nil_right {x : List Chg} {a b : Int} (hx : valid x a b = true) : comp x [] a b b = x := by
  unfold comp
  rw [compP_id_right (mat_asc hx), made_mat (valid_val hx)]

theorem nil_valid {m : Int} (h0 : 0 ≤ m) (h1 : m ≤ 4096) : valid [] m m = true := valid_iff.2 ⟨⟨h0, h1⟩, ⟨h0, h1⟩, rfl, h0⟩

theorem comp_inv {x y : List Chg} {a b c : Int} (hx : valid x a b = true) (hy : valid y b c = true) : comp (inv y) (inv x) c b a = inv (comp x y a b c) := by
  unfold comp
  rw [mat_inv (valid_val hx), mat_inv (valid_val hy), ← swp_compP (mat_asc hx) (mat_asc hy), made_swap]

theorem Asc.snoc : ∀ {p : List Spn} {i j I J : Int}, Asc i j p I J → Asc i j (p ++ [⟨I, J⟩]) (I + 1) (J + 1)
  | [], i, j, I, J, h => ⟨h.1, h.2, Int.le_refl _, Int.le_refl _⟩
  | _ :: _, _, _, _, _, h => ⟨h.1, h.2.1, h.2.2.snoc⟩
theorem Asc.up : ∀ {p : List Spn} {i j m n m' n' : Int}, Asc i j p m n → m ≤ m' → n ≤ n' → Asc i j p m' n'
  | [], _, _, _, _, _, _, h, h1, h2 => ⟨Int.le_trans h.1 h1, Int.le_trans h.2 h2⟩
  | _ :: _, _, _, _, _, _, _, h, h1, h2 => ⟨h.1, h.2.1, h.2.2.up h1 h2⟩
theorem Asc.length : ∀ {p : List Spn} {i j m n : Int}, Asc i j p m n → (p.length : Int) ≤ m - i ∧ (p.length : Int) ≤ n - j
  | [], _, _, _, _, h => by simp only [Asc] at h; simp; omega
  | x :: p, _, _, _, _, h => by
    obtain ⟨h1, h2, h3⟩ := h
    have := h3.length
    simp only [List.length_cons]
    omega
theorem Val.length : ∀ {l : List Chg} {b : Bool} {i j m n : Int}, Val b i j l m n → (l.length : Int) ≤ (m - i) + (n - j)
  | [], _, _, _, _, _, h => by simp only [Val] at h; simp; omega
  | c :: l, _, _, _, _, _, h => by
    have h1 := h.1
    rw [okC_iff] at h1
    have := h.2.length
    simp only [List.length_cons]
    omega
structure Hnk where
  fi : Int
  la : Int
  off : Int
  ot : Int
  nf : Int
  nt : Int
deriving DecidableEq

/-- The hunk of the changes 'first' to 'last - 1', of which a is the first and z the last one. -/
def close (m ctx : Int) (first last : Int) (a z : Chg) : Hnk :=
  ⟨first, last, a.o - min ctx a.o, z.o + z.ol + min ctx (m - z.o - z.ol), a.n - min ctx a.o, z.n + z.nl + min ctx (m - z.o - z.ol)⟩

/-- The hunks from an open one on: it begins with change number 'first', a; the change before number k is z. -/
def hunksGo (m ctx : Int) : Int → Int → Chg → Chg → List Chg → List Hnk
  | k, first, a, z, [] => [close m ctx first k a z]
  | k, first, a, z, c :: l => if 2 * ctx < c.o - z.o - z.ol then close m ctx first k a z :: hunksGo m ctx (k + 1) k c c l else hunksGo m ctx (k + 1) first a c l
def hunksFrom (m ctx : Int) (k : Int) : List Chg → List Hnk
  | [] => []
  | c :: l => hunksGo m ctx (k + 1) k c c l
def hunks (l : List Chg) (m ctx : Int) : List Hnk := hunksFrom m ctx 0 l

def covers (i : Int) (h : Hnk) : Bool := decide (h.off ≤ i) && decide (i < h.ot)
/-- Which old lines lie in a hunk. -/
def cov (h : List Hnk) (m : Nat) : List Bool := (List.range m).map fun (i : Nat) => h.any (covers (i : Int))

def near (ctx i : Int) (c : Chg) : Bool := decide (c.o - ctx ≤ i) && decide (i < c.o + c.ol + ctx)

theorem covers_iff {i : Int} {h : Hnk} : covers i h = true ↔ h.off ≤ i ∧ i < h.ot := by simp [covers]
theorem near_iff {ctx i : Int} {c : Chg} : near ctx i c = true ↔ c.o - ctx ≤ i ∧ i < c.o + c.ol + ctx := by simp [near]

theorem hunksGo_covers (m ctx : Int) (h0 : 0 ≤ ctx) (i : Int) (hi0 : 0 ≤ i) (him : i < m) : ∀ (l : List Chg) (k first : Int) (a z : Chg) (n : Int), a.o ≤ z.o + z.ol → Val false (z.o + z.ol) (z.n + z.nl) l m n →
    ((hunksGo m ctx k first a z l).any (covers i) = true ↔ (a.o - ctx ≤ i ∧ i < z.o + z.ol + ctx) ∨ ∃ c ∈ l, near ctx i c = true)
  | [], k, first, a, z, n, hao, hv => by
    obtain ⟨h1, h2⟩ := hv
    simp [hunksGo, covers, close]
    omega
  | c :: l, k, first, a, z, n, hao, hv => by
    obtain ⟨h1, h2⟩ := hv
    rw [okC_iff] at h1
    have hc := h1.2.2.2.2.2.2.2 rfl
    have hle := h2.le
    have hY : (∃ c' ∈ c :: l, near ctx i c' = true) ↔ near ctx i c = true ∨ ∃ c' ∈ l, near ctx i c' = true := by simp
    simp only [hunksGo]
    split
    · rw [List.any_cons, Bool.or_eq_true, hunksGo_covers m ctx h0 i hi0 him l _ _ c c n (by omega) h2, hY, ← or_assoc, ← or_assoc]
      refine or_congr_left ?_
      rw [covers_iff, near_iff]
      simp only [close]
      omega
    · rw [hunksGo_covers m ctx h0 i hi0 him l _ _ a c n (by omega) h2, hY, ← or_assoc]
      refine or_congr_left ?_
      simp [near]
      omega

theorem hunks_covers {l : List Chg} {m n ctx : Int} (h : valid l m n = true) (h0 : 0 ≤ ctx) {i : Int} (hi0 : 0 ≤ i) (him : i < m) : ((hunks l m ctx).any (covers i) = true ↔ ∃ c ∈ l, near ctx i c = true) := by
  cases l with
  | nil => simp [hunks, hunksFrom]
  | cons c l =>
    have hv := valid_val h
    rw [hunks, hunksFrom, hunksGo_covers m ctx h0 i hi0 him l _ _ c c n (by have := hv.1; rw [okC_iff] at this; omega) hv.2]
    simp [near]

/-- More context: no more hunks. -/
theorem hunksGo_length (m ctx d : Int) (hd : 0 ≤ d) : ∀ (l : List Chg) (k first k' first' : Int) (a a' z : Chg), (hunksGo m (ctx + d) k first a z l).length ≤ (hunksGo m ctx k' first' a' z l).length
  | [], _, _, _, _, _, _, _ => by simp [hunksGo]
  | c :: l, k, first, k', first', a, a', z => by
    simp only [hunksGo]
    split
    · rw [if_pos (by omega)]
      simp only [List.length_cons]
      have := hunksGo_length m ctx d hd l (k + 1) k (k' + 1) k' c c c
      omega
    · split
      · simp only [List.length_cons]
        have := hunksGo_length m ctx d hd l (k + 1) first (k' + 1) k' a c c
        omega
      · exact hunksGo_length m ctx d hd l _ _ _ _ _ _ _
theorem hunks_length {l : List Chg} {m ctx d : Int} (hd : 0 ≤ d) : (hunks l m (ctx + d)).length ≤ (hunks l m ctx).length := by
  cases l with
  | nil => simp [hunks, hunksFrom]
  | cons c l => exact hunksGo_length m ctx d hd l _ _ _ _ _ _ _

/-- Much context: one hunk. -/
theorem hunksGo_much (m ctx : Int) (hm : m ≤ ctx) (h0 : 0 ≤ ctx) : ∀ (l : List Chg) (k first : Int) (a z : Chg) (n : Int), 0 ≤ z.o + z.ol → 0 ≤ a.o → a.o ≤ m → Val false (z.o + z.ol) (z.n + z.nl) l m n →
    ∃ la, hunksGo m ctx k first a z l = [⟨first, la, 0, m, a.n - a.o, n⟩]
  | [], k, first, a, z, n, hz, ha, ham, hv => by
    obtain ⟨h1, h2⟩ := hv
    refine ⟨k, ?_⟩
    simp only [hunksGo, close, List.cons.injEq, Hnk.mk.injEq, and_true, true_and]
    omega
  | c :: l, k, first, a, z, n, hz, ha, ham, hv => by
    obtain ⟨h1, h2⟩ := hv
    rw [okC_iff] at h1
    have := h2.le
    simp only [hunksGo]
    rw [if_neg (by omega)]
    exact hunksGo_much m ctx hm h0 l _ _ a c n (by omega) ha ham h2

theorem hunks_much {l : List Chg} {m n ctx : Int} (h : valid l m n = true) (hm : 4096 ≤ ctx) : hunks l m ctx = [] ∧ l = [] ∨ l ≠ [] ∧ ∃ la, hunks l m ctx = [⟨0, la, 0, m, 0, n⟩] := by
  cases l with
  | nil => exact .inl ⟨rfl, rfl⟩
  | cons c l =>
    refine .inr ⟨by simp, ?_⟩
    have hv := valid_iff.1 h
    have h1 := hv.2.2.1
    have h2 := hv.2.2.2
    rw [okC_iff] at h1
    have := h2.le
    obtain ⟨la, e⟩ := hunksGo_much m ctx (by omega) (by omega) l (0 + 1) 0 c c n (by omega) (by omega) (by omega) h2
    refine ⟨la, ?_⟩
    rw [hunks, hunksFrom, e, show c.n - c.o = 0 by omega]

/-- What HunkApart says of the hunks behind 'at', the ends of the hunk before being eo, en (none before: b). -/
def Apart (s : List Chg) (m n : Int) : Bool → Int → Int → Int → List Hnk → Prop
  | _, at_, _, _, [] => at_ = s.length
  | b, at_, eo, en, h :: r =>
    h.fi = at_ ∧ h.fi < h.la ∧ h.la ≤ s.length ∧ 0 ≤ h.off ∧ h.ot ≤ m ∧ 0 ≤ h.nf ∧ h.nt ≤ n ∧ (b = false → eo < h.off ∧ h.nf - en = h.off - eo) ∧
      h.ot - h.off - sumO ((s.drop h.fi.toNat).take (h.la - h.fi).toNat) = h.nt - h.nf - sumN ((s.drop h.fi.toNat).take (h.la - h.fi).toNat) ∧ Apart s m n false h.la h.ot h.nt r

theorem sumO_append (x y : List Chg) : sumO (x ++ y) = sumO x + sumO y := by simp [sumO]
theorem sumN_append (x y : List Chg) : sumN (x ++ y) = sumN x + sumN y := by simp [sumN]

theorem hunksGo_apart (s : List Chg) (m n ctx : Int) (h0 : 0 ≤ ctx) : ∀ (l : List Chg) (pre cur : List Chg) (a z : Chg) (b : Bool) (eo en : Int) (k first : Int),
    s = pre ++ cur ++ l → first = pre.length → k = (pre ++ cur).length → cur ≠ [] → 0 ≤ a.o → a.n - a.o + min 0 0 = a.n - a.o →
    z.o + z.ol - a.o - sumO cur = z.n + z.nl - a.n - sumN cur → a.o ≤ z.o + z.ol → a.n ≤ z.n + z.nl → min ctx a.o ≤ a.n →
    (b = false → eo < a.o - min ctx a.o ∧ a.n - min ctx a.o - en = a.o - min ctx a.o - eo) →
    Val false (z.o + z.ol) (z.n + z.nl) l m n → Apart s m n b first eo en (hunksGo m ctx k first a z l)
  | [], pre, cur, a, z, b, eo, en, k, first, hs, hf, hk, hc, ha, _, hsum, hao, han, hmin, hb, hv => by
    obtain ⟨h1, h2⟩ := hv
    have hcl : 0 < cur.length := List.length_pos_iff.2 hc
    have hlen : s.length = pre.length + cur.length := by rw [hs]; simp
    have hseg : (s.drop first.toNat).take (k - first).toNat = cur := by
      rw [hs, hf, hk, show (((pre ++ cur).length : Int) - (pre.length : Int)).toNat = cur.length by simp only [List.length_append]; omega]; simp
    simp only [hunksGo, Apart, close]
    rw [hseg]
    simp only [List.length_append] at hk
    refine ⟨trivial, by omega, by omega, by omega, by omega, by omega, by omega, hb, by omega, by omega⟩
  | c :: l, pre, cur, a, z, b, eo, en, k, first, hs, hf, hk, hc, ha, hx, hsum, hao, han, hmin, hb, hv => by
    obtain ⟨h1, h2⟩ := hv
    rw [okC_iff] at h1
    have hcc := h1.2.2.2.2.2.2.2 rfl
    have hle := h2.le
    have hcl : 0 < cur.length := List.length_pos_iff.2 hc
    have hlen : s.length = pre.length + cur.length + (l.length + 1) := by rw [hs]; simp; omega
    have hseg : (s.drop first.toNat).take (k - first).toNat = cur := by
      rw [hs, hf, hk, show (((pre ++ cur).length : Int) - (pre.length : Int)).toNat = cur.length by simp only [List.length_append]; omega]; simp
    simp only [hunksGo]
    split
    · rename_i hgap
      simp only [Apart, close]
      rw [hseg]
      have hk2 := hk
      simp only [List.length_append] at hk2
      refine ⟨trivial, by omega, by omega, by omega, by omega, by omega, by omega, hb, by omega, ?_⟩
      refine hunksGo_apart s m n ctx h0 l (pre ++ cur) [c] c c false _ _ (k + 1) k (by rw [hs]; simp) hk (by rw [hk]; simp; omega) (by simp) (by omega) (by omega) (by simp [sumO, sumN]; omega) (by omega) (by omega) (by omega) (fun _ => ?_) h2
      constructor <;> omega
    · have e1 := sumO_append cur [c]
      have e2 := sumN_append cur [c]
      have e3 : sumO [c] = c.ol := by simp [sumO]
      have e4 : sumN [c] = c.nl := by simp [sumN]
      refine hunksGo_apart s m n ctx h0 l pre (cur ++ [c]) a c b eo en (k + 1) first (by rw [hs]; simp) hf (by rw [hk]; simp; omega) (by simp) ha hx (by omega) (by omega) (by omega) hmin hb h2

theorem hunks_apart {l : List Chg} {m n ctx : Int} (h : valid l m n = true) (h0 : 0 ≤ ctx) : Apart l m n true 0 0 0 (hunks l m ctx) := by
  cases l with
  | nil => simp [hunks, hunksFrom, Apart]
  | cons c l =>
    have hv := valid_iff.1 h
    have h1 := hv.2.2.1
    rw [okC_iff] at h1
    have := hv.2.2.2.le
    exact hunksGo_apart (c :: l) m n ctx h0 l [] [c] c c true 0 0 1 0 (by simp) (by simp) (by simp) (by simp) (by omega) (by omega) (by simp [sumO, sumN]; omega) (by omega) (by omega) (by omega) (fun e => by cases e) hv.2.2.2
/-! track -/
def part (p : List Spn) (j : Int) : Int := match p.find? (fun s => s.t == j) with | some s => s.f | none => -1
def parts (p : List Spn) (f : Int) (k : Nat) : List Int := (List.range k).map fun (x : Nat) => part p (f + x)
def bkStep (x : Spn × Bool) (i : Int) : Spn × Bool := if i < 0 then x else (⟨if x.2 then x.1.f else i, i + 1⟩, true)
def bk (l : List Int) : Spn × Bool := l.foldl bkStep (⟨0, 0⟩, false)
/-- Is the range touched? a: the partner before, none at the first line. -/
def tchGo : Option Int → List Int → Bool
  | _, [] => false
  | a, i :: l => decide (i < 0) || (match a with | none => false | some x => !(i == x + 1)) || tchGo (some i) l
def tch (l : List Int) : Bool := tchGo none l

def hull (a b : Spn) : Spn :=
  if a.t ≤ a.f ∧ b.t ≤ b.f then ⟨0, 0⟩ else if a.t ≤ a.f then b else if b.t ≤ b.f then a else ⟨min a.f b.f, max a.t b.t⟩

theorem hull_comm (a b : Spn) : hull a b = hull b a := by
  unfold hull
  by_cases h1 : a.t ≤ a.f <;> by_cases h2 : b.t ≤ b.f <;> simp [h1, h2]
  omega
theorem spn_ext {a b : Spn} (h : a.f = b.f) (h' : a.t = b.t) : a = b := by cases a; cases b; simp_all
theorem hull_f (a b : Spn) : (hull a b).f = if a.t ≤ a.f ∧ b.t ≤ b.f then 0 else if a.t ≤ a.f then b.f else if b.t ≤ b.f then a.f else min a.f b.f := by unfold hull; split <;> (try rfl); split <;> (try rfl); split <;> rfl
theorem hull_t (a b : Spn) : (hull a b).t = if a.t ≤ a.f ∧ b.t ≤ b.f then 0 else if a.t ≤ a.f then b.t else if b.t ≤ b.f then a.t else max a.t b.t := by unfold hull; split <;> (try rfl); split <;> (try rfl); split <;> rfl
theorem hull_assoc (a b c : Spn) : hull (hull a b) c = hull a (hull b c) := by
  apply spn_ext
  · rw [hull_f, hull_f a, hull_t, hull_f, hull_t, hull_f]
    by_cases h1 : a.t ≤ a.f <;> by_cases h2 : b.t ≤ b.f <;> by_cases h3 : c.t ≤ c.f <;> simp [h1, h2, h3] <;> omega
  · rw [hull_t, hull_t a, hull_t, hull_f, hull_t, hull_f]
    by_cases h1 : a.t ≤ a.f <;> by_cases h2 : b.t ≤ b.f <;> by_cases h3 : c.t ≤ c.f <;> simp [h1, h2, h3] <;> omega
theorem hull_contains (a b : Spn) (h : a.f < a.t) : (hull a b).f ≤ a.f ∧ a.t ≤ (hull a b).t := by
  rw [hull_f, hull_t]
  by_cases h2 : b.t ≤ b.f <;> simp [h2] <;> omega

theorem Asc.lt : ∀ {p : List Spn} {i j m n : Int}, Asc i j p m n → ∀ s ∈ p, ∀ u ∈ p, s.t < u.t → s.f < u.f
  | x :: p, i, j, m, n, h, s, hs, u, hu, hlt => by
    have h3 := h.2.2
    rcases List.mem_cons.1 hs with rfl | hs'
    · rcases List.mem_cons.1 hu with rfl | hu'
      · omega
      · have := h3.mem u hu'; omega
    · rcases List.mem_cons.1 hu with rfl | hu'
      · have := h3.mem s hs'; omega
      · exact h3.lt s hs' u hu' hlt
theorem Asc.inj {p : List Spn} {i j m n : Int} : Asc i j p m n → ∀ s ∈ p, ∀ u ∈ p, s.t = u.t → s = u := by
  induction p generalizing i j with
  | nil => intro _ s hs; cases hs
  | cons x p ih =>
    intro h s hs u hu he
    have h3 := h.2.2
    rcases List.mem_cons.1 hs with rfl | hs'
    · rcases List.mem_cons.1 hu with rfl | hu'
      · rfl
      · have := h3.mem u hu'; omega
    · rcases List.mem_cons.1 hu with rfl | hu'
      · have := h3.mem s hs'; omega
      · exact ih h3 s hs' u hu' he

theorem part_of_mem {p : List Spn} {i j m n : Int} (h : Asc i j p m n) {s : Spn} (hs : s ∈ p) : part p s.t = s.f := by
  unfold part
  cases hf : p.find? (fun x => x.t == s.t) with
  | none =>
    have := List.find?_eq_none.1 hf s hs
    simp at this
  | some u =>
    have h1 := List.mem_of_find?_eq_some hf
    have h2 := List.find?_some hf
    simp only [beq_iff_eq] at h2
    rw [h.inj u h1 s hs h2]
theorem part_neg {p : List Spn} {j : Int} (h : ∀ s ∈ p, s.t ≠ j) : part p j = -1 := by
  unfold part
  rw [List.find?_eq_none.2]
  intro s hs
  simpa using h s hs
theorem part_cases {p : List Spn} {i0 j0 m n : Int} (h : Asc i0 j0 p m n) (j : Int) : (part p j = -1 ∧ ∀ s ∈ p, s.t ≠ j) ∨ (⟨part p j, j⟩ : Spn) ∈ p := by
  by_cases hx : ∃ s ∈ p, s.t = j
  · obtain ⟨s, hs, rfl⟩ := hx
    right
    rw [part_of_mem h hs]; exact hs
  · left
    have : ∀ s ∈ p, s.t ≠ j := fun s hs he => hx ⟨s, hs, he⟩
    exact ⟨part_neg this, this⟩

structure BackIs (p : List Spn) (f t : Int) (o : Spn) (b : Bool) : Prop where
  none : b = false → o = ⟨0, 0⟩ ∧ ∀ s ∈ p, ¬ (f ≤ s.t ∧ s.t < t)
  all : ∀ s ∈ p, f ≤ s.t → s.t < t → o.f ≤ s.f ∧ s.f < o.t
  first : b = true → ∃ s ∈ p, f ≤ s.t ∧ s.t < t ∧ s.f = o.f
  last : b = true → ∃ s ∈ p, f ≤ s.t ∧ s.t < t ∧ s.f = o.t - 1

theorem parts_succ (p : List Spn) (f : Int) (k : Nat) : parts p f (k + 1) = parts p f k ++ [part p (f + k)] := by
  simp [parts, List.range_succ]
theorem bk_snoc (l : List Int) (i : Int) : bk (l ++ [i]) = bkStep (bk l) i := by simp [bk]

theorem back_is {p : List Spn} {i0 j0 m n : Int} (h : Asc i0 j0 p m n) (hi0 : 0 ≤ i0) (f : Int) : ∀ k : Nat, BackIs p f (f + k) (bk (parts p f k)).1 (bk (parts p f k)).2
  | 0 => by
    simp only [parts, List.range_zero, List.map_nil, bk, List.foldl_nil]
    exact ⟨fun _ => ⟨rfl, fun s _ hh => by omega⟩, fun s _ h1 h2 => by omega, (fun e => by cases e), (fun e => by cases e)⟩
  | k + 1 => by
    have ih := back_is h hi0 f k
    rw [parts_succ, bk_snoc]
    generalize bk (parts p f k) = x at ih
    obtain ⟨o, b⟩ := x
    simp only at ih
    rcases part_cases h (f + k) with ⟨hp, hno⟩ | hmem
    · simp only [bkStep, hp]
      rw [if_pos (by omega)]
      have key : ∀ s ∈ p, s.t < f + ((k + 1 : Nat) : Int) → s.t < f + (k : Int) := fun s hs hh => by have := hno s hs; omega
      refine ⟨fun e => ?_, fun s hs h1 h2 => ih.all s hs h1 (key s hs h2), fun e => ?_, fun e => ?_⟩
      · obtain ⟨h1, h2⟩ := ih.none e
        exact ⟨h1, fun s hs hh => h2 s hs ⟨hh.1, key s hs hh.2⟩⟩
      · obtain ⟨s, hs, h1, h2, h3⟩ := ih.first e
        exact ⟨s, hs, h1, by omega, h3⟩
      · obtain ⟨s, hs, h1, h2, h3⟩ := ih.last e
        exact ⟨s, hs, h1, by omega, h3⟩
    · have hm := h.mem _ hmem
      simp only at hm
      simp only [bkStep]
      rw [if_neg (by omega)]
      have hlt : ∀ s ∈ p, s.t < f + (k : Int) → s.f < part p (f + k) := fun s hs hh => h.lt s hs _ hmem hh
      have hinj : ∀ s ∈ p, s.t = f + (k : Int) → s.f = part p (f + k) := fun s hs hh => by rw [h.inj s hs _ hmem hh]
      refine ⟨(fun e => by cases e), fun s hs h1 h2 => ?_, fun _ => ?_, fun _ => ⟨_, hmem, by simp only []; omega, by simp only []; omega, by simp only []; omega⟩⟩
      · by_cases he : s.t = f + (k : Int)
        · have := hinj s hs he
          cases b with
          | true =>
            obtain ⟨u, hu, h3, h4, h5⟩ := ih.first rfl
            have := hlt u hu h4
            simp; omega
          | false => simp; omega
        · have h4 : s.t < f + (k : Int) := by omega
          have h5 := hlt s hs h4
          cases b with
          | true =>
            have := ih.all s hs h1 h4
            simp; omega
          | false => exact absurd ⟨h1, h4⟩ ((ih.none rfl).2 s hs)
      · cases b with
        | true =>
          obtain ⟨u, hu, h3, h4, h5⟩ := ih.first rfl
          exact ⟨u, hu, h3, by omega, by simpa using h5⟩
        | false => exact ⟨_, hmem, by simp only []; omega, by simp only []; omega, by simp⟩

/-- TrackGrows, the spans. -/
theorem BackIs.grows {p : List Spn} {f t f' t' : Int} {o o' : Spn} {b b' : Bool} (h : BackIs p f t o b) (h' : BackIs p f' t' o' b') (h1 : f' ≤ f) (h2 : t ≤ t') (hb : b = true) : b' = true ∧ o'.f ≤ o.f ∧ o.t ≤ o'.t := by
  obtain ⟨s, hs, a1, a2, a3⟩ := h.first hb
  obtain ⟨u, hu, b1, b2, b3⟩ := h.last hb
  have hs' := h'.all s hs (by omega) (by omega)
  have hu' := h'.all u hu (by omega) (by omega)
  refine ⟨?_, by omega, by omega⟩
  cases b' with
  | true => rfl
  | false => exact absurd ⟨by omega, by omega⟩ ((h'.none rfl).2 s hs)

/-- Untouched: the lines have partners one behind the other. -/
theorem tchGo_some (p : List Spn) : ∀ (k : Nat) (f a : Int), 0 ≤ a + 1 → (tchGo (some a) (parts p f k) = false ↔ ∀ x : Nat, x < k → part p (f + x) = a + 1 + x)
  | 0, f, a, _ => by simp [parts, tchGo]
  | k + 1, f, a, ha => by
    have hc : parts p f (k + 1) = part p f :: parts p (f + 1) k := by
      simp only [parts, List.range_succ_eq_map, List.map_cons, List.map_map]
      congr 1
      · simp
      · apply List.map_congr_left; intro x _; simp; congr 1; omega
    rw [hc]
    simp only [tchGo, Bool.or_eq_false_iff, decide_eq_false_iff_not, Bool.not_eq_false', beq_iff_eq]
    constructor
    · rintro ⟨⟨h1, h2⟩, h3⟩ x hx
      rw [tchGo_some p k (f + 1) (part p f) (by omega)] at h3
      rcases x with _ | x
      · simp; omega
      · have := h3 x (by omega)
        rw [show f + ((x + 1 : Nat) : Int) = f + 1 + x by omega, this]; omega
    · intro hall
      have h0 := hall 0 (by omega)
      simp at h0
      refine ⟨⟨by omega, by omega⟩, ?_⟩
      rw [tchGo_some p k (f + 1) (part p f) (by omega)]
      intro x hx
      have := hall (x + 1) (by omega)
      rw [show f + 1 + (x : Int) = f + ((x + 1 : Nat) : Int) by omega, this]; omega
theorem tch_iff (p : List Spn) (k : Nat) (f : Int) : tch (parts p f (k + 1)) = false ↔ 0 ≤ part p f ∧ ∀ x : Nat, x < k + 1 → part p (f + x) = part p f + x := by
  have hc : parts p f (k + 1) = part p f :: parts p (f + 1) k := by
    simp only [parts, List.range_succ_eq_map, List.map_cons, List.map_map]
    congr 1
    · simp
    · apply List.map_congr_left; intro x _; simp; congr 1; omega
  rw [tch, hc]
  simp only [tchGo, Bool.or_false, Bool.or_eq_false_iff, decide_eq_false_iff_not]
  constructor
  · rintro ⟨h1, h3⟩
    refine ⟨by omega, fun x hx => ?_⟩
    rw [tchGo_some p k (f + 1) (part p f) (by omega)] at h3
    rcases x with _ | x
    · simp
    · have := h3 x (by omega)
      rw [show f + ((x + 1 : Nat) : Int) = f + 1 + x by omega, this]; omega
  · rintro ⟨h1, hall⟩
    refine ⟨by omega, ?_⟩
    rw [tchGo_some p k (f + 1) (part p f) (by omega)]
    intro x hx
    have := hall (x + 1) (by omega)
    rw [show f + 1 + (x : Int) = f + ((x + 1 : Nat) : Int) by omega, this]; omega

/-- A range that is touched in a part is touched. -/
theorem tch_grows {p : List Spn} {f f' : Int} {k k' : Nat} (h1 : f' ≤ f) (h2 : f + ((k + 1 : Nat) : Int) ≤ f' + ((k' + 1 : Nat) : Int)) (h : tch (parts p f (k + 1)) = true) : tch (parts p f' (k' + 1)) = true := by
  cases hx : tch (parts p f' (k' + 1)) with
  | true => rfl
  | false =>
    exfalso
    rw [tch_iff] at hx
    obtain ⟨a, b⟩ := hx
    have e0 := b (f - f').toNat (by omega)
    rw [show f' + ((f - f').toNat : Int) = f by omega] at e0
    have : tch (parts p f (k + 1)) = false := by
      rw [tch_iff]
      refine ⟨by omega, fun x hx => ?_⟩
      have := b ((f - f').toNat + x) (by omega)
      rw [show f' + (((f - f').toNat + x : Nat) : Int) = f + x by omega] at this
      omega
    rw [this] at h; cases h
end Go.Proofs.Ml
