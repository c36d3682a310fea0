import Derived.Test.YtagembkjmnfidaaSpec
namespace Go.Proofs.Ml
set_option linter.unusedVariables false

/-! fits -/
def eqAt (a b : List Int) (s : Spn) : Bool := a[s.f.toNat]? == b[s.t.toNat]?
def fits (l : List Chg) (a b : List Int) : Bool := valid l a.length b.length && (mat 0 0 l a.length).all (eqAt a b)
theorem fits_iff {l : List Chg} {a b : List Int} : fits l a b = true ↔ valid l a.length b.length = true ∧ ∀ s ∈ mat 0 0 l a.length, a[s.f.toNat]? = b[s.t.toNat]? := by
  simp [fits, eqAt]

/-! one move -/
/-- The text, the first line and the length of a pure change. -/
def side (a b : List Int) (c : Chg) : Option (List Int × Int × Int) :=
  if c.nl = 0 then some (a, c.o, c.ol) else if c.ol = 0 then some (b, c.n, c.nl) else none
def Chg.up (c : Chg) (d : Int) : Chg := ⟨c.o + d, c.ol, c.n + d, c.nl⟩
def mv (d : Int) (l : List Chg) (k : Nat) : List Chg := l.modify k (fun c => c.up d)
def room (c : Chg) : Option Chg → Prop
  | none => True
  | some d => c.o + c.ol + 1 < d.o
def canD (a b : List Int) (l : List Chg) (k : Nat) : Prop :=
  ∃ c t f n, l[k]? = some c ∧ side a b c = some (t, f, n) ∧ f + n < t.length ∧ t[f.toNat]? = t[(f + n).toNat]? ∧ room c l[k + 1]?
def canU (a b : List Int) (l : List Chg) (k : Nat) : Prop :=
  ∃ c t f n, l[k]? = some c ∧ side a b c = some (t, f, n) ∧ 0 < f ∧ t[(f - 1).toNat]? = t[(f + n - 1).toNat]? ∧ (∀ p d, k = p + 1 → l[p]? = some d → d.o + d.ol < c.o - 1)

theorem mv_length (d : Int) (l : List Chg) (k : Nat) : (mv d l k).length = l.length := by simp [mv]
theorem mv_ne (d : Int) (l : List Chg) {k j : Nat} (h : k ≠ j) : (mv d l k)[j]? = l[j]? := by
  rw [mv, List.getElem?_modify]; simp [h]
theorem mv_eq (d : Int) (l : List Chg) (k : Nat) : (mv d l k)[k]? = l[k]?.map (fun c => c.up d) := by
  rw [mv, List.getElem?_modify]; simp
theorem mv_cons (d : Int) (c : Chg) (l : List Chg) (k : Nat) : mv d (c :: l) (k + 1) = c :: mv d l k := by simp [mv]
theorem mv_zero (d : Int) (c : Chg) (l : List Chg) : mv d (c :: l) 0 = c.up d :: l := by simp [mv]

/-- Change k is moved by d, n times, until it can't be moved. -/
inductive Mv (can : List Chg → Nat → Prop) (d : Int) (k : Nat) : Nat → List Chg → List Chg → Prop
  | stop (l : List Chg) : ¬ can l k → Mv can d k 0 l l
  | step (n : Nat) (l r : List Chg) : can l k → Mv can d k n (mv d l k) r → Mv can d k (n + 1) l r
theorem Mv.det {can : List Chg → Nat → Prop} {d : Int} {k n : Nat} {l r : List Chg} (h : Mv can d k n l r) : ∀ {n' : Nat} {r' : List Chg}, Mv can d k n' l r' → n = n' ∧ r = r' := by
  induction h with
  | stop l hn =>
    intro n' r' h'
    cases h' with
    | stop _ _ => exact ⟨rfl, rfl⟩
    | step _ _ _ hc _ => exact absurd hc hn
  | step n l r hc h ih =>
    intro n' r' h'
    cases h' with
    | stop _ hn => exact absurd hc hn
    | step _ _ _ _ h' => obtain ⟨e1, e2⟩ := ih h'; exact ⟨by omega, e2⟩
/-- The changes of a list of numbers are moved, one behind the other. -/
inductive Mvs (can : List Chg → Nat → Prop) (d : Int) : List Nat → List Chg → List Chg → Prop
  | nil (l : List Chg) : Mvs can d [] l l
  | cons (k : Nat) (ks : List Nat) (n : Nat) (l r s : List Chg) : Mv can d k n l r → Mvs can d ks r s → Mvs can d (k :: ks) l s
theorem Mvs.det {can : List Chg → Nat → Prop} {d : Int} {ks : List Nat} {l r : List Chg} (h : Mvs can d ks l r) : ∀ {r' : List Chg}, Mvs can d ks l r' → r = r' := by
  induction h with
  | nil l => intro r' h'; cases h'; rfl
  | cons k ks n l r s h1 h2 ih =>
    intro r' h'
    cases h' with
    | cons _ _ n' _ r1 _ g1 g2 => obtain ⟨_, rfl⟩ := h1.det g1; exact ih g2

/-- A property that each move keeps. -/
theorem Mv.keep {can : List Chg → Nat → Prop} {d : Int} {k n : Nat} {l r : List Chg} (h : Mv can d k n l r) (P : List Chg → Prop) (hP : ∀ x, P x → can x k → P (mv d x k)) : P l → P r := by
  induction h with
  | stop l hn => exact id
  | step n l r hc h ih => exact fun hl => ih (hP _ hl hc)
theorem Mvs.keep {can : List Chg → Nat → Prop} {d : Int} {ks : List Nat} {l r : List Chg} (h : Mvs can d ks l r) (P : List Chg → Prop) (hP : ∀ x k, P x → can x k → P (mv d x k)) : P l → P r := by
  induction h with
  | nil l => exact id
  | cons k ks n l r s h1 h2 ih => exact fun hl => ih (h1.keep P (fun x => hP x k) hl)
theorem Mv.stuck {can : List Chg → Nat → Prop} {d : Int} {k n : Nat} {l r : List Chg} (h : Mv can d k n l r) : ¬ can r k := by
  induction h with
  | stop l hn => exact hn
  | step n l r hc h ih => exact ih
theorem Mv.other {can : List Chg → Nat → Prop} {d : Int} {k n : Nat} {l r : List Chg} (h : Mv can d k n l r) (j : Nat) (hj : k ≠ j) : r[j]? = l[j]? := by
  induction h with
  | stop l hn => rfl
  | step n l r hc h ih => rw [ih, mv_ne d l hj]
theorem Mvs.all_stuck {can : List Chg → Nat → Prop} {d : Int} : ∀ {ks : List Nat} {l : List Chg}, (∀ k ∈ ks, ¬ can l k) → Mvs can d ks l l
  | [], l, _ => .nil l
  | k :: ks, l, h => .cons k ks 0 l l l (.stop l (h k (by simp))) (Mvs.all_stuck fun j hj => h j (by simp [hj]))

/-! moving keeps the fit -/
theorem Val.fwd : ∀ {l : List Chg} {i j m n : Int}, Val false i j l m n → (∀ d, l.head? = some d → i + 1 < d.o) → (l = [] → i + 1 ≤ m) → Val false (i + 1) (j + 1) l m n
  | [], i, j, m, n, h, _, h2 => by
    have := h2 rfl
    simp only [Val] at *; omega
  | c :: l, i, j, m, n, h, h1, _ => by
    refine ⟨?_, h.2⟩
    have := h1 c rfl
    have h3 := h.1
    rw [okC_iff] at *
    exact ⟨h3.1, h3.2.1, h3.2.2.1, h3.2.2.2.1, h3.2.2.2.2.1, by omega, by omega, fun _ => by omega⟩
theorem mat_pop {l : List Chg} {i j m : Int} (h1 : ∀ d, l.head? = some d → i < d.o) (h2 : l = [] → i < m) : mat i j l m = ⟨i, j⟩ :: mat (i + 1) (j + 1) l m := by
  have h := mat_shift l m 1 (i + 1) (j + 1) (fun c l' e => by have := h1 c (by rw [e]; rfl); omega) (fun e => by have := h2 e; omega)
  rw [show i + 1 - ((1 : Nat) : Int) = i by omega, show j + 1 - ((1 : Nat) : Int) = j by omega] at h
  simpa [runP] using h
theorem step_down {a b : List Int} : ∀ {l : List Chg} {k : Nat} {x : Bool} {i j : Int}, Val x i j l a.length b.length → (a.length : Int) ≤ 4096 → (b.length : Int) ≤ 4096 → 0 ≤ i → 0 ≤ j → (∀ s ∈ mat i j l a.length, a[s.f.toNat]? = b[s.t.toNat]?) → canD a b l k →
    Val x i j (mv 1 l k) a.length b.length ∧ ∀ s ∈ mat i j (mv 1 l k) a.length, a[s.f.toNat]? = b[s.t.toNat]?
  | [], k, x, i, j, hv, _, _, _, _, hs, hc => by obtain ⟨c, t, f, n, h, _⟩ := hc; simp at h
  | c :: l, k + 1, x, i, j, hv, ha, hb, hi, hj, hs, hc => by
    have h1 := hv.1
    rw [okC_iff] at h1
    have hc' : canD a b l k := by
      obtain ⟨c', t, f, n, e1, e2⟩ := hc
      exact ⟨c', t, f, n, by simpa using e1, by simpa using e2⟩
    have ih := step_down hv.2 ha hb (by omega) (by omega) (fun s h => hs s (by simp only [mat, List.mem_append]; exact .inr h)) hc'
    rw [mv_cons]
    refine ⟨⟨hv.1, ih.1⟩, fun s h => ?_⟩
    simp only [mat, List.mem_append] at h
    rcases h with h | h
    · exact hs s (by simp only [mat, List.mem_append]; exact .inl h)
    · exact ih.2 s h
  | c :: l, 0, x, i, j, hv, ha, hb, hi, hj, hs, hc => by
    obtain ⟨c', t, f, n, e1, e2, e3, e4, e5⟩ := hc
    simp only [List.getElem?_cons_zero, Option.some.injEq] at e1
    subst e1
    have h1 := hv.1
    have h2 := hv.2
    rw [okC_iff] at h1
    have hle := h2.le
    have hlast : l = [] → c.o + c.ol + 1 ≤ a.length := by
      rintro rfl
      have h3 := h2.1
      unfold side at e2
      split at e2
      · injection e2 with e2; injection e2 with e2 e6; injection e6 with e6 e7; subst e2; subst e6; subst e7; omega
      · split at e2
        · injection e2 with e2; injection e2 with e2 e6; injection e6 with e6 e7; subst e2; subst e6; subst e7; omega
        · cases e2
    have hhead : ∀ d, l.head? = some d → c.o + c.ol + 1 < d.o := by
      intro d hd
      have : (c :: l)[0 + 1]? = some d := by rw [List.getElem?_cons_succ]; rw [← hd]; cases l <;> rfl
      rw [this] at e5
      exact e5
    have hmax : c.o + c.ol + 1 ≤ a.length := by
      cases l with
      | nil => exact hlast rfl
      | cons d l =>
        have := hhead d rfl
        have h3 := h2.1
        have h4 := h2.2.le
        rw [okC_iff] at h3
        omega
    have hnew := h2.fwd hhead hlast
    have hle2 := hnew.le
    rw [mv_zero]
    have hpop := mat_pop (j := c.n + c.nl) (fun d hd => by have := hhead d hd; omega) (fun e => by have := hlast e; omega) (i := c.o + c.ol) (l := l) (m := a.length)
    refine ⟨⟨?_, ?_⟩, fun s h => ?_⟩
    · rw [okC_iff]
      simp only [Chg.up]
      refine ⟨by omega, by omega, by omega, by omega, by omega, by omega, by omega, fun e => ?_⟩
      omega
    · simp only [Chg.up]
      rw [show c.o + 1 + c.ol = c.o + c.ol + 1 by omega, show c.n + 1 + c.nl = c.n + c.nl + 1 by omega]
      exact hnew
    · simp only [mat, Chg.up] at h
      rw [show c.o + 1 + c.ol = c.o + c.ol + 1 by omega, show c.n + 1 + c.nl = c.n + c.nl + 1 by omega, show (c.o + 1 - i).toNat = (c.o - i).toNat + 1 by omega, runP_snoc, List.mem_append, List.mem_append] at h
      rcases h with (h | h) | h
      · exact hs s (by simp only [mat, List.mem_append]; exact .inl h)
      · rw [List.mem_singleton] at h
        subst h
        have h0 := hs ⟨c.o + c.ol, c.n + c.nl⟩ (by simp only [mat, List.mem_append]; rw [hpop]; exact .inr (by simp))
        simp only at h0 ⊢
        rw [show i + (((c.o - i).toNat : Nat) : Int) = c.o by omega, show j + (((c.o - i).toNat : Nat) : Int) = c.n by omega]
        unfold side at e2
        split at e2
        · injection e2 with e2; injection e2 with e2 e6; injection e6 with e6 e7; subst e2; subst e6; subst e7
          rename_i hz
          rw [e4, h0, hz, Int.add_zero]
        · split at e2
          · rename_i hz
            injection e2 with e2; injection e2 with e2 e6; injection e6 with e6 e7; subst e2; subst e6; subst e7
            rw [e4, ← h0, hz, Int.add_zero]
          · cases e2
      · exact hs s (by simp only [mat, List.mem_append]; rw [hpop]; exact .inr (by simp [h]))
theorem fits_down {a b : List Int} {l : List Chg} {k : Nat} (h : fits l a b = true) (hc : canD a b l k) : fits (mv 1 l k) a b = true := by
  rw [fits_iff] at *
  have hv := valid_iff.1 h.1
  have := step_down hv.2.2 hv.1.2 hv.2.1.2 (Int.le_refl _) (Int.le_refl _) h.2 hc
  exact ⟨valid_iff.2 ⟨hv.1, hv.2.1, this.1⟩, this.2⟩

/-! upside down -/
def Chg.flip (m n : Int) (c : Chg) : Chg := ⟨m - c.o - c.ol, c.ol, n - c.n - c.nl, c.nl⟩
def turn (m n : Int) (l : List Chg) : List Chg := (l.map (Chg.flip m n)).reverse
theorem flip_flip (m n : Int) (c : Chg) : (c.flip m n).flip m n = c := by cases c; simp [Chg.flip]; omega
theorem turn_turn (m n : Int) (l : List Chg) : turn m n (turn m n l) = l := by
  unfold turn
  rw [List.map_reverse, List.reverse_reverse, List.map_map]
  have : (Chg.flip m n ∘ Chg.flip m n) = id := by funext c; exact flip_flip m n c
  rw [this, List.map_id]
theorem turn_length (m n : Int) (l : List Chg) : (turn m n l).length = l.length := by simp [turn]
theorem turn_cons (m n : Int) (c : Chg) (l : List Chg) : turn m n (c :: l) = turn m n l ++ [c.flip m n] := by simp [turn]
theorem turn_get (m n : Int) (l : List Chg) (k : Nat) (hk : k < l.length) : (turn m n l)[l.length - 1 - k]? = l[k]?.map (Chg.flip m n) := by
  unfold turn
  rw [List.getElem?_reverse (by simp; omega), List.length_map, show l.length - 1 - (l.length - 1 - k) = k by omega, List.getElem?_map]

/-- Valid up to M, N, with a line between unless nothing came before. -/
def ValE : Bool → Int → Int → List Chg → Int → Int → Prop
  | b, i, j, [], M, N => M - i = N - j ∧ i ≤ M ∧ (b = false → i < M)
  | b, i, j, c :: l, M, N => okC b i j c = true ∧ ValE false (c.o + c.ol) (c.n + c.nl) l M N
def okB (c : Chg) : Prop := (0 ≤ c.o ∧ c.o ≤ 4096) ∧ (0 ≤ c.ol ∧ c.ol ≤ 4096) ∧ (0 ≤ c.n ∧ c.n ≤ 4096) ∧ (0 ≤ c.nl ∧ c.nl ≤ 4096) ∧ c.ol + c.nl ≠ 0
theorem ValE.okc {b : Bool} {i j : Int} {c : Chg} (h : ValE b i j [] c.o c.n) (hc : okB c) : okC b i j c = true := by
  obtain ⟨h1, h2, h3⟩ := h
  obtain ⟨g1, g2, g3, g4, g5⟩ := hc
  rw [okC_iff]
  exact ⟨g1, g2, g3, g4, g5, h1, h2, h3⟩
theorem ValE.snoc : ∀ {x : List Chg} {b : Bool} {i j : Int} {c : Chg} {l : List Chg} {m n : Int}, ValE b i j x c.o c.n → okB c → Val false (c.o + c.ol) (c.n + c.nl) l m n → Val b i j (x ++ c :: l) m n
  | [], _, _, _, _, _, _, _, h, hc, hv => ⟨h.okc hc, hv⟩
  | _ :: _, _, _, _, _, _, _, _, h, hc, hv => ⟨h.1, h.2.snoc hc hv⟩
theorem ValE.snocE : ∀ {x : List Chg} {b : Bool} {i j : Int} {c : Chg} {l : List Chg} {m n : Int}, ValE b i j x c.o c.n → okB c → ValE false (c.o + c.ol) (c.n + c.nl) l m n → ValE b i j (x ++ c :: l) m n
  | [], _, _, _, _, _, _, _, h, hc, hv => ⟨h.okc hc, hv⟩
  | _ :: _, _, _, _, _, _, _, _, h, hc, hv => ⟨h.1, h.2.snocE hc hv⟩
theorem flip_ok {m n : Int} {c : Chg} {b : Bool} {i j : Int} (h : okC b i j c = true) (hm : c.o + c.ol ≤ m) (hn : c.n + c.nl ≤ n) (h1 : m ≤ 4096) (h2 : n ≤ 4096) : okB (c.flip m n) := by
  rw [okC_iff] at h
  unfold okB
  simp only [Chg.flip]
  omega
theorem turn_valE {m n : Int} (hm : m ≤ 4096) (hn : n ≤ 4096) : ∀ {l : List Chg} {i j : Int}, Val false i j l m n → ValE true 0 0 (turn m n l) (m - i) (n - j)
  | [], i, j, h => by
    obtain ⟨h1, h2⟩ := h
    exact ⟨by omega, by omega, fun e => by cases e⟩
  | c :: l, i, j, h => by
    have h1 := h.1
    have hle := h.2.le
    have ih := turn_valE hm hn h.2
    rw [turn_cons]
    have hf := flip_ok h1 hle.1 hle.2 hm hn
    rw [okC_iff] at h1
    refine ValE.snocE (c := c.flip m n) (l := []) ?_ hf ?_
    · simp only [Chg.flip]
      rw [show m - c.o - c.ol = m - (c.o + c.ol) by omega, show n - c.n - c.nl = n - (c.n + c.nl) by omega]
      exact ih
    · have := h1.2.2.2.2.2.2.2 rfl
      simp only [ValE, Chg.flip]
      omega
theorem turn_val {m n : Int} {l : List Chg} (hm : m ≤ 4096) (hn : n ≤ 4096) (h : Val true 0 0 l m n) : Val true 0 0 (turn m n l) m n := by
  cases l with
  | nil => exact h
  | cons c l =>
    have h1 := h.1
    have hle := h.2.le
    have ih := turn_valE hm hn h.2
    rw [turn_cons]
    have hf := flip_ok h1 hle.1 hle.2 hm hn
    rw [okC_iff] at h1
    refine ValE.snoc (c := c.flip m n) (l := []) ?_ hf ?_
    · simp only [Chg.flip]
      rw [show m - c.o - c.ol = m - (c.o + c.ol) by omega, show n - c.n - c.nl = n - (c.n + c.nl) by omega]
      exact ih
    · simp only [Val, Chg.flip]
      omega
theorem mat_snoc : ∀ (x : List Chg) (i j : Int) (c : Chg) (l : List Chg) (m : Int), mat i j (x ++ c :: l) m = mat i j x c.o ++ mat (c.o + c.ol) (c.n + c.nl) l m
  | [], i, j, c, l, m => by simp [mat]
  | d :: x, i, j, c, l, m => by simp only [List.cons_append, mat]; rw [mat_snoc x, List.append_assoc]
theorem turn_mat {m n : Int} : ∀ {l : List Chg} {b : Bool} {i j : Int} {s : Spn}, Val b i j l m n → s ∈ mat 0 0 (turn m n l) (m - i) → (⟨m - 1 - s.f, n - 1 - s.t⟩ : Spn) ∈ mat i j l m
  | [], b, i, j, s, h, hs => by
    obtain ⟨h1, h2⟩ := h
    simp only [turn, List.map_nil, List.reverse_nil, mat, runP_mem] at hs ⊢
    omega
  | c :: l, b, i, j, s, h, hs => by
    have h1 := h.1
    have hle := h.2.le
    rw [okC_iff] at h1
    rw [turn_cons, mat_snoc] at hs
    simp only [mat, Chg.flip, List.mem_append] at hs ⊢
    rcases hs with hs | hs
    · right
      refine turn_mat h.2 ?_
      rw [show m - (c.o + c.ol) = m - c.o - c.ol by omega]; exact hs
    · left
      rw [runP_mem] at hs ⊢
      simp only
      omega
theorem get_rev {a : List Int} {x : Int} (h0 : 0 ≤ x) (h1 : x < a.length) : a.reverse[x.toNat]? = a[((a.length : Int) - 1 - x).toNat]? := by
  rw [List.getElem?_reverse (by omega)]
  congr 1
  omega
theorem fits_turn {a b : List Int} {l : List Chg} (h : fits l a b = true) : fits (turn a.length b.length l) a.reverse b.reverse = true := by
  rw [fits_iff] at *
  simp only [List.length_reverse]
  have hv := valid_iff.1 h.1
  have ht := turn_val hv.1.2 hv.2.1.2 hv.2.2
  refine ⟨valid_iff.2 ⟨hv.1, hv.2.1, ht⟩, fun s hs => ?_⟩
  have hm := ht.asc.mem s hs
  have := turn_mat (s := s) hv.2.2 (by rw [Int.sub_zero]; exact hs)
  have := h.2 _ this
  rw [get_rev hm.1 hm.2.1, get_rev hm.2.2.1 hm.2.2.2]
  exact this
theorem mv_turn (m n d : Int) (l : List Chg) (k : Nat) (hk : k < l.length) : turn m n (mv d l k) = mv (-d) (turn m n l) (l.length - 1 - k) := by
  apply List.ext_getElem?
  intro x
  by_cases hx : x < l.length
  · obtain ⟨y, hy, rfl⟩ : ∃ y, y < l.length ∧ x = l.length - 1 - y := ⟨l.length - 1 - x, by omega, by omega⟩
    clear hx
    have h1 := turn_get m n (mv d l k) y (by rw [mv_length]; exact hy)
    rw [mv_length] at h1
    rw [h1]
    by_cases hky : k = y
    · subst hky
      rw [mv_eq, mv_eq, turn_get m n l k hk]
      cases l[k]? with
      | none => rfl
      | some c => simp [Chg.flip, Chg.up]; omega
    · have hne : l.length - 1 - k ≠ l.length - 1 - y := by omega
      rw [mv_ne d l hky, mv_ne (-d) (Ml.turn m n l) hne, turn_get m n l y hy]
  · rw [List.getElem?_eq_none (by rw [turn_length, mv_length]; omega), List.getElem?_eq_none (by rw [mv_length, turn_length]; omega)]
theorem side_flip {a b : List Int} {c : Chg} {t : List Int} {f n : Int} (h : side a b c = some (t, f, n)) : side a.reverse b.reverse (c.flip a.length b.length) = some (t.reverse, t.length - f - n, n) := by
  unfold side at *
  split at h
  · rename_i h0
    injection h with h; injection h with h1 h2; injection h2 with h2 h3; subst h1; subst h2; subst h3
    simp [Chg.flip, h0]
  · rename_i h0
    split at h
    · rename_i h4
      injection h with h; injection h with h1 h2; injection h2 with h2 h3; subst h1; subst h2; subst h3
      simp [Chg.flip, h0, h4]
    · cases h
/-- What a valid script says of a pure change. -/
theorem side_in {a b : List Int} {l : List Chg} {k : Nat} {c : Chg} {t : List Int} {f n : Int} (hv : valid l a.length b.length = true) (hk : l[k]? = some c) (h : side a b c = some (t, f, n)) : 0 ≤ f ∧ 0 < n ∧ f + n ≤ t.length := by
  have hb : ∀ {l : List Chg} {x : Bool} {i j : Int}, Val x i j l a.length b.length → ∀ c ∈ l, okB c ∧ c.o + c.ol ≤ a.length ∧ c.n + c.nl ≤ b.length := by
    intro l
    induction l with
    | nil => intro x i j _ c hc; cases hc
    | cons d l ih =>
      intro x i j h c hc
      have h1 := h.1
      have h2 := h.2.le
      rw [okC_iff] at h1
      rcases List.mem_cons.1 hc with rfl | hc
      · exact ⟨⟨h1.1, h1.2.1, h1.2.2.1, h1.2.2.2.1, h1.2.2.2.2.1⟩, h2.1, h2.2⟩
      · exact ih h.2 c hc
  have hc := hb (valid_val hv) c (List.mem_of_getElem? hk)
  unfold okB at hc
  unfold side at h
  split at h
  · injection h with h; injection h with h1 h2; injection h2 with h2 h3; subst h1; subst h2; subst h3; omega
  · split at h
    · injection h with h; injection h with h1 h2; injection h2 with h2 h3; subst h1; subst h2; subst h3; omega
    · cases h
theorem can_turn1 {a b : List Int} {l : List Chg} {k : Nat} (hv : valid l a.length b.length = true) (h : canU a b l k) : canD a.reverse b.reverse (turn a.length b.length l) (l.length - 1 - k) := by
  obtain ⟨c, t, f, n, e1, e2, e3, e4, e5⟩ := h
  have hk : k < l.length := (List.getElem?_eq_some_iff.1 e1).1
  obtain ⟨g1, g2, g3⟩ := side_in hv e1 e2
  refine ⟨c.flip a.length b.length, t.reverse, t.length - f - n, n, by rw [turn_get _ _ _ _ hk, e1]; rfl, side_flip e2, by rw [List.length_reverse]; omega, ?_, ?_⟩
  · rw [get_rev (by omega) (by omega), get_rev (by omega) (by omega), show (t.length : Int) - 1 - (t.length - f - n) = f + n - 1 by omega, show (t.length : Int) - 1 - (t.length - f - n + n) = f - 1 by omega]
    exact e4.symm
  · rcases k with _ | p
    · rw [List.getElem?_eq_none (by rw [turn_length]; omega)]; trivial
    · have hp : p < l.length := by omega
      rw [show l.length - 1 - (p + 1) + 1 = l.length - 1 - p by omega, turn_get _ _ _ _ hp]
      cases hd : l[p]? with
      | none => trivial
      | some d =>
        have := e5 p d rfl hd
        simp only [Option.map_some, room, Chg.flip]
        omega
theorem can_turn2 {a b : List Int} {l : List Chg} {k : Nat} (hv : valid l a.length b.length = true) (hk : k < l.length) (h : canD a.reverse b.reverse (turn a.length b.length l) (l.length - 1 - k)) : canU a b l k := by
  obtain ⟨c', t', f', n', e1, e2, e3, e4, e5⟩ := h
  rw [turn_get _ _ _ _ hk] at e1
  obtain ⟨c, hc⟩ : ∃ c, l[k]? = some c := ⟨l[k], List.getElem?_eq_getElem hk⟩
  rw [hc] at e1
  simp only [Option.map_some, Option.some.injEq] at e1
  have h2 := side_flip e2
  rw [← e1] at h2
  simp only [List.reverse_reverse, List.length_reverse, flip_flip] at h2
  obtain ⟨g1, g2, g3⟩ := side_in hv hc h2
  rw [List.length_reverse] at g3
  refine ⟨c, t'.reverse, t'.length - f' - n', n', hc, h2, by omega, ?_, ?_⟩
  · rw [get_rev (by omega) (by omega), get_rev (by omega) (by omega), show (t'.length : Int) - 1 - (t'.length - f' - n' - 1) = f' + n' by omega, show (t'.length : Int) - 1 - (t'.length - f' - n' + n' - 1) = f' by omega]
    exact e4.symm
  · intro p d hp hd
    subst hp
    rw [show l.length - 1 - (p + 1) + 1 = l.length - 1 - p by omega, turn_get _ _ _ _ (by omega), hd] at e5
    subst e1
    simp only [Option.map_some, room, Chg.flip] at e5
    omega
theorem fits_up {a b : List Int} {l : List Chg} {k : Nat} (h : fits l a b = true) (hc : canU a b l k) : fits (mv (-1) l k) a b = true := by
  have hk : k < l.length := by obtain ⟨c, _, _, _, e1, _⟩ := hc; exact (List.getElem?_eq_some_iff.1 e1).1
  have h1 := fits_turn h
  have h2 := fits_down h1 (can_turn1 (fits_iff.1 h).1 hc)
  have h3 := fits_turn h2
  simp only [List.reverse_reverse, List.length_reverse] at h3
  have e := mv_turn a.length b.length (-1) l k hk
  rw [show -(-1 : Int) = 1 by omega] at e
  rw [← e, turn_turn] at h3
  exact h3
/-- Up is Down of the reversed texts. -/
theorem Mv.turn {a b : List Int} {k n : Nat} {l r : List Chg} (h : Mv (canU a b) (-1) k n l r) (hf : fits l a b = true) (hk : k < l.length) : Mv (canD a.reverse b.reverse) 1 (l.length - 1 - k) n (Ml.turn a.length b.length l) (Ml.turn a.length b.length r) := by
  induction h with
  | stop l hn => exact .stop _ fun hc => hn (can_turn2 (fits_iff.1 hf).1 hk hc)
  | step n l r hc h ih =>
    refine .step n _ _ (can_turn1 (fits_iff.1 hf).1 hc) ?_
    have := ih (fits_up hf hc) (by rw [mv_length]; exact hk)
    rw [mv_length, mv_turn _ _ _ _ _ hk, show -(-1 : Int) = 1 by omega] at this
    exact this
theorem Mvs.turn {a b : List Int} {ks : List Nat} {l r : List Chg} (h : Mvs (canU a b) (-1) ks l r) (hf : fits l a b = true) (hk : ∀ k ∈ ks, k < l.length) : Mvs (canD a.reverse b.reverse) 1 (ks.map fun k => l.length - 1 - k) (Ml.turn a.length b.length l) (Ml.turn a.length b.length r) := by
  induction h with
  | nil l => exact .nil _
  | cons k ks n l r s h1 h2 ih =>
    have hl : r.length = l.length := h1.keep (fun x => x.length = l.length) (fun x hx _ => by rw [mv_length]; exact hx) rfl
    have hr := h1.keep (fun x => fits x a b = true) (fun x hx hc => fits_up hx hc) hf
    have := ih hr (fun j hj => by rw [hl]; exact hk j (by simp [hj]))
    rw [hl] at this
    exact .cons _ _ n _ _ _ (h1.turn hf (hk k (by simp))) this

/-! the inverse -/
theorem inv_get (l : List Chg) (k : Nat) : (inv l)[k]? = l[k]?.map Chg.swap := by simp [inv]
theorem mv_inv (d : Int) (l : List Chg) (k : Nat) : inv (mv d l k) = mv d (inv l) k := by
  apply List.ext_getElem?
  intro x
  rw [inv_get]
  by_cases hx : k = x
  · subst hx
    rw [mv_eq, mv_eq, inv_get]
    cases l[k]? <;> rfl
  · rw [mv_ne d l hx, mv_ne d _ hx, inv_get]
theorem fits_inv {a b : List Int} {l : List Chg} (h : fits l a b = true) : fits (inv l) b a = true := by
  rw [fits_iff] at *
  refine ⟨valid_inv h.1, fun s hs => ?_⟩
  rw [mat_inv (valid_val h.1), swp_mem] at hs
  exact (h.2 _ hs).symm
theorem side_swap {a b : List Int} {c : Chg} {t : List Int} {f n : Int} (hc : c.ol + c.nl ≠ 0) (h : side a b c = some (t, f, n)) : side b a c.swap = some (t, f, n) := by
  unfold side at *
  split at h
  · rename_i h0
    have h5 : c.ol ≠ 0 := by omega
    simpa [Chg.swap, h0, h5] using h
  · split at h
    · rename_i h4
      simpa [Chg.swap, h4] using h
    · cases h
/-- The lines between two changes are as many in both texts. -/
theorem Val.between : ∀ {l : List Chg} {x : Bool} {i j m n : Int}, Val x i j l m n → ∀ (k : Nat) (c d : Chg), l[k]? = some c → l[k + 1]? = some d → d.o - (c.o + c.ol) = d.n - (c.n + c.nl) ∧ okB c
  | [], _, _, _, _, _, _, k, c, d, h, _ => by simp at h
  | e :: l, x, i, j, m, n, hv, 0, c, d, h1, h2 => by
    simp only [List.getElem?_cons_zero, Option.some.injEq] at h1
    subst h1
    have h3 := hv.1
    have h4 := hv.2
    cases l with
    | nil => simp at h2
    | cons f l =>
      simp only [List.getElem?_cons_succ, List.getElem?_cons_zero, Option.some.injEq] at h2
      subst h2
      have h5 := h4.1
      rw [okC_iff] at h3 h5
      exact ⟨h5.2.2.2.2.2.1, h3.1, h3.2.1, h3.2.2.1, h3.2.2.2.1, h3.2.2.2.2.1⟩
  | e :: l, x, i, j, m, n, hv, k + 1, c, d, h1, h2 => hv.2.between k c d (by simpa using h1) (by simpa using h2)
theorem Val.okb : ∀ {l : List Chg} {x : Bool} {i j m n : Int}, Val x i j l m n → ∀ c ∈ l, okB c
  | [], _, _, _, _, _, _, c, h => by cases h
  | e :: l, x, i, j, m, n, hv, c, h => by
    have h3 := hv.1
    rw [okC_iff] at h3
    rcases List.mem_cons.1 h with rfl | h
    · exact ⟨h3.1, h3.2.1, h3.2.2.1, h3.2.2.2.1, h3.2.2.2.2.1⟩
    · exact hv.2.okb c h
theorem can_inv1 {a b : List Int} {l : List Chg} {k : Nat} (hv : valid l a.length b.length = true) (h : canD a b l k) : canD b a (inv l) k := by
  obtain ⟨c, t, f, n, e1, e2, e3, e4, e5⟩ := h
  have hb := (valid_val hv).okb c (List.mem_of_getElem? e1)
  refine ⟨c.swap, t, f, n, by rw [inv_get, e1]; rfl, side_swap hb.2.2.2.2 e2, e3, e4, ?_⟩
  rw [inv_get]
  cases hd : l[k + 1]? with
  | none => trivial
  | some d =>
    rw [hd] at e5
    have := ((valid_val hv).between k c d e1 hd).1
    simp only [Option.map_some, room, Chg.swap] at e5 ⊢
    omega
theorem can_inv2 {a b : List Int} {l : List Chg} {k : Nat} (hv : valid l a.length b.length = true) (h : canD b a (inv l) k) : canD a b l k := by
  have := can_inv1 (valid_inv hv) h
  rwa [inv_inv] at this
theorem Mv.inv {a b : List Int} {k n : Nat} {l r : List Chg} (h : Mv (canD a b) 1 k n l r) (hf : fits l a b = true) : Mv (canD b a) 1 k n (Ml.inv l) (Ml.inv r) := by
  induction h with
  | stop l hn => exact .stop _ fun hc => hn (can_inv2 (fits_iff.1 hf).1 hc)
  | step n l r hc h ih =>
    refine .step n _ _ (can_inv1 (fits_iff.1 hf).1 hc) ?_
    have := ih (fits_down hf hc)
    rwa [mv_inv] at this
theorem Mvs.inv {a b : List Int} {ks : List Nat} {l r : List Chg} (h : Mvs (canD a b) 1 ks l r) (hf : fits l a b = true) : Mvs (canD b a) 1 ks (Ml.inv l) (Ml.inv r) := by
  induction h with
  | nil l => exact .nil _
  | cons k ks n l r s h1 h2 ih =>
    exact .cons _ _ n _ _ _ (h1.inv hf) (ih (h1.keep (fun x => fits x a b = true) (fun x hx hc => fits_down hx hc) hf))

/-! moving twice moves nothing more -/
theorem canD_congr {a b : List Int} {l r : List Chg} {k : Nat} (h1 : r[k]? = l[k]?) (h2 : r[k + 1]? = l[k + 1]?) : canD a b r k → canD a b l k := by
  rintro ⟨c, t, f, n, e1, e2, e3, e4, e5⟩
  exact ⟨c, t, f, n, by rw [← h1]; exact e1, e2, e3, e4, by rw [← h2]; exact e5⟩
theorem canU_congr {a b : List Int} {l r : List Chg} {k : Nat} (h1 : r[k]? = l[k]?) (h2 : ∀ p, k = p + 1 → r[p]? = l[p]?) : canU a b r k → canU a b l k := by
  rintro ⟨c, t, f, n, e1, e2, e3, e4, e5⟩
  exact ⟨c, t, f, n, by rw [← h1]; exact e1, e2, e3, e4, fun p d hp hd => e5 p d hp (by rw [h2 p hp]; exact hd)⟩
theorem down_stuck {a b : List Int} : ∀ (n : Nat) {l r : List Chg}, Mvs (canD a b) 1 (List.range n).reverse l r → (∀ k, n ≤ k → ¬ canD a b l k) → ∀ k, ¬ canD a b r k
  | 0, l, r, h, hs => by
    simp only [List.range_zero, List.reverse_nil] at h
    cases h
    exact fun k => hs k (Nat.zero_le _)
  | n + 1, l, r, h, hs => by
    rw [List.range_succ, List.reverse_append, List.reverse_singleton, List.singleton_append] at h
    cases h with
    | cons _ _ c _ x _ h1 h2 =>
      refine down_stuck n h2 fun k hk => ?_
      rcases Nat.eq_or_lt_of_le hk with rfl | hk
      · exact h1.stuck
      · exact fun hc => hs k (by omega) (canD_congr (h1.other k (by omega)) (h1.other (k + 1) (by omega)) hc)
theorem up_stuck {a b : List Int} : ∀ (n s : Nat) {l r : List Chg}, Mvs (canU a b) (-1) (List.range' s n) l r → (∀ k, k < s → ¬ canU a b l k) → ∀ k, k < s + n → ¬ canU a b r k
  | 0, s, l, r, h, hs => by
    simp only [List.range'_zero] at h
    cases h
    exact fun k hk => hs k (by omega)
  | n + 1, s, l, r, h, hs => by
    rw [List.range'_succ] at h
    cases h with
    | cons _ _ c _ x _ h1 h2 =>
      intro k hk
      refine up_stuck n (s + 1) h2 (fun k hk => ?_) k (by omega)
      rcases Nat.eq_or_lt_of_le (show k ≤ s by omega) with rfl | hk
      · exact h1.stuck
      · exact fun hc => hs k hk (canU_congr (h1.other k (by omega)) (fun p hp => h1.other p (by omega)) hc)

/-- What moving leaves as it was: the lengths; and where the changes go. -/
def Same (d : Int) (l r : List Chg) : Prop := r.length = l.length ∧ ∀ (k : Nat) (c : Chg), l[k]? = some c → ∃ x : Nat, r[k]? = some (c.up (d * x))
theorem Same.refl (d : Int) (l : List Chg) : Same d l l := ⟨rfl, fun k c h => ⟨0, by rw [h]; simp [Chg.up]⟩⟩
theorem Same.step {d : Int} {l r : List Chg} (h : Same d l r) (k : Nat) : Same d l (mv d r k) := by
  refine ⟨by rw [mv_length]; exact h.1, fun j c hj => ?_⟩
  obtain ⟨x, hx⟩ := h.2 j c hj
  by_cases hk : k = j
  · subst hk
    refine ⟨x + 1, ?_⟩
    rw [mv_eq, hx]
    simp only [Option.map_some, Option.some.injEq, Chg.up, Chg.mk.injEq, true_and, and_true]
    rw [show d * ((x + 1 : Nat) : Int) = d * x + d by rw [Int.natCast_add, Int.mul_add]; simp]
    omega
  · exact ⟨x, by rw [mv_ne d r hk]; exact hx⟩
theorem Mvs.same {can : List Chg → Nat → Prop} {d : Int} {ks : List Nat} {l r : List Chg} (h : Mvs can d ks l r) : Same d l r :=
  h.keep (Same d l) (fun x k hx _ => hx.step k) (Same.refl d l)
theorem Mv.same {can : List Chg → Nat → Prop} {d : Int} {k n : Nat} {l r : List Chg} (h : Mv can d k n l r) : Same d l r :=
  h.keep (Same d l) (fun x hx _ => hx.step k) (Same.refl d l)
end Go.Proofs.Ml
