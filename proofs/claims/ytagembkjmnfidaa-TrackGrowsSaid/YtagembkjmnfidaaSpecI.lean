import Derived.Test.YtagembkjmnfidaaSpecG
import Derived.Test.YtagembkjmnfidaaSpecS
namespace Go.Proofs.Ml
set_option linter.unusedVariables false

/-- Pairs: the partners, or none. -/
def prRes (l : List Chg) (m n : Int) : List Spn := if valid l m n then mat 0 0 l m else []
theorem prRes_ok {l : List Chg} {m n : Int} (h : valid l m n = true) : prRes l m n = mat 0 0 l m := by simp [prRes, h]
theorem prRes_bad {l : List Chg} {m n : Int} (h : valid l m n = false) : prRes l m n = [] := by simp [prRes, h]
theorem prRes_len (l : List Chg) (m n : Int) : (prRes l m n).length ≤ 4096 := by
  unfold prRes
  split
  · exact mat_len ‹_›
  · simp

/-- Compose: is it defined? The script. -/
def cpOk (x y : List Chg) (m k n : Int) : Bool := valid x m k && valid y k n
def cpRes (x y : List Chg) (m k n : Int) : List Chg := if cpOk x y m k n then comp x y m k n else []
theorem cp_bad1 {x y : List Chg} {m k n : Int} (h : valid x m k = false) : cpOk x y m k n = false ∧ cpRes x y m k n = [] := by simp [cpRes, cpOk, h]
theorem cp_bad2 {x y : List Chg} {m k n : Int} (h : valid y k n = false) : cpOk x y m k n = false ∧ cpRes x y m k n = [] := by simp [cpRes, cpOk, h]
theorem cp_ok {x y : List Chg} {m k n : Int} (h1 : valid x m k = true) (h2 : valid y k n = true) : cpOk x y m k n = true ∧ cpRes x y m k n = comp x y m k n := by simp [cpRes, cpOk, h1, h2]
theorem comp_len {x y : List Chg} {m k n : Int} (hx : valid x m k = true) (hy : valid y k n = true) : (comp x y m k n).length ≤ 8192 := by
  have h := comp_valid hx hy
  have h1 := (valid_val h).length
  have h2 := valid_iff.1 h
  omega
theorem cpRes_len (x y : List Chg) (m k n : Int) : (cpRes x y m k n).length ≤ 8192 := by
  unfold cpRes
  split
  · rename_i h
    simp only [cpOk, Bool.and_eq_true] at h
    exact comp_len h.1 h.2
  · simp

/-- The partner of an old line, plus 1; 0 for none. -/
def par (q : List Spn) (j : Int) : Int := match q.find? (fun s => s.f == j) with | some s => s.t + 1 | none => 0
theorem par_none {q : List Spn} {j : Int} (h : ∀ s ∈ q, s.f ≠ j) : par q j = 0 := by
  unfold par
  rw [List.find?_eq_none.2]
  intro s hs
  simpa using h s hs
theorem Asc.injF {p : List Spn} {i j m n : Int} : Asc i j p m n → ∀ s ∈ p, ∀ u ∈ p, s.f = u.f → s = u := by
  induction p generalizing i j with
  | nil => intro _ s hs; cases hs
  | cons x p ih =>
    intro h s hs u hu he
    have h3 := h.2.2
    rcases List.mem_cons.1 hs with rfl | hs'
    · rcases List.mem_cons.1 hu with rfl | hu'
      · rfl
      · have := h3.mem u hu'; omega
    · rcases List.mem_cons.1 hu with rfl | hu'
      · have := h3.mem s hs'; omega
      · exact ih h3 s hs' u hu' he
theorem par_mem {q : List Spn} {i j m n : Int} (h : Asc i j q m n) {s : Spn} (hs : s ∈ q) : par q s.f = s.t + 1 := by
  unfold par
  cases hf : q.find? (fun x => x.f == s.f) with
  | none =>
    have := List.find?_eq_none.1 hf s hs
    simp at this
  | some u =>
    have h1 := List.mem_of_find?_eq_some hf
    have h2 := List.find?_some hf
    simp only [beq_iff_eq] at h2
    rw [h.injF u h1 s hs h2]
theorem Asc.take {p : List Spn} {i j m n : Int} (K : Nat) (h : Asc i j p m n) : Asc i j (p.take K) m n := by
  induction p generalizing i j K with
  | nil => simpa using h
  | cons x p ih =>
    cases K with
    | zero =>
      have := Asc.le h
      simpa [Asc] using this
    | succ K => exact ⟨h.1, h.2.1, ih K h.2.2⟩
/-- One line more of the table of partners. -/
theorem par_step {q : List Spn} {i j m n : Int} (h : Asc i j q m n) {K : Nat} (hK : K < q.length) (x : Int) : par (q.take (K + 1)) x = if x = q[K].f then q[K].t + 1 else par (q.take K) x := by
  have he : q.take (K + 1) = q.take K ++ [q[K]] := by rw [List.take_succ_eq_append_getElem hK]
  by_cases hx : x = q[K].f
  · rw [if_pos hx, hx]
    exact par_mem (h.take (K + 1)) (by rw [he]; exact List.mem_append_right _ (List.mem_singleton.2 rfl))
  · rw [if_neg hx]
    unfold par
    rw [he, List.find?_append]
    have : List.find? (fun s => s.f == x) [q[K]] = none := by
      rw [List.find?_eq_none]; intro s hs; simp at hs; subst hs; simp; exact fun e => hx e.symm
    rw [this, Option.or_none]
/-- The table of partners behind K pairs. -/
def PtInv (q : List Spn) (K : Nat) (P : List Int) : Prop := ∀ (i : Nat) (h : i < P.length), P[i] = par (q.take K) i
theorem PtInv.start (q : List Spn) (k : Nat) : PtInv q 0 (List.replicate k 0) := fun i h => by simp [par]
theorem PtInv.step {q : List Spn} {i j m n : Int} {K : Nat} {P : List Int} (h : PtInv q K P) (ha : Asc i j q m n) (hK : K < q.length) (h0 : 0 ≤ q[K].f) : PtInv q (K + 1) (P.set q[K].f.toNat (q[K].t + 1)) := by
  intro x hx
  rw [par_step ha hK, List.getElem_set]
  by_cases hxe : q[K].f.toNat = x
  · rw [if_pos hxe, if_pos (by omega)]
  · rw [if_neg hxe, if_neg (by omega)]
    exact h x (by simpa using hx)
theorem PtInv.fin {q : List Spn} {K : Nat} {P : List Int} (h : PtInv q K P) (hK : K = q.length) : ∀ (i : Nat) (hi : i < P.length), P[i] = par q i := by
  intro i hi
  have := h i hi
  rwa [hK, List.take_length] at this
theorem compP_cons (a : Spn) (p q : List Spn) : compP (a :: p) q = ((q.filter fun b => a.t == b.f).map fun b => ⟨a.f, b.t⟩) ++ compP p q := by simp [compP]
theorem compP_snoc (p q : List Spn) (a : Spn) : compP (p ++ [a]) q = compP p q ++ ((q.filter fun b => a.t == b.f).map fun b => ⟨a.f, b.t⟩) := by simp [compP]
theorem compP_one {q : List Spn} {i j m n : Int} (h : Asc i j q m n) (hj : 0 ≤ j) (a : Spn) : ((q.filter fun b => a.t == b.f).map fun b => (⟨a.f, b.t⟩ : Spn)) = if 0 < par q a.t then [⟨a.f, par q a.t - 1⟩] else [] := by
  rcases h.filter_le_one a.t with e | ⟨b, hb, e, h'⟩
  · rw [e, if_neg]
    · rfl
    · rw [par_none]
      · omega
      · intro s hs he
        have := List.filter_eq_nil_iff.1 e s hs
        simp at this
        omega
  · rw [h', e, par_mem h hb]
    have := h.mem b hb
    rw [if_pos (by omega)]
    simp
/-- What Compose has made behind K pairs. -/
theorem compP_step {p q : List Spn} {i j m n : Int} (h : Asc i j q m n) (hj : 0 ≤ j) {K : Nat} (hK : K < p.length) {L : List Spn} (hL : L = compP (p.take K) q) : compP (p.take (K + 1)) q = L ++ (if 0 < par q p[K].t then [⟨p[K].f, par q p[K].t - 1⟩] else []) := by
  rw [List.take_succ_eq_append_getElem hK, compP_snoc, compP_one h hj, hL]
/-- What the document's Compose has made behind A pairs of the first and B of the second script. -/
def CpInv (p q : List Spn) (A : Nat) (a : Spn) (B : Nat) (L : List Spn) : Prop := L = compP (p.take A) q ++ (((q.take B).filter fun b => a.t == b.f).map fun b => ⟨a.f, b.t⟩)
theorem CpInv.start {p q : List Spn} {A : Nat} {a : Spn} {L : List Spn} (h : L = compP (p.take A) q) : CpInv p q A a 0 L := by simp [CpInv, h]
theorem CpInv.yes {p q : List Spn} {A B : Nat} {a : Spn} {L : List Spn} (h : CpInv p q A a B L) (hB : B < q.length) (he : a.t = q[B].f) : CpInv p q A a (B + 1) (L ++ [⟨a.f, q[B].t⟩]) := by
  unfold CpInv at *
  rw [List.take_succ_eq_append_getElem hB, List.filter_append, List.map_append, h, List.append_assoc]
  congr 2
  rw [List.filter_cons_of_pos (by simpa using he)]
  simp
theorem CpInv.no {p q : List Spn} {A B : Nat} {a : Spn} {L : List Spn} (h : CpInv p q A a B L) (hB : B < q.length) (he : a.t ≠ q[B].f) : CpInv p q A a (B + 1) L := by
  unfold CpInv at *
  rw [List.take_succ_eq_append_getElem hB, List.filter_append, List.map_append, h]
  rw [List.filter_cons_of_neg (by simpa using he)]
  simp
theorem CpInv.fin {p q : List Spn} {A B : Nat} {L : List Spn} (hA : A < p.length) (h : CpInv p q A p[A] B L) (hB : B = q.length) : L = compP (p.take (A + 1)) q := by
  unfold CpInv at h
  rw [hB, List.take_length] at h
  rw [List.take_succ_eq_append_getElem hA, compP_snoc, h]
theorem compP_len {p q : List Spn} {i j m k n i' j' : Int} (hp : Asc i j p m k) (hq : Asc i' j' q k n) (hij : i' ≤ j) (A : Nat) : ((compP (p.take A) q).length : Int) ≤ m - i :=
  ((hp.take A).compP hq hij).length.1

/-! fits, pair by pair -/
theorem fits_false {l : List Chg} {a b : List Int} (h : valid l a.length b.length = false) : fits l a b = false := by simp [fits, h]
theorem fits_bad {l : List Chg} {a b : List Int} {K : Nat} (hK : K < (mat 0 0 l a.length).length) (h : a[(mat 0 0 l a.length)[K].f.toNat]? ≠ b[(mat 0 0 l a.length)[K].t.toNat]?) : fits l a b = false := by
  rw [← Bool.not_eq_true, fits_iff]
  exact fun hh => h (hh.2 _ (List.getElem_mem hK))
def FtInv (l : List Chg) (a b : List Int) (K : Nat) : Prop := ∀ i (h : i < (mat 0 0 l a.length).length), i < K → a[(mat 0 0 l a.length)[i].f.toNat]? = b[(mat 0 0 l a.length)[i].t.toNat]?
theorem FtInv.start (l : List Chg) (a b : List Int) : FtInv l a b 0 := fun i h hi => by omega
theorem FtInv.step {l : List Chg} {a b : List Int} {K : Nat} (h : FtInv l a b K) (hK : K < (mat 0 0 l a.length).length) (he : a[(mat 0 0 l a.length)[K].f.toNat]? = b[(mat 0 0 l a.length)[K].t.toNat]?) : FtInv l a b (K + 1) := by
  intro i hi hlt
  rcases Nat.eq_or_lt_of_le (show i ≤ K by omega) with rfl | hlt
  · exact he
  · exact h i hi hlt
theorem FtInv.fin {l : List Chg} {a b : List Int} {K : Nat} (h : FtInv l a b K) (hv : valid l a.length b.length = true) (hK : K = (mat 0 0 l a.length).length) : fits l a b = true := by
  rw [fits_iff]
  refine ⟨hv, fun s hs => ?_⟩
  obtain ⟨i, hi, rfl⟩ := List.getElem_of_mem hs
  exact h i hi (by omega)
end Go.Proofs.Ml
