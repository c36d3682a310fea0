import Derived.Test.YtagembkjmnfidaaSpecI
import Derived.Test.YtagembkjmnfidaaSpecT
namespace Go.Proofs.Ml
set_option linter.unusedVariables false

/-- track: the error of a script and a span. -/
def tkErr (l : List Chg) (m n : Int) (s : Spn) : Int := if valid l m n then (if s.f < 0 ∨ s.t ≤ s.f ∨ n < s.t then 3 else 0) else 80
def tkLen (s : Spn) : Nat := (s.t - s.f).toNat
/-- The partners of the lines of a span. -/
def tkRes (l : List Chg) (m n : Int) (s : Spn) : List Int := if tkErr l m n s = 0 then parts (mat 0 0 l m) s.f (tkLen s) else []
theorem tk_bad {l : List Chg} {m n : Int} {s : Spn} (h : valid l m n = false) : tkErr l m n s = 80 ∧ tkRes l m n s = [] := by simp [tkRes, tkErr, h]
theorem tk_range {l : List Chg} {m n : Int} {s : Spn} (h : valid l m n = true) (hs : s.f < 0 ∨ s.t ≤ s.f ∨ n < s.t) : tkErr l m n s = 3 ∧ tkRes l m n s = [] := by simp [tkRes, tkErr, h, hs]
theorem tk_ok {l : List Chg} {m n : Int} {s : Spn} (h : valid l m n = true) (hs : ¬ (s.f < 0 ∨ s.t ≤ s.f ∨ n < s.t)) : tkErr l m n s = 0 ∧ tkRes l m n s = parts (mat 0 0 l m) s.f (tkLen s) := by simp [tkRes, tkErr, h, hs]
theorem tk_zero {l : List Chg} {m n : Int} {s : Spn} (h : tkErr l m n s = 0) : valid l m n = true ∧ 0 ≤ s.f ∧ s.f < s.t ∧ s.t ≤ n := by
  unfold tkErr at h
  split at h
  · split at h
    · cases h
    · exact ⟨‹_›, by omega, by omega, by omega⟩
  · cases h
theorem parts_length (p : List Spn) (f : Int) (k : Nat) : (parts p f k).length = k := by simp [parts]
theorem parts_get (p : List Spn) (f : Int) (k : Nat) (i : Nat) (h : i < (parts p f k).length) : (parts p f k)[i] = part p (f + i) := by simp [parts]
/-- One pair more. -/
theorem part_step {q : List Spn} {i j m n : Int} (h : Asc i j q m n) {K : Nat} (hK : K < q.length) (x : Int) : part (q.take (K + 1)) x = if x = q[K].t then q[K].f else part (q.take K) x := by
  have he : q.take (K + 1) = q.take K ++ [q[K]] := by rw [List.take_succ_eq_append_getElem hK]
  by_cases hx : x = q[K].t
  · rw [if_pos hx, hx]
    exact part_of_mem (h.take (K + 1)) (by rw [he]; exact List.mem_append_right _ (List.mem_singleton.2 rfl))
  · rw [if_neg hx]
    unfold part
    rw [he, List.find?_append]
    have : List.find? (fun s => s.t == x) [q[K]] = none := by
      rw [List.find?_eq_none]; intro s hs; simp at hs; subst hs; simp; exact fun e => hx e.symm
    rw [this, Option.or_none]
/-- The partners of a span behind K pairs. -/
def PaInv (q : List Spn) (f : Int) (K : Nat) (P : List Int) : Prop := ∀ (i : Nat) (h : i < P.length), P[i] = part (q.take K) (f + i)
theorem PaInv.start (q : List Spn) (f : Int) (k : Nat) : PaInv q f 0 (List.replicate k (-1)) := fun i h => by simp [part]
theorem PaInv.yes {q : List Spn} {i j m n f : Int} {K : Nat} {P : List Int} (h : PaInv q f K P) (ha : Asc i j q m n) (hK : K < q.length) (h0 : f ≤ q[K].t) : PaInv q f (K + 1) (P.set (q[K].t - f).toNat q[K].f) := by
  intro x hx
  rw [part_step ha hK, List.getElem_set]
  by_cases hxe : (q[K].t - f).toNat = x
  · rw [if_pos hxe, if_pos (by omega)]
  · rw [if_neg hxe, if_neg (by omega)]
    exact h x (by simpa using hx)
theorem PaInv.no {q : List Spn} {i j m n f : Int} {K : Nat} {P : List Int} (h : PaInv q f K P) (ha : Asc i j q m n) (hK : K < q.length) (h0 : q[K].t < f ∨ f + P.length ≤ q[K].t) : PaInv q f (K + 1) P := by
  intro x hx
  rw [part_step ha hK, if_neg (by omega)]
  exact h x hx
theorem PaInv.fin {q : List Spn} {f : Int} {K : Nat} {P : List Int} (h : PaInv q f K P) (hK : K = q.length) : P = parts q f P.length := by
  apply List.ext_getElem
  · rw [parts_length]
  · intro i h1 h2
    rw [parts_get, h i h1, hK, List.take_length]

/-! Back -/
def bkRes (l : List Chg) (m n : Int) (s : Spn) : Spn × Bool := bk (tkRes l m n s)
def tcRes (l : List Chg) (m n : Int) (s : Spn) : Bool := tch (tkRes l m n s)
theorem bk_nil : bk [] = (⟨0, 0⟩, false) := rfl
theorem parts_take (p : List Spn) (f : Int) (k K : Nat) (h : K ≤ k) : (parts p f k).take K = parts p f K := by
  unfold parts
  rw [← List.map_take, List.take_range, Nat.min_eq_left h]
/-- What Back has found behind K lines. -/
def BkInv (P : List Int) (K : Nat) (o : Spn) (b : Bool) : Prop := bk (P.take K) = (o, b)
theorem BkInv.start (P : List Int) : BkInv P 0 ⟨0, 0⟩ false := rfl
theorem BkInv.no {P : List Int} {K : Nat} {o : Spn} {b : Bool} (h : BkInv P K o b) (hK : K < P.length) (hn : P[K] < 0) : BkInv P (K + 1) o b := by
  unfold BkInv at *
  rw [List.take_succ_eq_append_getElem hK, bk_snoc, h]
  simp only [bkStep]
  rw [if_pos hn]
theorem BkInv.yes {P : List Int} {K : Nat} {o : Spn} {b : Bool} (h : BkInv P K o b) (hK : K < P.length) (hn : 0 ≤ P[K]) : BkInv P (K + 1) ⟨if b then o.f else P[K], P[K] + 1⟩ true := by
  unfold BkInv at *
  rw [List.take_succ_eq_append_getElem hK, bk_snoc, h]
  simp only [bkStep]
  rw [if_neg (by omega)]
theorem BkInv.fin {P : List Int} {K : Nat} {o : Spn} {b : Bool} (h : BkInv P K o b) (hK : K = P.length) : bk P = (o, b) := by
  unfold BkInv at h
  rwa [hK, List.take_length] at h
/-- The partners of a span ascend: what has been found ends ahead of the next. -/
theorem BkInv.hull {p : List Spn} {m n f : Int} {k K : Nat} {o : Spn} {b : Bool} (ha : Asc 0 0 p m n) (h : BkInv (parts p f k) K o b) (hK : K < (parts p f k).length) (hn : 0 ≤ (parts p f k)[K]) :
    Ml.hull o ⟨(parts p f k)[K], (parts p f k)[K] + 1⟩ = ⟨if b then o.f else (parts p f k)[K], (parts p f k)[K] + 1⟩ := by
  rw [parts_length] at hK
  have hg := parts_get p f k K (by rw [parts_length]; exact hK)
  rw [hg] at hn ⊢
  unfold BkInv at h
  rw [parts_take p f k K (by omega)] at h
  have hb := back_is ha (Int.le_refl _) f K
  rw [h] at hb
  simp only at hb
  have hmem : (⟨part p (f + K), f + K⟩ : Spn) ∈ p := by
    rcases part_cases ha (f + K) with ⟨h1, _⟩ | h1
    · omega
    · exact h1
  unfold Ml.hull
  simp only
  cases b with
  | false =>
    obtain ⟨rfl, _⟩ := hb.none rfl
    rw [if_neg (by simp; omega), if_pos (by simp)]
    simp
  | true =>
    obtain ⟨s, hs, h1, h2, h3⟩ := hb.first rfl
    obtain ⟨u, hu, g1, g2, g3⟩ := hb.last rfl
    have l1 := ha.lt s hs _ hmem h2
    have l2 := ha.lt u hu _ hmem g2
    have l3 := hb.all s hs h1 h2
    simp only at l1 l2
    rw [if_neg (by omega), if_neg (by omega), if_neg (by omega)]
    simp only [if_true, Spn.mk.injEq]
    omega
theorem BkInv.range {p : List Spn} {m n f : Int} {k K : Nat} {o : Spn} {b : Bool} (ha : Asc 0 0 p m n) (hm : 0 ≤ m) (h : BkInv (parts p f k) K o b) (hK : K ≤ k) : 0 ≤ o.f ∧ o.f ≤ m ∧ 0 ≤ o.t ∧ o.t ≤ m := by
  unfold BkInv at h
  rw [parts_take p f k K hK] at h
  have hb := back_is ha (Int.le_refl _) f K
  rw [h] at hb
  simp only at hb
  cases b with
  | false =>
    obtain ⟨rfl, _⟩ := hb.none rfl
    simp only; omega
  | true =>
    obtain ⟨s, hs, h1, h2, h3⟩ := hb.first rfl
    obtain ⟨u, hu, g1, g2, g3⟩ := hb.last rfl
    have := ha.mem s hs
    have := ha.mem u hu
    omega
theorem part_range {p : List Spn} {m n : Int} (ha : Asc 0 0 p m n) (j : Int) (hm : 0 ≤ m) : -1 ≤ part p j ∧ part p j ≤ m := by
  rcases part_cases ha j with ⟨h1, _⟩ | h1
  · omega
  · have := ha.mem _ h1
    simp only at this
    omega
/-! Touches -/
def TcInv (P : List Int) (K : Nat) : Prop := tch P = tchGo (if h : 0 < K ∧ K ≤ P.length then some (P[K - 1]'(by omega)) else none) (P.drop K)
theorem TcInv.start (P : List Int) : TcInv P 0 := by simp [TcInv, tch]
theorem TcInv.yes0 {P : List Int} {K : Nat} (h : TcInv P K) (hK : K < P.length) (hn : P[K] < 0) : tch P = true := by
  unfold TcInv at h
  rw [h, List.drop_eq_getElem_cons hK]
  simp [tchGo, hn]
theorem TcInv.yes1 {P : List Int} {K : Nat} (h : TcInv P (K + 1)) (hK : K + 1 < P.length) (hn : P[K + 1] ≠ P[K] + 1) : tch P = true := by
  unfold TcInv at h
  rw [h, List.drop_eq_getElem_cons hK, dif_pos ⟨by omega, by omega⟩]
  simp [tchGo, hn]
theorem TcInv.no {P : List Int} {K : Nat} (h : TcInv P K) (hK : K < P.length) (hn : 0 ≤ P[K]) (h1 : ∀ Q (e : K = Q + 1), P[K] = P[Q] + 1) : TcInv P (K + 1) := by
  unfold TcInv at *
  have hd : decide (P[K] < 0) = false := by simp; omega
  rw [h, List.drop_eq_getElem_cons hK]
  rcases K with _ | Q
  · rw [dif_neg (by omega), dif_pos ⟨by omega, by omega⟩]
    simp only [tchGo]
    rw [hd]
    simp
  · have := h1 Q rfl
    rw [dif_pos ⟨by omega, by omega⟩, dif_pos ⟨by omega, by omega⟩]
    simp only [tchGo]
    rw [hd]
    simp [this]
theorem TcInv.fin {P : List Int} {K : Nat} (h : TcInv P K) (hK : K = P.length) : tch P = false := by
  unfold TcInv at h
  rw [h, hK, List.drop_length, tchGo]
end Go.Proofs.Ml
