/- A region whose operations may come up in any order, by a statement that each of them keeps; four lists and a number may be made in any order. -/
import Derived.Test.YtbjbcfiieacamaaGreatDoorTB
namespace Go.Proofs.YtbjbcfiieacamaaGreatDoor
open Go.RowKit
set_option linter.unusedVariables false

section
variable {P : Program} {ops : Array Oper} {Q : Exit → Act → World → Prop} {md : Region.Mode} {S : World → Prop}
theorem wpAnyH_inv (I : Nat → Array Bool → Act → World → Prop)
    (h : ∀ n l a w, I n l a w → wpAnyH P md ops Q S n l a w ∨ ∃ m, n = m + 1 ∧ Region.ready md ops l ≠ [] ∧ ∀ i ∈ Region.ready md ops l, wpOp P ops Q i (fun b x => S x ∧ I m (l.setIfInBounds i true) b x) a w) :
    ∀ n l a w, I n l a w → wpAnyH P md ops Q S n l a w := by
  intro n
  induction n with
  | zero =>
    intro l a w hi
    rcases h _ _ _ _ hi with h0 | ⟨m, hm, _⟩
    · exact h0
    · exact absurd hm (by omega)
  | succ n ih =>
    intro l a w hi
    rcases h _ _ _ _ hi with h0 | ⟨m, hm, hne, h1⟩
    · exact h0
    · obtain rfl : m = n := by omega
      exact ⟨fun h0 => absurd h0 hne, fun i hi => wpOp_mono (fun b x hx => ⟨hx.1, ih _ _ _ hx.2⟩) (h1 i hi)⟩

/-- An operation that yields its value in every world that meets S is taken first; its temporary by number. -/
theorem takeH (i d : Nat) {oi : Oper} (v : Value) {n : Nat} {l : Array Bool} {a : Act} {w : World} (hi : ops[i]? = some oi) (hd : oi.dst = some d)
    (hs : Region.noSelect ops = true) (hf : Region.free md ops l i = true) (hr : (Region.ready md ops l).contains i = true)
    (hQ : ∀ c a w, Q (.panic c) (a.put oi.dst v) w → Q (.panic c) a w) (hw : Region.wanted oi (yielded ops a.tmps) = true) (hy : ∀ x, S x → (execOp a.eval oi).run P x = .ok (.value v) x) (hS : S w)
    (h : wpAnyH P md ops Q S n (l.setIfInBounds i true) { a with tmps := a.tmps.setIfInBounds d v } w) : wpAnyH P md ops Q S (n + 1) l a w :=
  wpAnyH_take hi hs hf hr hQ (.inl ⟨hw, hy⟩) hS (by rw [hd]; exact h)

/-- An operation that is carried out. -/
theorem stepH {i : Nat} {o : Oper} {K : Act → World → Prop} {a : Act} {w : World} (ho : ops[i]? = some o) (hw : Region.wanted o (yielded ops a.tmps) = true)
    (h : ∀ K' : Act → World → Prop, Hid (∀ a w, K a w → K' a w) → Oper.wp P o a w K' Q) : wpOp P ops Q i K a w :=
  wpOp_step ho fun K' hK => by rw [if_pos hw]; exact h K' hK
/-- One alone may come up. -/
theorem onlyH (i : Nat) {o : Oper} {n : Nat} {l : Array Bool} {a : Act} {w : World} (hr : Region.ready md ops l = [i]) (ho : ops[i]? = some o) (hw : Region.wanted o (yielded ops a.tmps) = true)
    (h : ∀ K' : Act → World → Prop, Hid (∀ b x, S x → wpAnyH P md ops Q S n (l.setIfInBounds i true) b x → K' b x) → Oper.wp P o a w K' Q) : wpAnyH P md ops Q S (n + 1) l a w :=
  wpAnyH_all hr (by simp) fun j hj => by
    rw [List.mem_singleton] at hj
    subst hj
    exact stepH ho hw fun K' hK => h K' fun b x h1 h2 => hK b x ⟨h1, h2⟩

/-- What has come up: operations 8, 17, 26, 35 (the four lists), 36 (the list of them), 38 (the number); 39, 40, 41 wait for all of them. -/
def listed8 (x1 x2 x3 x4 x5 xc : Bool) : Array Bool :=
  #[true, true, true, true, true, true, true, true, x1, true, true, true, true, true, true, true, true, x2, true, true, true, true, true, true, true, true, x3, true, true, true, true, true, true, true, true, x4, x5, true, xc, false, false, false]
def can8 (x1 x2 x3 x4 x5 xc : Bool) (i : Nat) : Bool :=
  (i == 8 && !x1) || (i == 17 && !x2) || (i == 26 && !x3) || (i == 35 && !x4) || (i == 36 && (!x5 && (x1 && (x2 && (x3 && x4))))) || (i == 38 && !xc)
def fine8 (md : Region.Mode) (ops : Array Oper) (x1 x2 x3 x4 x5 xc : Bool) : Bool :=
  (x5 && xc) || (!(Region.ready md ops (listed8 x1 x2 x3 x4 x5 xc)).isEmpty && (Region.ready md ops (listed8 x1 x2 x3 x4 x5 xc)).all fun i => can8 x1 x2 x3 x4 x5 xc i)
def both : List Bool := [false, true]
def fineAll8 (md : Region.Mode) (ops : Array Oper) : Bool :=
  both.all fun x1 => both.all fun x2 => both.all fun x3 => both.all fun x4 => both.all fun xc => fine8 md ops x1 x2 x3 x4 false xc && fine8 md ops true true true true true xc
theorem mem_both (x : Bool) : x ∈ both := by cases x <;> decide
def left8 (x : Bool) : Nat := if x then 0 else 1

theorem any8 (hfine : fineAll8 md ops = true) (w0 : World) (F : Value → Value → Value → Value → Value → Value → Act)
    (G1 G2 G3 G4 G5 : Value → World → Prop) (Gc : Value → Prop)
    (g1 : ∀ u w x, Below w.heap.size w x → G1 u w → G1 u x) (g2 : ∀ u w x, Below w.heap.size w x → G2 u w → G2 u x)
    (g3 : ∀ u w x, Below w.heap.size w x → G3 u w → G3 u x) (g4 : ∀ u w x, Below w.heap.size w x → G4 u w → G4 u x)
    (g5 : ∀ u w x, Below w.heap.size w x → G5 u w → G5 u x)
    (s1 : ∀ (u1 u2 u3 u4 u5 uc : Value) (w : World) (K : Act → World → Prop), Below w0.heap.size w0 w → Hid (∀ u x, Below w.heap.size w x → G1 u x → K (F u u2 u3 u4 u5 uc) x) → wpOp P ops Q 8 K (F u1 u2 u3 u4 u5 uc) w)
    (s2 : ∀ (u1 u2 u3 u4 u5 uc : Value) (w : World) (K : Act → World → Prop), Below w0.heap.size w0 w → Hid (∀ u x, Below w.heap.size w x → G2 u x → K (F u1 u u3 u4 u5 uc) x) → wpOp P ops Q 17 K (F u1 u2 u3 u4 u5 uc) w)
    (s3 : ∀ (u1 u2 u3 u4 u5 uc : Value) (w : World) (K : Act → World → Prop), Below w0.heap.size w0 w → Hid (∀ u x, Below w.heap.size w x → G3 u x → K (F u1 u2 u u4 u5 uc) x) → wpOp P ops Q 26 K (F u1 u2 u3 u4 u5 uc) w)
    (s4 : ∀ (u1 u2 u3 u4 u5 uc : Value) (w : World) (K : Act → World → Prop), Below w0.heap.size w0 w → Hid (∀ u x, Below w.heap.size w x → G4 u x → K (F u1 u2 u3 u u5 uc) x) → wpOp P ops Q 35 K (F u1 u2 u3 u4 u5 uc) w)
    (s5 : ∀ (u1 u2 u3 u4 u5 uc : Value) (w : World) (K : Act → World → Prop), Below w0.heap.size w0 w → G1 u1 w → G2 u2 w → G3 u3 w → G4 u4 w → Hid (∀ u x, Below w.heap.size w x → G5 u x → K (F u1 u2 u3 u4 u uc) x) → wpOp P ops Q 36 K (F u1 u2 u3 u4 u5 uc) w)
    (sc : ∀ (u1 u2 u3 u4 u5 uc : Value) (w : World) (K : Act → World → Prop), Below w0.heap.size w0 w → Hid (∀ u, Gc u → K (F u1 u2 u3 u4 u5 u) w) → wpOp P ops Q 38 K (F u1 u2 u3 u4 u5 uc) w)
    (fin : ∀ (u1 u2 u3 u4 u5 uc : Value) (w : World), Below w0.heap.size w0 w → G5 u5 w → Gc uc → wpAnyH P md ops Q (fun x => Below w0.heap.size w0 x) 3 (listed8 true true true true true true) (F u1 u2 u3 u4 u5 uc) w)
    (l : Array Bool) (a : Act) (u1 u2 u3 u4 u5 uc : Value) (hl : listed8 false false false false false false = l) (ha : F u1 u2 u3 u4 u5 uc = a) :
    wpAnyH P md ops Q (fun x => Below w0.heap.size w0 x) 9 l a w0 := by
  subst hl
  subst ha
  refine wpAnyH_inv (fun n l a w => ∃ (x1 x2 x3 x4 x5 xc : Bool) (u1 u2 u3 u4 u5 uc : Value), n = 3 + left8 x1 + left8 x2 + left8 x3 + left8 x4 + left8 x5 + left8 xc ∧ l = listed8 x1 x2 x3 x4 x5 xc ∧ a = F u1 u2 u3 u4 u5 uc ∧ Below w0.heap.size w0 w ∧ (x1 = true → G1 u1 w) ∧ (x2 = true → G2 u2 w) ∧ (x3 = true → G3 u3 w) ∧ (x4 = true → G4 u4 w) ∧ (x5 = true → G5 u5 w ∧ x1 = true ∧ x2 = true ∧ x3 = true ∧ x4 = true) ∧ (xc = true → Gc uc)) ?_ 9 _ _ w0 ⟨false, false, false, false, false, false, u1, u2, u3, u4, u5, uc, rfl, rfl, rfl, Below.refl _ _, by simp, by simp, by simp, by simp, by simp, by simp⟩
  rintro n l a w ⟨x1, x2, x3, x4, x5, xc, u1, u2, u3, u4, u5, uc, hn, rfl, rfl, hb, k1, k2, k3, k4, k5, kc⟩
  by_cases hx : x5 = true ∧ xc = true
  · obtain ⟨rfl, rfl⟩ := hx
    obtain ⟨h5, rfl, rfl, rfl, rfl⟩ := k5 rfl
    subst hn
    exact .inl (fin u1 u2 u3 u4 u5 uc w hb h5 (kc rfl))
  · have hf : fine8 md ops x1 x2 x3 x4 x5 xc = true := by
      have h1 := List.all_eq_true.1 (List.all_eq_true.1 (List.all_eq_true.1 (List.all_eq_true.1 (List.all_eq_true.1 hfine x1 (mem_both _)) x2 (mem_both _)) x3 (mem_both _)) x4 (mem_both _)) xc (mem_both _)
      rw [Bool.and_eq_true] at h1
      cases x5 with
      | false => exact h1.1
      | true =>
        obtain ⟨_, rfl, rfl, rfl, rfl⟩ := k5 rfl
        exact h1.2
    have hx' : (x5 && xc) = false := by
      cases x5 <;> cases xc <;> simp_all
    unfold fine8 at hf
    rw [hx', Bool.false_or, Bool.and_eq_true] at hf
    obtain ⟨hne, hall⟩ := hf
    refine .inr ⟨n - 1, ?_, fun h0 => by rw [h0] at hne; simp at hne, fun i hi => ?_⟩
    · omega
    · have hc := List.all_eq_true.1 hall i hi
      unfold can8 at hc
      simp only [Bool.or_eq_true, Bool.and_eq_true, beq_iff_eq, Bool.not_eq_true'] at hc
      rcases hc with ((((⟨rfl, rfl⟩ | ⟨rfl, rfl⟩) | ⟨rfl, rfl⟩) | ⟨rfl, rfl⟩) | ⟨rfl, rfl, rfl, rfl, rfl, rfl⟩) | ⟨rfl, rfl⟩
      · have h5 : x5 = false := by
          cases x5 with
          | false => rfl
          | true => exact absurd (k5 rfl).2.1 (by simp)
        subst h5
        exact s1 u1 u2 u3 u4 u5 uc w _ hb (fun u x hbx hg => ⟨hb.trans (hbx.mono hb.size), true, x2, x3, x4, false, xc, u, u2, u3, u4, u5, uc, by simp [left8] at hn ⊢; omega, rfl, rfl, hb.trans (hbx.mono hb.size), fun _ => hg, fun h => g2 _ _ _ hbx (k2 h), fun h => g3 _ _ _ hbx (k3 h), fun h => g4 _ _ _ hbx (k4 h), by simp, kc⟩)
      · have h5 : x5 = false := by
          cases x5 with
          | false => rfl
          | true => exact absurd (k5 rfl).2.2.1 (by simp)
        subst h5
        exact s2 u1 u2 u3 u4 u5 uc w _ hb (fun u x hbx hg => ⟨hb.trans (hbx.mono hb.size), x1, true, x3, x4, false, xc, u1, u, u3, u4, u5, uc, by simp [left8] at hn ⊢; omega, rfl, rfl, hb.trans (hbx.mono hb.size), fun h => g1 _ _ _ hbx (k1 h), fun _ => hg, fun h => g3 _ _ _ hbx (k3 h), fun h => g4 _ _ _ hbx (k4 h), by simp, kc⟩)
      · have h5 : x5 = false := by
          cases x5 with
          | false => rfl
          | true => exact absurd (k5 rfl).2.2.2.1 (by simp)
        subst h5
        exact s3 u1 u2 u3 u4 u5 uc w _ hb (fun u x hbx hg => ⟨hb.trans (hbx.mono hb.size), x1, x2, true, x4, false, xc, u1, u2, u, u4, u5, uc, by simp [left8] at hn ⊢; omega, rfl, rfl, hb.trans (hbx.mono hb.size), fun h => g1 _ _ _ hbx (k1 h), fun h => g2 _ _ _ hbx (k2 h), fun _ => hg, fun h => g4 _ _ _ hbx (k4 h), by simp, kc⟩)
      · have h5 : x5 = false := by
          cases x5 with
          | false => rfl
          | true => exact absurd (k5 rfl).2.2.2.2 (by simp)
        subst h5
        exact s4 u1 u2 u3 u4 u5 uc w _ hb (fun u x hbx hg => ⟨hb.trans (hbx.mono hb.size), x1, x2, x3, true, false, xc, u1, u2, u3, u, u5, uc, by simp [left8] at hn ⊢; omega, rfl, rfl, hb.trans (hbx.mono hb.size), fun h => g1 _ _ _ hbx (k1 h), fun h => g2 _ _ _ hbx (k2 h), fun h => g3 _ _ _ hbx (k3 h), fun _ => hg, by simp, kc⟩)
      · exact s5 u1 u2 u3 u4 u5 uc w _ hb (k1 rfl) (k2 rfl) (k3 rfl) (k4 rfl) (fun u x hbx hg => ⟨hb.trans (hbx.mono hb.size), true, true, true, true, true, xc, u1, u2, u3, u4, u, uc, by simp [left8] at hn ⊢; omega, rfl, rfl, hb.trans (hbx.mono hb.size), fun h => g1 _ _ _ hbx (k1 h), fun h => g2 _ _ _ hbx (k2 h), fun h => g3 _ _ _ hbx (k3 h), fun h => g4 _ _ _ hbx (k4 h), fun _ => ⟨hg, rfl, rfl, rfl, rfl⟩, kc⟩)
      · exact sc u1 u2 u3 u4 u5 uc w _ hb (fun u hg => ⟨hb, x1, x2, x3, x4, x5, true, u1, u2, u3, u4, u5, u, by simp [left8] at hn ⊢; omega, rfl, rfl, hb, k1, k2, k3, k4, k5, fun _ => hg⟩)
end
/-- A list of three strings. -/
def Lst (s0 s1 s2 : ByteArray) (u : Value) (w : World) : Prop := ∃ g, u = .slice (some ⟨g, 0, none⟩) 3 3 ∧ Rd w u 1 3 [.string s0, .string s1, .string s2]
theorem Lst.below {s0 s1 s2 : ByteArray} (u : Value) (w x : World) (hb : Below w.heap.size w x) (h : Lst s0 s1 s2 u w) : Lst s0 s1 s2 u x := by
  obtain ⟨g, h1, h2⟩ := h
  exact ⟨g, h1, h2.below hb (Nat.le_refl _)⟩
/-- A list of four such lists. -/
def Lsts (G1 G2 G3 G4 : Value → World → Prop) (u : Value) (w : World) : Prop := ∃ g v1 v2 v3 v4, u = .slice (some ⟨g, 0, none⟩) 4 4 ∧ g < w.heap.size ∧ w.cell? ⟨g, 0, none⟩ = some v1 ∧ w.cell? ⟨g, 1, none⟩ = some v2 ∧ w.cell? ⟨g, 2, none⟩ = some v3 ∧ w.cell? ⟨g, 3, none⟩ = some v4 ∧ G1 v1 w ∧ G2 v2 w ∧ G3 v3 w ∧ G4 v4 w
theorem Lsts.below {G1 G2 G3 G4 : Value → World → Prop} (g1 : ∀ u w x, Below w.heap.size w x → G1 u w → G1 u x) (g2 : ∀ u w x, Below w.heap.size w x → G2 u w → G2 u x)
    (g3 : ∀ u w x, Below w.heap.size w x → G3 u w → G3 u x) (g4 : ∀ u w x, Below w.heap.size w x → G4 u w → G4 u x) (u : Value) (w x : World) (hb : Below w.heap.size w x) (h : Lsts G1 G2 G3 G4 u w) : Lsts G1 G2 G3 G4 u x := by
  obtain ⟨g, v1, v2, v3, v4, h1, h2, c0, c1, c2, c3, k1, k2, k3, k4⟩ := h
  exact ⟨g, v1, v2, v3, v4, h1, Nat.lt_of_lt_of_le h2 hb.size, (hb.cell (p := ⟨g, 0, none⟩) h2).trans c0, (hb.cell (p := ⟨g, 1, none⟩) h2).trans c1, (hb.cell (p := ⟨g, 2, none⟩) h2).trans c2, (hb.cell (p := ⟨g, 3, none⟩) h2).trans c3, g1 _ _ _ hb k1, g2 _ _ _ hb k2, g3 _ _ _ hb k3, g4 _ _ _ hb k4⟩
end Go.Proofs.YtbjbcfiieacamaaGreatDoor
