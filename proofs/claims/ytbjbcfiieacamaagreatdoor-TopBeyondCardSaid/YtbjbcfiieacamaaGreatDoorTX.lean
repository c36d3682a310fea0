import Derived.Test.YtbjbcfiieacamaaGreatDoorTR
namespace Go.Proofs.YtbjbcfiieacamaaGreatDoor
open Go.RowKit
set_option linter.unusedVariables false

section
variable {P : Program} {ops : Array Oper} {Q : Exit → Act → World → Prop} {md : Region.Mode} {S : World → Prop} {z : Nat}

/-- Every order from here on, with S behind each operation but number z (the region's last, that waits for all others). -/
def AnyBut (P : Program) (md : Region.Mode) (ops : Array Oper) (Q : Exit → Act → World → Prop) (S : World → Prop) (z : Nat) : Nat → Array Bool → Act → World → Prop
  | 0, l, a, w => Region.ready md ops l = [] ∧ Q .normal a w
  | n + 1, l, a, w =>
    (Region.ready md ops l = [] → Q .normal a w) ∧
    ∀ i ∈ Region.ready md ops l, wpOp P ops Q i (fun b x => (i ≠ z → S x) ∧ AnyBut P md ops Q S z n (l.setIfInBounds i true) b x) a w

theorem AnyBut.any : ∀ (n : Nat) (l : Array Bool) (a : Act) (w : World), AnyBut P md ops Q S z n l a w → wpAny P md ops Q n l a w
  | 0, _, _, _, h => h
  | n + 1, _, _, _, h => ⟨h.1, fun i hi => wpOp_mono (fun b x hx => AnyBut.any n _ b x hx.2) (h.2 i hi)⟩

/-- Number z waits for all others. -/
def lastBut (md : Region.Mode) (ops : Array Oper) (z : Nat) : Bool :=
  (List.range ops.size).all fun k => k == z || match ops[z]? with | some o => o.after.any (fun e => e.on == k && Region.binds md e) | none => false

theorem lastBut_spec (h : lastBut md ops z = true) {l : Array Bool} (hz : z ∈ Region.ready md ops l) {k : Nat} (hk : k ∈ Region.ready md ops l) : k = z := by
  obtain ⟨k0, ok, hok, _⟩ := mem_ready.1 hk
  obtain ⟨_, oz, hoz, hall⟩ := mem_ready.1 hz
  have h1 := List.all_eq_true.1 h k (List.mem_range.2 (Array.getElem?_eq_some_iff.1 hok).1)
  rw [hoz] at h1
  rcases Bool.or_eq_true_iff.1 h1 with h2 | h2
  · exact eq_of_beq h2
  · obtain ⟨i, hi, h3⟩ := Array.any_eq_true.1 h2
    rw [Bool.and_eq_true] at h3
    have h4 := hall _ (Array.getElem_mem hi) h3.2
    rw [eq_of_beq h3.1] at h4
    rcases Nat.lt_or_ge k l.size with hlt | hge
    · simp [hlt] at h4 k0
      rw [h4] at k0
      cases k0
    · simp [Array.getElem?_eq_none hge] at h4

theorem AnyBut.first {i : Nat} {oi : Oper} {v : Value} (hi : ops[i]? = some oi) (hsel : ∀ (j : Nat) (o : Oper) cs b, ops[j]? = some o → o.op ≠ .select cs b)
    (hQ : ∀ c a w, Q (.panic c) (a.put oi.dst v) w → Q (.panic c) a w) (hlast : lastBut md ops z = true) (hiz : i ≠ z) :
    ∀ (n : Nat) (l : Array Bool) (a : Act) (w : World),
      (∀ j oj, ops[j]? = some oj → j ≠ i → l.getD j true = false → (∀ e ∈ oj.after, Region.binds md e = true → e.on ≠ i) → oi.apart ops oj = true) →
      i ∈ Region.ready md ops l → YieldsIf P ops S oi v a → S w →
      AnyBut P md ops Q S z n (l.setIfInBounds i true) (a.put oi.dst v) w → AnyBut P md ops Q S z (n + 1) l a w := by
  intro n
  induction n with
  | zero =>
    intro l a w _ hr hy hS H
    refine ⟨fun h => absurd (h ▸ hr) (by simp), fun j hj => ?_⟩
    by_cases hji : j = i
    · subst hji; exact hy.wpOp hi hS ⟨fun _ => hS, H⟩
    · have h0 := ready_mono hj hji
      rw [H.1] at h0
      cases h0
  | succ n ih =>
    intro l a w hfree hr hy hS H
    refine ⟨fun h => absurd (h ▸ hr) (by simp), fun j hj => ?_⟩
    by_cases hji : j = i
    · subst hji; exact hy.wpOp hi hS ⟨fun _ => hS, H⟩
    · have hjz : j ≠ z := fun e => hiz (lastBut_spec hlast (e ▸ hj) hr)
      obtain ⟨hjun, oj, hoj, hall⟩ := mem_ready.1 hj
      have hnot : ∀ e ∈ oj.after, Region.binds md e = true → e.on ≠ i := fun e he hb heq => by
        have h1 := hall e he hb
        have h0 := (mem_ready.1 hr).1
        rw [heq] at h1
        rcases Nat.lt_or_ge i l.size with h' | h'
        · simp [h'] at h0 h1
          rw [h0] at h1
          cases h1
        · simp [Array.getElem?_eq_none h'] at h1
      have step := wpOp_putIf hoj (hfree j oj hoj hji hjun hnot) (fun cs b => hsel i oi cs b hi) (fun cs b => hsel j oj cs b hoj) hQ hy (H.2 j (ready_mono hj hji))
      refine wpOp_mono (fun b x hx => ⟨hx.2.1, ih (l.setIfInBounds j true) b x ?_ (ready_mono hr (Ne.symm hji)) hx.1 (hx.2.1 hjz) ?_⟩) step
      · intro k ok hk hki hun hno
        refine hfree k ok hk hki ?_ hno
        by_cases hjk : j = k
        · subst hjk; exact hjun
        · rw [getD_set_ne true hjk] at hun; exact hun
      · rw [Array.setIfInBounds_comm _ _ hji]
        exact hx.2.2

theorem AnyBut.take (i : Nat) {oi : Oper} (v : Value) {n : Nat} {l : Array Bool} {a : Act} {w : World} (hi : ops[i]? = some oi)
    (hs : Region.noSelect ops = true) (hlast : lastBut md ops z = true) (hiz : i ≠ z) (hf : Region.free md ops l i = true) (hr : (Region.ready md ops l).contains i = true)
    (hQ : ∀ c a w, Q (.panic c) (a.put oi.dst v) w → Q (.panic c) a w) (hw : Region.wanted oi (yielded ops a.tmps) = true) (hy : ∀ x, S x → (execOp a.eval oi).run P x = .ok (.value v) x) (hS : S w)
    (h : AnyBut P md ops Q S z n (l.setIfInBounds i true) (a.put oi.dst v) w) : AnyBut P md ops Q S z (n + 1) l a w :=
  AnyBut.first hi (Region.noSelect_spec hs) hQ hlast hiz n l a w (Region.free_spec hi hf) (by simpa using hr) (.inl ⟨hw, hy⟩) hS h

/-- One alone may come up. -/
theorem AnyBut.only (i : Nat) {o : Oper} {n : Nat} {l : Array Bool} {a : Act} {w : World} (hr : Region.ready md ops l = [i]) (ho : ops[i]? = some o)
    (h : ∀ K : Act → World → Prop, Hid (∀ b x, (i ≠ z → S x) → AnyBut P md ops Q S z n (l.setIfInBounds i true) b x → K b x) → if Region.wanted o (yielded ops a.tmps) = true then Oper.wp P o a w K Q else K (a.put o.dst undef) w) : AnyBut P md ops Q S z (n + 1) l a w := by
  refine ⟨fun h0 => absurd (hr ▸ h0) (by simp), fun j hj => ?_⟩
  rw [hr, List.mem_singleton] at hj
  subst hj
  exact wpOp_step ho fun K hK => h K fun b x hS hx => hK b x ⟨hS, hx⟩

theorem AnyBut.done {n : Nat} {l : Array Bool} {a : Act} {w : World} (hr : Region.ready md ops l = []) (h : Q .normal a w) : AnyBut P md ops Q S z n l a w := by
  cases n with
  | zero => exact ⟨hr, h⟩
  | succ n => exact ⟨fun _ => h, by rw [hr]; simp⟩

theorem AnyBut.region (S : World → Prop) (z : Nat) {id : Nat} {a : Act} {w : World} (hm : P.follows .mixedOrders = true)
    (h : AnyBut P .any ops Q S z ops.size (Array.replicate ops.size false) a w.drew) : (Code.region id ops true).wp P Q a w := wp_region_any hm (h.any)
end
end Go.Proofs.YtbjbcfiieacamaaGreatDoor
