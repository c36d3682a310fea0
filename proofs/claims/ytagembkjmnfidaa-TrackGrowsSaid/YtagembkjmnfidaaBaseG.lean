import Derived.Test.YtagembkjmnfidaaBaseF
import Derived.OneCell
namespace Go.Proofs.Ytagembkjmnfidaa
open Go.RowKit
open Go.Proofs.Ml
set_option linter.unusedVariables false

/-- append(out, x): one element more, onto a list of the call's own. wr: the world in which the list is known to lie; W: behind it, with x's cells in its newest block. -/
theorem wp_app1k {P : Program} {ops : Array Oper} {rest : List Oper} {o : Oper} {a : Act} {Q : Exit → Act → World → Prop} (hgd : o.guard = none) (s x : Operand) (t e : TypeId) (size bytes : Nat) (z : Value)
    (ho : o.op = .call { callee := .builtin .append, args := #[s, x], argTypes := #[t, t] }) (ht : P.underlying t = some (.slice e))
    (hinfo : (P.info? e).map (fun i => (i.zero, i.size, i.bytes)) = some (some z, size, bytes)) (hzs : z.cells.size = size) (hsz : 0 < size) (hbytes : bytes ≤ 1000)
    (wr W : World) (base n : Nat) (v : Value) (xs : List Value) (hs : a.eval s = v) (news : Array Value) (H : Nat) (hx : a.eval x = .slice (some ⟨H, 0, none⟩) 1 1) (hH : W.heap.size = H)
    (hown : wr.ownsRow base e size v n xs) (hkeep : W.ownsRow base e size v n xs) (hsize : wr.heap.size ≤ W.heap.size) (hl : news.size = size) (h1' : news.toList.all Value.oneCell' = true) (hn : n ≤ 1000000) (hbase : base ≤ wr.heap.size)
    (h : ∀ v' w', w'.ownsRow base e size v' (n + 1) (xs ++ news.toList) → Below base W w' → (∀ b, b < W.heap.size → some b ≠ v.ownBlock → w'.heap[b]? = W.heap[b]?) → W.heap.size < w'.heap.size → wpList P ops Q rest (a.put o.dst v') w') :
    wpList P ops Q (o :: rest) a (W.alloc (.cells news e)) := by
  subst hH
  have h1 : ∀ u ∈ news.toList, u.oneCell' = true := List.all_eq_true.1 h1'
  obtain ⟨i0, hi, hz0, hz1, hz2⟩ := info_parts hinfo
  have hown2 : (W.alloc (.cells news e)).ownsRow base e size v n xs := hkeep.alloc _
  have hb0 : ∀ k, v.ownBlock = some k → base ≤ k ∧ k < wr.heap.size := hown.lt
  have hbn : (n + 1) * bytes ≤ 140737488355328 := Nat.le_trans (Nat.mul_le_mul (show n + 1 ≤ 1000001 by omega) hbytes) (by decide)
  refine wpList_append_own (W.alloc (.cells news e)) hgd s x t ho base e i0 z size bytes ht hi hz0 hz1 hz2 hzs hsz v n xs hs hown2 ⟨W.heap.size, 0, none⟩ 1 1 news.toList hx (by simpa using hl) ?_ h1 (by simp only [maxLen]; omega) hbn (by simp; omega) ?_
  · intro j u hu
    have hc := cell_of_row (W.alloc (.cells news e)) W.heap.size j news e (0, 0) (heap_alloc_new W _)
    rw [add_head, hc]
    simpa using hu
  · intro v' w' hown' hg _
    have hsz' := hg.size
    simp at hsz'
    refine h v' w' hown' ?_ ?_ (by omega)
    · refine ((Below.refl base W).alloc (by omega) _).grown hg (by simp; omega) fun k hk => (hb0 k hk).1
    · intro b h2 hne
      exact (hg.block b (by simp; omega) hne).trans (Below.heap_alloc W _ b h2)

/-- A row of another type is no row of this one. -/
theorem own_other {w : World} {B : Nat} {e t : TypeId} {size n : Nat} {v : Value} {cs : List Value} {X : Nat} {cc : Array Value} {fr : Nat × Nat} (h : w.ownsRow B e size v n cs) (hX : w.heap[X]? = some (.cells cc t fr)) (hne : t ≠ e) : some X ≠ v.ownBlock := by
  rcases h.2 with ⟨rfl, rfl⟩ | ⟨g, cap, cur, rfl, _, hg, _⟩
  · exact fun e => by cases e
  · intro e'
    simp only [Value.ownBlock, Option.some.injEq] at e'
    subst e'
    rw [hX] at hg
    injection hg with hg
    injection hg with _ h2 _
    exact hne h2
/-- The blocks of a type are as they were. -/
def Kept (t : TypeId) (w w' : World) : Prop := ∀ (X : Nat) (cc : Array Value) (fr : Nat × Nat), w.heap[X]? = some (.cells cc t fr) → w'.heap[X]? = some (.cells cc t fr)
theorem Kept.refl (t : TypeId) (w : World) : Kept t w w := fun _ _ _ h => h
theorem Kept.trans {t : TypeId} {a b c : World} (h : Kept t a b) (k : Kept t b c) : Kept t a c := fun X cc fr hX => k X cc fr (h X cc fr hX)
theorem Kept.set {t : TypeId} {a b : World} (h : Kept t a b) {p : Addr} {cc : Array Value} {t' : TypeId} {fr : Nat × Nat} (hp : b.heap[p.block]? = some (.cells cc t' fr)) (hne : t ≠ t') (u : Value) : Kept t a (b.setCell p u) := fun X c f hX => by
  have h1 := h X c f hX
  refine (Below.heap_setCell b p u X ?_).trans h1
  rintro rfl
  rw [hp] at h1
  injection h1 with h1
  injection h1 with _ h2 _
  exact hne h2.symm
theorem Kept.app {t : TypeId} {a b c : World} (h : Kept t a b) {B : Nat} {e : TypeId} {size n : Nat} {v : Value} {cs : List Value} (hown : b.ownsRow B e size v n cs) (hne : t ≠ e) (hk : ∀ x, x < b.heap.size → some x ≠ v.ownBlock → c.heap[x]? = b.heap[x]?) : Kept t a c := fun X cc f hX => by
  have h1 := h X cc f hX
  exact (hk X (lt_of_block h1) (own_other hown h1 hne)).trans h1
end Go.Proofs.Ytagembkjmnfidaa
