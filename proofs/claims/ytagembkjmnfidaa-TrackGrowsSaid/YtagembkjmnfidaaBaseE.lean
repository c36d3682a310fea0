import Derived.Test.YtagembkjmnfidaaBaseC
namespace Go.Proofs.Ytagembkjmnfidaa
open Go.RowKit
open Go.Proofs.Ml
set_option linter.unusedVariables false

/-- A variable of two cells, in a block of its own. -/
def Two (w : World) (B : Nat) (t : TypeId) (x y : Value) : Prop := w.heap[B]? = some (.cells #[x, y] t (0, 0))
theorem Two.c0 {w : World} {B : Nat} {t : TypeId} {x y : Value} (h : Two w B t x y) : w.cell? ⟨B, 0, none⟩ = some x := cell_of_row w B 0 #[x, y] t (0, 0) h
theorem Two.c1 {w : World} {B : Nat} {t : TypeId} {x y : Value} (h : Two w B t x y) : w.cell? ⟨B, 1, none⟩ = some y := cell_of_row w B 1 #[x, y] t (0, 0) h
theorem Two.z {w : World} {B : Nat} {t : TypeId} {x y : Value} (h : Two w B t x y) (o : Nat) : w.frozen? ⟨B, o, none⟩ = false := by
  unfold Two at h
  simp [World.frozen?, h]
theorem Two.lt {w : World} {B : Nat} {t : TypeId} {x y : Value} (h : Two w B t x y) : B < w.heap.size := (Array.getElem?_eq_some_iff.1 h).1
theorem Two.new (w : World) (t : TypeId) (x y : Value) : Two (w.alloc (.cells #[x, y] t)) w.heap.size t x y := heap_alloc_new w _
theorem Two.alloc {w : World} {B : Nat} {t : TypeId} {x y : Value} (h : Two w B t x y) (o : Obj) : Two (w.alloc o) B t x y := (Below.heap_alloc w o B h.lt).trans h
theorem Two.drewN {w : World} {B : Nat} {t : TypeId} {x y : Value} (h : Two w B t x y) (n : Nat) : Two (w.drewN n) B t x y := h
theorem Two.below {w w' : World} {B N : Nat} {t : TypeId} {x y : Value} (h : Two w B t x y) (hb : Below N w w') (hN : B < N) : Two w' B t x y := (hb.block B hN).trans h
theorem heap_set_at (w : World) (B o : Nat) (v : Value) (c : Array Value) (t : TypeId) (fr : Nat × Nat) (h : w.heap[B]? = some (.cells c t fr)) : (w.setCell ⟨B, o, none⟩ v).heap[B]? = some (.cells (c.setIfInBounds o v) t fr) := by
  unfold World.setCell
  rw [Array.getElem?_modify, if_pos rfl, h]
  rfl
theorem Two.set {w : World} {B : Nat} {t : TypeId} {x y : Value} (h : Two w B t x y) (x' y' : Value) : Two ((w.setCell ⟨B, 0, none⟩ x').setCell ⟨B, 1, none⟩ y') B t x' y' := by
  have h1 := heap_set_at w B 0 x' #[x, y] t (0, 0) h
  have h2 := heap_set_at _ B 1 y' _ t (0, 0) h1
  exact h2
end Go.Proofs.Ytagembkjmnfidaa
