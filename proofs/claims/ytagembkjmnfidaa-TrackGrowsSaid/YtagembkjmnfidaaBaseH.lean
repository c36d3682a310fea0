import Derived.Test.YtagembkjmnfidaaBaseG
import Derived.Test.YtagembkjmnfidaaSpecI
namespace Go.Proofs.Ytagembkjmnfidaa
open Go.RowKit
open Go.Proofs.Ml
set_option linter.unusedVariables false

/-! Only one block, and what is new, has turned. -/
theorem only_refl (w : World) (row : Option Nat) : w.grownBy w row := ⟨rfl, rfl, rfl, Nat.le_refl _, fun _ _ _ => rfl⟩
theorem only_drewN {a w : World} {row : Option Nat} (h : a.grownBy w row) (n : Nat) : a.grownBy (w.drewN n) row := ⟨h.os, h.tape, h.output, h.size, h.block⟩
theorem only_drew {a w : World} {row : Option Nat} (h : a.grownBy w row) : a.grownBy w.drew row := ⟨h.os, h.tape, h.output, h.size, h.block⟩
theorem only_alloc {a w : World} {row : Option Nat} (h : a.grownBy w row) (o : Obj) : a.grownBy (w.alloc o) row :=
  ⟨h.os, h.tape, h.output, Nat.le_trans h.size (by simp), fun i hi hne => (Below.heap_alloc w o i (Nat.lt_of_lt_of_le hi h.size)).trans (h.block i hi hne)⟩
theorem only_setCell {a w : World} {g : Nat} (h : a.grownBy w (some g)) {p : Addr} (hp : p.block = g) (u : Value) : a.grownBy (w.setCell p u) (some g) :=
  ⟨h.os, h.tape, h.output, by simpa [World.setCell] using h.size, fun i hi hne => (Below.heap_setCell w p u i (by rintro rfl; exact hne (by rw [hp]))).trans (h.block i hi hne)⟩
theorem only_below {a w : World} {g B : Nat} (h : a.grownBy w (some g)) (hB : B ≤ a.heap.size) (hg : B ≤ g) : Below B a w :=
  ⟨h.os, h.tape, h.output, h.size, fun i hi => h.block i (by omega) (fun e => by injection e with e; omega)⟩
theorem only_of_below {a w : World} (h : Below a.heap.size a w) (row : Option Nat) : a.grownBy w row := ⟨h.os, h.tape, h.output, h.size, fun i hi _ => h.block i hi⟩
theorem only_trans {a b c : World} {g : Nat} (h : a.grownBy b (some g)) (k : b.grownBy c (some g)) : a.grownBy c (some g) :=
  ⟨k.os.trans h.os, k.tape.trans h.tape, k.output.trans h.output, Nat.le_trans h.size k.size, fun i hi hne => (k.block i (Nat.lt_of_lt_of_le hi h.size) hne).trans (h.block i hi hne)⟩
theorem only_cell {a w : World} {g : Nat} (h : a.grownBy w (some g)) {b o : Nat} {v : Value} (hc : a.cell? ⟨b, o, none⟩ = some v) (hne : b ≠ g) : w.cell? ⟨b, o, none⟩ = some v :=
  h.cell (a := ⟨b, o, none⟩) hc (fun e => hne (by injection e))
theorem Rd.only {w w' : World} {v : Value} {size n : Nat} {cs : List Value} {g : Nat} (h : Rd w v size n cs) (hg : w.grownBy w' (some g)) (hne : ∀ A c, v = .slice (some A) n c → A.block ≠ g) : Rd w' v size n cs := by
  obtain ⟨A, cap, hv, h1, h1', h2, h3⟩ := h
  refine ⟨A, cap, hv, h1, h1', h2, fun hn => ?_⟩
  obtain ⟨b, off, hA, hbl, hc⟩ := h3 hn
  have hbg : b ≠ g := hne ⟨b, off, none⟩ cap (by rw [hv, hA])
  exact ⟨b, off, hA, Nat.lt_of_lt_of_le hbl hg.size, fun j u hu => only_cell hg (hc j u hu) hbg⟩

theorem in_set (l : List Int) (I : Nat) (b : Int) : (inVals l).set I (.int .i64 b) = inVals (l.set I b) := by simp [inVals, List.map_set]
theorem made_ints (n : Nat) : (madeCells (Value.cells (.int .i64 0)) (n * 1)).toList = inVals (List.replicate n 0) := by
  have h : (madeCells #[Value.int .i64 0] n).toList = List.replicate n (Value.int .i64 0) := toList_madeCells_one _ n
  rw [Nat.mul_one]
  show (madeCells #[Value.int .i64 0] n).toList = _
  rw [h]
  simp [inVals]
/-- An element of a list of numbers of the call's own is stored anew. -/
theorem own_in_set {w : World} {B g n cap : Nat} {l : List Int} (h : w.ownsRow B 3 1 (.slice (some ⟨g, 0, none⟩) n cap) n (inVals l)) (k : Nat) (u : Int) :
    (w.setCell ⟨g, k, none⟩ (.int .i64 u)).ownsRow B 3 1 (.slice (some ⟨g, 0, none⟩) n cap) n (inVals (l.set k u)) := by
  have h1 := (h.stored k (.int .i64 u)).1
  rwa [in_set] at h1
theorem own_in_cell {w : World} {B g n cap : Nat} {l : List Int} (h : w.ownsRow B 3 1 (.slice (some ⟨g, 0, none⟩) n cap) n (inVals l)) (k : Nat) (hk : k < l.length) : w.cell? ⟨g, k, none⟩ = some (.int .i64 l[k]) := by
  have hl := h.1
  rw [inVals_len] at hl
  rw [h.cellAt k (by omega)]
  simp [inVals]

end Go.Proofs.Ytagembkjmnfidaa
namespace Go.Proofs.Ml
theorem par_range {q : List Spn} {k n : Int} (h : Asc 0 0 q k n) (hn : 0 ≤ n) (j : Int) : 0 ≤ par q j ∧ par q j ≤ n := by
  by_cases hx : ∃ s ∈ q, s.f = j
  · obtain ⟨s, hs, rfl⟩ := hx
    rw [par_mem h hs]
    have := h.mem s hs
    omega
  · rw [par_none (fun s hs he => hx ⟨s, hs, he⟩)]
    omega
theorem CpInv.len {p q : List Spn} {A B : Nat} {a : Spn} {L : List Spn} {m k n : Int} (h : CpInv p q A a B L) (hp : Asc 0 0 p m k) (hq : Asc 0 0 q k n) (hm : m ≤ 4096) : L.length ≤ 4096 + q.length := by
  unfold CpInv at h
  have h1 := compP_len hp hq (Int.le_refl _) A
  have h2 := List.length_filter_le (fun b => a.t == b.f) (q.take B)
  have h3 : (q.take B).length ≤ q.length := List.length_take_le' _ _
  rw [h, List.length_append, List.length_map]
  omega
end Go.Proofs.Ml
