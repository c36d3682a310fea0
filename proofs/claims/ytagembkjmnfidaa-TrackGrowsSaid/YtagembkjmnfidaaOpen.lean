import Derived.Test.YtagembkjmnfidaaBaseB
import Derived.Test.YtagembkjmnfidaaRows
import Derived.ProofKit
import Derived.OpenShut
import Derived.ShutString
import Derived.ChangeOld
import Derived.Deep.Slices
namespace Go.Proofs.Ytagembkjmnfidaa
open Go.ChangeShapes Go.WideShapes Go.ChangeAt Go.RowKit
open Go.Deep
open Go.Proofs.Ml
set_option linter.unusedVariables false

theorem own : ownKnob Try.prog.godebug = none := by kernel_rfl
theorem laidOut : laidOutB Try.prog = true := by kernel_rfl

theorem list_of {α : Type} {P : Nat → α → Prop} : ∀ n : Nat, (∀ i, i < n → ∃ a, P i a) → ∃ l : List α, l.length = n ∧ ∀ i (h : i < l.length), P i l[i]
  | 0, _ => ⟨[], rfl, fun i h => by simp at h⟩
  | n + 1, h => by
    obtain ⟨l, hl, hp⟩ := list_of n (fun i hi => h i (by omega))
    obtain ⟨a, ha⟩ := h n (by omega)
    refine ⟨l ++ [a], by simp [hl], fun i hi => ?_⟩
    rw [List.getElem_append]
    split
    · exact hp i _
    · have : i = n := by simp at hi; omega
      subst this
      simpa using ha

section
variable {H : Type} {enc : TypeId × Value → H} {W : World} {base : Nat} {spare : Nat → Bool} {held : Bool}

set_option maxRecDepth 100000 in
theorem trod_chg {n : Nat} {cs : List Value} {x : DataW H × List MemPlace} (h : DataW.trod enc Try.prog W base spare held n 45 cs = some x) : ∃ c : Chg, cs = chCells c := by
  obtain ⟨xs, n', _, _, hcl, hxl, hf⟩ := DataW.trod_struct Try.underlying45 h
  have h4 : Try.prog.cellsOf 45 = 4 := by kernel_rfl
  have h1 : Try.prog.cellsOf 3 = 1 := by kernel_rfl
  rw [h4] at hcl
  match cs, hcl, xs, hxl with
  | [a, b, c, d], _, [x0, x1, x2, x3], _ =>
    have f0 : DataW.trod enc Try.prog W base spare held n' 3 (([a, b, c, d].drop 0).take (Try.prog.cellsOf 3)) = some x0 := hf 0 _ rfl
    have f1 : DataW.trod enc Try.prog W base spare held n' 3 (([a, b, c, d].drop 1).take (Try.prog.cellsOf 3)) = some x1 := hf 1 _ rfl
    have f2 : DataW.trod enc Try.prog W base spare held n' 3 (([a, b, c, d].drop 2).take (Try.prog.cellsOf 3)) = some x2 := hf 2 _ rfl
    have f3 : DataW.trod enc Try.prog W base spare held n' 3 (([a, b, c, d].drop 3).take (Try.prog.cellsOf 3)) = some x3 := hf 3 _ rfl
    rw [h1] at f0 f1 f2 f3
    obtain ⟨n0, e0, _, _⟩ := DataW.trod_int Try.underlying3 f0
    obtain ⟨n1, e1, _, _⟩ := DataW.trod_int Try.underlying3 f1
    obtain ⟨n2, e2, _, _⟩ := DataW.trod_int Try.underlying3 f2
    obtain ⟨n3, e3, _, _⟩ := DataW.trod_int Try.underlying3 f3
    simp at e0 e1 e2 e3
    exact ⟨⟨n0, n1, n2, n3⟩, by rw [e0, e1, e2, e3]; rfl⟩

set_option maxRecDepth 100000 in
theorem trod_spn {n : Nat} {cs : List Value} {x : DataW H × List MemPlace} (h : DataW.trod enc Try.prog W base spare held n 35 cs = some x) : ∃ c : Spn, cs = spCells c := by
  obtain ⟨xs, n', _, _, hcl, hxl, hf⟩ := DataW.trod_struct Try.underlying35 h
  have h4 : Try.prog.cellsOf 35 = 2 := by kernel_rfl
  have h1 : Try.prog.cellsOf 3 = 1 := by kernel_rfl
  rw [h4] at hcl
  match cs, hcl, xs, hxl with
  | [a, b], _, [x0, x1], _ =>
    have f0 : DataW.trod enc Try.prog W base spare held n' 3 (([a, b].drop 0).take (Try.prog.cellsOf 3)) = some x0 := hf 0 _ rfl
    have f1 : DataW.trod enc Try.prog W base spare held n' 3 (([a, b].drop 1).take (Try.prog.cellsOf 3)) = some x1 := hf 1 _ rfl
    rw [h1] at f0 f1
    obtain ⟨n0, e0, _, _⟩ := DataW.trod_int Try.underlying3 f0
    obtain ⟨n1, e1, _, _⟩ := DataW.trod_int Try.underlying3 f1
    simp at e0 e1
    exact ⟨⟨n0, n1⟩, by rw [e0, e1]; rfl⟩

set_option maxRecDepth 100000 in
theorem trod_hnk {n : Nat} {cs : List Value} {x : DataW H × List MemPlace} (h : DataW.trod enc Try.prog W base spare held n 37 cs = some x) : ∃ c : Hnk, cs = hkCells c := by
  obtain ⟨xs, n', _, _, hcl, hxl, hf⟩ := DataW.trod_struct Try.underlying37 h
  have h4 : Try.prog.cellsOf 37 = 6 := by kernel_rfl
  have h2 : Try.prog.cellsOf 35 = 2 := by kernel_rfl
  have h1 : Try.prog.cellsOf 3 = 1 := by kernel_rfl
  rw [h4] at hcl
  match cs, hcl, xs, hxl with
  | [a, b, c, d, e, f], _, [x0, x1, x2, x3], _ =>
    have f0 : DataW.trod enc Try.prog W base spare held n' 3 (([a, b, c, d, e, f].drop 0).take (Try.prog.cellsOf 3)) = some x0 := hf 0 _ rfl
    have f1 : DataW.trod enc Try.prog W base spare held n' 3 (([a, b, c, d, e, f].drop 1).take (Try.prog.cellsOf 3)) = some x1 := hf 1 _ rfl
    have f2 : DataW.trod enc Try.prog W base spare held n' 35 (([a, b, c, d, e, f].drop 2).take (Try.prog.cellsOf 35)) = some x2 := hf 2 _ rfl
    have f3 : DataW.trod enc Try.prog W base spare held n' 35 (([a, b, c, d, e, f].drop 4).take (Try.prog.cellsOf 35)) = some x3 := hf 3 _ rfl
    rw [h1] at f0 f1
    rw [h2] at f2 f3
    obtain ⟨n0, e0, _, _⟩ := DataW.trod_int Try.underlying3 f0
    obtain ⟨n1, e1, _, _⟩ := DataW.trod_int Try.underlying3 f1
    obtain ⟨s2, e2⟩ := trod_spn f2
    obtain ⟨s3, e3⟩ := trod_spn f3
    simp [spCells] at e0 e1 e2 e3
    exact ⟨⟨n0, n1, s2.f, s2.t, s3.f, s3.t⟩, by rw [e0, e1, e2.1, e2.2, e3.1, e3.2]; rfl⟩

theorem trod_one {n : Nat} {cs : List Value} {x : DataW H × List MemPlace} (h : DataW.trod enc Try.prog W base spare held n 3 cs = some x) : ∃ c : Int, cs = [.int .i64 c] := by
  obtain ⟨n0, e0, _, _⟩ := DataW.trod_int Try.underlying3 h
  exact ⟨n0, e0⟩

theorem inVals_flat (l : List Int) : l.flatMap (fun n => [Value.int .i64 n]) = inVals l := by
  induction l with
  | nil => rfl
  | cons a l ih => rw [List.flatMap_cons, ih]; rfl
theorem int_range {a : Int} (h : (Lit.int .i64 a).wf = true) : -9223372036854775808 ≤ a ∧ a ≤ 9223372036854775807 := bounds_i64 h
theorem add_none (b off j : Nat) : (⟨b, off, none⟩ : Addr).add j = ⟨b, off + j, none⟩ := by simp [Addr.add]

set_option maxRecDepth 100000 in
/-- A list that came in reads as a list of data. -/
theorem open_list {α : Type} (f : α → List Value) (size : Nat) {t e : TypeId} (ht : Try.prog.underlying t = some (.slice e)) (hC : Try.prog.cellsOf e = size) (hs : ∀ a, (f a).length = size) (h0 : 0 < size)
    (hel : ∀ {n : Nat} {cs : List Value} {x : DataW H × List MemPlace}, DataW.trod enc Try.prog W base spare held n e cs = some x → ∃ a, cs = f a)
    {r : Reach} {b0 : Nat} {v : Value} {d : DataW H} {p : List MemPlace} (hv : Value.okWide Try.prog W r b0 t v) (hj : DataW.Trod enc Try.prog W base spare held t v d p) :
    ∃ l : List α, Rd W v size l.length (l.flatMap f) ∧ l.length ≤ 9223372036854775807 := by
  obtain ⟨a, len, cap, rfl⟩ := okWide_slice ht hv
  obtain ⟨fuel, hf⟩ := hj
  rcases open_slice ht hf with ⟨hcs, _⟩ | ⟨x, l', c', m, n, D, Pl, hcs, hb, hl, hm, hmm, hx, hi⟩
  · simp [Value.cells] at hcs
    obtain ⟨rfl, rfl, rfl⟩ := hcs
    exact ⟨[], ⟨none, 0, rfl, Nat.le_refl _, by simp, by simp, fun h => by simp at h⟩, by simp⟩
  · simp [Value.cells] at hcs
    obtain ⟨rfl, rfl, rfl⟩ := hcs
    have hlm : len ≤ m := by rw [hmm]; split <;> omega
    obtain ⟨l, hll, hp⟩ := list_of (P := fun i a => ∀ j u, (f a)[j]? = some u → W.cell? ((x.add (i * size)).add j) = some u) len (fun i hi' => by
      obtain ⟨cs', hc, ht'⟩ := hi i (by omega)
      rw [hC] at hc
      obtain ⟨a, rfl⟩ := hel ht'
      obtain ⟨_, hcl, hat⟩ := World.cells?_some hc
      refine ⟨a, fun j u hu => ?_⟩
      have hj' : j < size := by rw [← hs a]; exact (List.getElem?_eq_some_iff.1 hu).1
      rw [hat j hj', hu])
    subst hll
    refine ⟨l, ⟨some x, cap, rfl, hl, hm, flatMap_len f size hs l, fun hn => ?_⟩, by simp only [maxLen] at hm; omega⟩
    have hne : ∃ u, (f l[0])[0]? = some u := ⟨(f l[0])[0]'(by rw [hs]; exact h0), List.getElem?_eq_getElem _⟩
    obtain ⟨u, hu⟩ := hne
    have h00 := hp 0 hn 0 u hu
    obtain ⟨b, off, spot⟩ := x
    have hspot : spot = none := by
      have := World.cell?_spot h00
      simpa [Addr.add] using this
    subst hspot
    rw [add_none, add_none] at h00
    refine ⟨b, off, rfl, World.block_lt_of_cell? W _ h00, fun j u hju => ?_⟩
    have hjl : j < l.length * size := by rw [← flatMap_len f size hs l]; exact (List.getElem?_eq_some_iff.1 hju).1
    have hq : j / size < l.length := Nat.div_lt_of_lt_mul (by rw [Nat.mul_comm]; exact hjl)
    have hr : j % size < size := Nat.mod_lt _ h0
    have hj : j = (j / size) * size + j % size := by rw [Nat.mul_comm]; exact (Nat.div_add_mod j size).symm
    rw [hj, flatMap_get f size hs l _ _ hq hr] at hju
    have := hp (j / size) hq (j % size) u hju
    rw [add_none, add_none, Nat.add_assoc, ← hj] at this
    exact this
end
end Go.Proofs.Ytagembkjmnfidaa
