/- The arguments of the row opened: a list of integers reads as its cells. -/
import Derived.Test.YtbjbcfiieacamaaGreatDoorUJ
import Derived.ProofKit
import Derived.OpenShut
import Derived.ChangeOld
import Derived.Deep.Slices
namespace Go.Proofs.YtbjbcfiieacamaaGreatDoor
open Go.ChangeShapes Go.WideShapes Go.ChangeAt Go.RowKit
open Go.Deep
set_option linter.unusedVariables false

theorem own : ownKnob Tryz.prog.godebug = none := by kernel_rfl
theorem laidOut : laidOutB Tryz.prog = true := by kernel_rfl

theorem list_of {α : Type} {P : Nat → α → Prop} : ∀ n : Nat, (∀ i, i < n → ∃ a, P i a) → ∃ l : List α, l.length = n ∧ ∀ i (h : i < l.length), P i l[i]
  | 0, _ => ⟨[], rfl, fun i h => by simp at h⟩
  | n + 1, h => by
    obtain ⟨l, hl, hp⟩ := list_of n (fun i hi => h i (by omega))
    obtain ⟨a, ha⟩ := h n (by omega)
    refine ⟨l ++ [a], by simp [hl], fun i hi => ?_⟩
    rw [List.getElem_append]
    split
    · exact hp i _
    · have : i = n := by simp at hi; omega
      subst this
      simpa using ha
theorem int_range {a : Int} (h : (Lit.int .i64 a).wf = true) : -9223372036854775808 ≤ a ∧ a ≤ 9223372036854775807 := bounds_i64 h
theorem add_none (b off j : Nat) : (⟨b, off, none⟩ : Addr).add j = ⟨b, off + j, none⟩ := by simp [Addr.add]

section
variable {H : Type} {enc : TypeId × Value → H} {W : World} {base : Nat} {spare : Nat → Bool} {held : Bool}
theorem trod_one {n : Nat} {cs : List Value} {x : DataW H × List MemPlace} (h : DataW.trod enc Tryz.prog W base spare held n 3 cs = some x) : ∃ c : Int, cs = [.int .i64 c] := by
  obtain ⟨n0, e0, _, _⟩ := DataW.trod_int Tryz.underlying3 h
  exact ⟨n0, e0⟩

set_option maxRecDepth 100000 in
/-- A list of integers that came in reads as its cells. -/
theorem open_list {r : Reach} {b0 : Nat} {v : Value} {d : DataW H} {p : List MemPlace} (hv : Value.okWide Tryz.prog W r b0 22 v) (hj : DataW.Trod enc Tryz.prog W base spare held 22 v d p) :
    ∃ l : List Int, Rd W v 1 l.length (inVals l) ∧ l.length ≤ 9223372036854775807 := by
  obtain ⟨a, len, cap, rfl⟩ := okWide_slice Tryz.underlying22 hv
  obtain ⟨fuel, hf⟩ := hj
  rcases open_slice Tryz.underlying22 hf with ⟨hcs, _⟩ | ⟨x, l', c', m, n, D, Pl, hcs, hb, hl, hm, hmm, hx, hi⟩
  · simp [Value.cells] at hcs
    obtain ⟨rfl, rfl, rfl⟩ := hcs
    exact ⟨[], ⟨none, 0, rfl, Nat.le_refl _, by simp, by simp [inVals], fun h => by simp at h⟩, by simp⟩
  · simp [Value.cells] at hcs
    obtain ⟨rfl, rfl, rfl⟩ := hcs
    have hlm : len ≤ m := by rw [hmm]; split <;> omega
    have hC : Tryz.prog.cellsOf 3 = 1 := by kernel_rfl
    obtain ⟨l, hll, hp⟩ := list_of (P := fun i a => W.cell? (x.add i) = some (.int .i64 a)) len (fun i hi' => by
      obtain ⟨cs', hc, ht'⟩ := hi i (by omega)
      rw [hC] at hc
      obtain ⟨a, rfl⟩ := trod_one ht'
      obtain ⟨_, hcl, hat⟩ := World.cells?_some hc
      refine ⟨a, ?_⟩
      have h0 := hat 0 (by omega)
      simpa [Addr.add] using h0)
    subst hll
    refine ⟨l, ⟨some x, cap, rfl, hl, hm, by simp [inVals], fun hn => ?_⟩, by simp only [maxLen] at hm; omega⟩
    have h00 := hp 0 hn
    obtain ⟨b, off, spot⟩ := x
    have hspot : spot = none := by
      have := World.cell?_spot h00
      simpa [Addr.add] using this
    subst hspot
    rw [add_none] at h00
    refine ⟨b, off, rfl, World.block_lt_of_cell? W _ h00, fun j u hju => ?_⟩
    have hjl : j < l.length := by simpa [inVals] using (List.getElem?_eq_some_iff.1 hju).1
    have := hp j hjl
    rw [add_none] at this
    rw [this]
    simpa [inVals, List.getElem?_eq_getElem hjl] using hju
end

/-- The library's variable that the row names and does not list: it holds some number. -/
theorem mx_of_shaped {w : World} (h : w.ShapedOpen Tryz.prog) : Mx w := by
  obtain ⟨m, hm⟩ := cell_of_shapedOpen_int (P := Tryz.prog) (g := 0) (t := 3) (zero := #[.int .i64 0]) h (of_decide_eq_true (by kernel_rfl)) (by kernel_rfl) rfl (by kernel_rfl) (by kernel_rfl) Tryz.underlying3
  exact ⟨World.block_lt_of_cell? w _ hm, m, hm⟩
end Go.Proofs.YtbjbcfiieacamaaGreatDoor
