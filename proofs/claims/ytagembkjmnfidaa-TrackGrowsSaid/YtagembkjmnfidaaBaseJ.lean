import Derived.Test.YtagembkjmnfidaaBaseI
import Derived.Test.YtagembkjmnfidaaSpecF
namespace Go.Proofs.Ytagembkjmnfidaa
open Go.RowKit
open Go.Proofs.Ml
set_option linter.unusedVariables false
theorem Rd.at {w : World} {A : Option Addr} {n cap size : Nat} {cs : List Value} (h : Rd w (.slice A n cap) size n cs) (hn : 0 < n) : ∃ b off, A = some ⟨b, off, none⟩ ∧ b < w.heap.size ∧ ∀ j u, cs[j]? = some u → w.cell? ⟨b, off + j, none⟩ = some u := by
  obtain ⟨A', cap', hv, _, _, _, h3⟩ := h
  injection hv with e1 e2 e3
  subst e1
  exact h3 hn
end Go.Proofs.Ytagembkjmnfidaa
namespace Go.Proofs.Ml
theorem dt_sizes {x : List Chg} {m n : Int} (h : valid x m n = true) : ((mat 0 0 x m).length : Int) = m - szO x ∧ ((mat 0 0 x m).length : Int) = n - szN x ∧ 0 ≤ szO x ∧ szO x ≤ m ∧ 0 ≤ szN x ∧ szN x ≤ n := by
  have h1 := mat_length (valid_val h)
  have hb := (valid_val h).bounds
  have e1 := szO_sum (l := x) (fun c hc => inL_iff.2 (hb c hc).1.2.1)
  have e2 := szN_sum (l := x) (fun c hc => inL_iff.2 (hb c hc).1.2.2.2)
  have g1 := szO_range x
  have g2 := szN_range x
  omega
theorem swp_get (p : List Spn) (K : Nat) (h : K < (swp p).length) (h' : K < p.length) : (swp p)[K] = p[K].swap := by simp [swp]
theorem swp_len (p : List Spn) : (swp p).length = p.length := by simp [swp]
end Go.Proofs.Ml
namespace Go.Proofs.Ytagembkjmnfidaa
open Go.RowKit
open Go.Proofs.Ml
/-- A list lies where it lay, while only one block, and what is new, has turned. -/
theorem Rd.keep {w w' : World} {A : Option Addr} {size n cap : Nat} {cs : List Value} {row : Option Nat} (h : Rd w (.slice A n cap) size n cs) (hg : w.grownBy w' row) (hne : 0 < n → ∀ b off, A = some ⟨b, off, none⟩ → some b ≠ row) : Rd w' (.slice A n cap) size n cs := by
  obtain ⟨A', cap', hv, h1, h1', h2, h3⟩ := h
  injection hv with e1 e2 e3
  subst e1
  subst e3
  refine ⟨A, cap, rfl, h1, h1', h2, fun hn => ?_⟩
  obtain ⟨b, off, hA, hbl, hc⟩ := h3 hn
  exact ⟨b, off, hA, Nat.lt_of_lt_of_le hbl hg.size, fun j u hu => hg.cell (a := ⟨b, off + j, none⟩) (hc j u hu) (hne hn b off hA)⟩
theorem ne_before {A Ad : Option Addr} {n nd capd B : Nat} (h : 0 < n → ∃ g, A = some ⟨g, 0, none⟩ ∧ g < B) (hd : ∀ k, (Value.slice Ad nd capd).ownBlock = some k → B ≤ k) : 0 < n → ∀ b off, A = some ⟨b, off, none⟩ → some b ≠ (Value.slice Ad nd capd).ownBlock := by
  intro hn b off hA e
  obtain ⟨g, hg, hlt⟩ := h hn
  rw [hg] at hA
  injection hA with hA
  injection hA with hA _ _
  have := hd b e.symm
  omega
theorem ne_behind {A Ad : Option Addr} {n nd capd B : Nat} (h : 0 < n → ∃ g, A = some ⟨g, 0, none⟩ ∧ B ≤ g) (hd : ∀ k, (Value.slice Ad nd capd).ownBlock = some k → k < B) : 0 < n → ∀ b off, A = some ⟨b, off, none⟩ → some b ≠ (Value.slice Ad nd capd).ownBlock := by
  intro hn b off hA e
  obtain ⟨g, hg, hlt⟩ := h hn
  rw [hg] at hA
  injection hA with hA
  injection hA with hA _ _
  have := hd b e.symm
  omega
end Go.Proofs.Ytagembkjmnfidaa
