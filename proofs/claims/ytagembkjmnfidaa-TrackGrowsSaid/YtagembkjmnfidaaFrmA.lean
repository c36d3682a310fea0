import Derived.Test.YtagembkjmnfidaaMade
import Derived.Test.YtagembkjmnfidaaBaseC
import Derived.ArgAppend
namespace Go.Proofs.Ytagembkjmnfidaa
open Go.RowKit
open Go.Proofs.Ml
set_option linter.unusedVariables false

set_option maxRecDepth 100000 in
set_option maxHeartbeats 400000 in
theorem clip92 (A : Option Addr) (n cap : Nat) (w : World) (hn : n ≤ cap) (hA : 0 < n → ∃ b off, A = some ⟨b, off, none⟩) :
    Calls Try.prog 92 #[.slice A n cap] w fun e w' => e = .returned (.slice A n n) ∧ w = w' := by
  rcases Nat.eq_zero_or_pos n with h0 | h0
  · subst h0
    clear hA
    go_enter Try.func92, Try.ntmps92
    go_wp2_with fail
    go_ret
    exact ⟨rfl, rfl⟩
  · obtain ⟨b, off, rfl⟩ := hA h0
    have h1 : ¬ (n = 0) := by omega
    go_enter Try.func92, Try.ntmps92
    go_wp2_with fail
    go_ret
    exact ⟨rfl, rfl⟩

/-- append(s, x): one element more, onto a slice without room. -/
theorem wp_grow1 {P : Program} {ops : Array Oper} {rest : List Oper} {o : Oper} {a : Act} {Q : Exit → Act → World → Prop} {WW : World} (hgd : o.guard = none) (s x : Operand) (t e : TypeId) (size bytes : Nat) (z : Value)
    (ho : o.op = .call { callee := .builtin .append, args := #[s, x], argTypes := #[t, t] }) (ht : P.underlying t = some (.slice e))
    (hinfo : (P.info? e).map (fun i => (i.zero, i.size, i.bytes)) = some (some z, size, bytes)) (hzs : z.cells.size = size) (hsz : 0 < size) (hbytes : bytes ≤ 1000)
    (W : World) (n : Nat) (A : Option Addr) (xs : List Value) (hs : a.eval s = .slice A n n) (hrd : Rd W (.slice A n n) size n xs) (news : Array Value) (H : Nat) (hx : a.eval x = .slice (some ⟨H, 0, none⟩) 1 1) (hH : W.heap.size = H)
    (hW : WW = W.alloc (.cells news e)) (hl : news.size = size) (h1' : news.toList.all Value.oneCell' = true) (hn : n ≤ 1000000)
    (h : ∀ v' w', w'.ownsRow W.heap.size e size v' (n + 1) (xs ++ news.toList) → Below W.heap.size W w' → wpList P ops Q rest (a.put o.dst v') w') :
    wpList P ops Q (o :: rest) a WW := by
  subst hW
  subst hH
  have h1 : ∀ u ∈ news.toList, u.oneCell' = true := List.all_eq_true.1 h1'
  obtain ⟨i0, hi, hz0, hz1, hz2⟩ := info_parts hinfo
  obtain ⟨A', cap', hv, _, _, hlen, hA⟩ := hrd
  obtain ⟨rfl, rfl⟩ : A = A' ∧ n = cap' := by injection hv with e1 e2 e3; exact ⟨e1, e3⟩
  have hbn : (n + 1) * bytes ≤ 140737488355328 := Nat.le_trans (Nat.mul_le_mul (show n + 1 ≤ 1000001 by omega) hbytes) (by decide)
  refine wpList_append_grows (W.alloc (.cells news e)) hgd s x t ho e i0 z size bytes ht hi hz0 hz1 hz2 hzs hsz A n n xs hs ?_ hlen ?_ ⟨W.heap.size, 0, none⟩ 1 1 news.toList hx (by simpa using hl) ?_ h1 (by omega) (by simp only [maxLen]; omega) hbn ?_
  · intro hA0
    rcases Nat.eq_zero_or_pos n with h0 | h0
    · exact ⟨h0, h0⟩
    · obtain ⟨b, off, hb, _⟩ := hA h0
      rw [hA0] at hb; cases hb
  · intro b hb j u hu
    have h0 : 0 < n := by
      rcases Nat.eq_zero_or_pos n with h0 | h0
      · subst h0
        have : xs = [] := List.eq_nil_of_length_eq_zero (by simpa using hlen)
        rw [this] at hu; simp at hu
      · exact h0
    obtain ⟨b', off, hb', hlt, hc⟩ := hA h0
    rw [hb'] at hb
    cases hb
    have e1 : (⟨b', off, none⟩ : Addr).add j = ⟨b', off + j, none⟩ := by unfold Addr.add; split <;> simp_all
    rw [e1, World.cell?_alloc_lt W _ ⟨b', off + j, none⟩ hlt]
    exact hc j u hu
  · intro j u hu
    have hc := cell_of_row (W.alloc (.cells news e)) W.heap.size j news e (0, 0) (heap_alloc_new W _)
    rw [add_head, hc]
    simpa using hu
  · intro v' w' hown' hg
    refine h v' w' (own_base hown' (by simp)) ?_
    exact ((Below.refl W.heap.size W).alloc (Nat.le_refl _) _).grown hg (by simp) (fun k hk => by cases hk)
end Go.Proofs.Ytagembkjmnfidaa
